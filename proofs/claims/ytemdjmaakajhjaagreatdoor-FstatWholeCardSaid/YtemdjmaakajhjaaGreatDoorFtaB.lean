/- Numbers as texts of digits, fractions, values and the functions of fmath: contracts of the program's functions, joined from smaller texts. Conditions stand at each theorem. -/
import Derived.Test.YtemdjmaakajhjaaGreatDoorFtaA
import Derived.Test.YtemdjmaakajhjaaGreatDoorNumH

/- package fstat: functions of a row of fractions. Conditions: what the small functions give. -/
namespace Go.Proofs.YtemdjmaakajhjaaGreatDoor.Num.Ft
open Go.RowKit Go.Lib Num

/-- what a function of a row of fractions gives -/
def RowF (f : FuncId) (qs : List Rat) (v : Value) : Prop := ∀ (W : World) (g C : Nat), FracsAt W g qs → EnvY W → Calls Tryz.prog f #[.slice (some ⟨g, 0, none⟩) qs.length C] W fun e w' => e = .returned v ∧ Below W.heap.size W w'
/-- what stays while the row is gone through -/
structure SumI (W : World) (B3 B4 : Nat) (m s : Rat) (wx : World) : Prop where
  h2 : wx.heap[W.heap.size]? = some (.cells #[.string { data := #[] }, .string { data := #[] }] 24 (0, 0))
  h3 : wx.heap[B3]? = some (.cells #[.string (numS m), .string (denS m)] 24 (0, 0))
  h4 : wx.heap[B4]? = some (.cells #[.string (numS s), .string (denS s)] 24 (0, 0))
  low : Below W.heap.size W wx
attribute [local irreducible] wpOp
set_option linter.unusedSimpArgs false in
set_option linter.unusedVariables false in
set_option maxHeartbeats 4000000 in
set_option maxRecDepth 100000 in
theorem mean_walk (s n m : Rat) (qs : List Rat) (g C : Nat) (W : World) (hs : RowF 52 qs (.agg #[.string (numS s), .string (denS s)]))
    (c0 : Fun1 29 (.int .i64 ((qs.length : Int))) (.agg #[.string (numS n), .string (denS n)]))
    (c1 : Fun2 51 (.agg #[.string (numS s), .string (denS s)]) (.agg #[.string (numS n), .string (denS n)]) (.agg #[.string (numS m), .string (denS m)]))
    (h9 : qs.length ≤ 1000000) (hfa : FracsAt W g qs) (hE : EnvY W) :
    Calls Tryz.prog 163 #[.slice (some ⟨g, 0, none⟩) qs.length C] W fun e w' => e = .returned (.agg #[.string (numS m), .string (denS m)]) ∧ Below W.heap.size W w' := by
  have HFA := Lib.hid hfa
  have Qhs := Lib.hid hs
  unfold RowF at Qhs
  have Qc0 := Lib.hid c0
  unfold Fun1 at Qc0
  have Qc1 := Lib.hid c1
  unfold Fun2 at Qc1
  obtain ⟨L, hLL⟩ : ∃ L, qs.length = L := ⟨_, rfl⟩
  have HLL := Lib.hid hLL
  rw [hLL]
  rw [hLL] at Qhs Qc0 h9
  have HE0 := Lib.hid hE
  have HG := Lib.hid (show Below W.heap.size W (W.alloc (.cells #[.string { data := #[] }, .string { data := #[] }] 24)) from ((Below.refl _ _).alloc (Nat.le_refl _) _))
  have H2 : Hid ((W.alloc (.cells #[.string { data := #[] }, .string { data := #[] }] 24)).heap[W.heap.size]? = some (.cells #[.string { data := #[] }, .string { data := #[] }] 24 (0, 0))) := Lib.hid (by
    have h := heap_alloc_new W (.cells #[.string { data := #[] }, .string { data := #[] }] 24)
    exact h)
  obtain ⟨W0, hW0⟩ : ∃ Z, (W.alloc (.cells #[.string { data := #[] }, .string { data := #[] }] 24)) = Z := ⟨_, rfl⟩
  rw [hW0] at HG H2
  have EW0 := Lib.hid hW0
  have HE := Lib.hid (HE0.out.below HG.out)
  clear hW0 hE  hfa hLL hs c0 c1
  go_enter Tryz.func163, Tryz.ntmps163
  go_wp2_with fail
  rw [EW0.out]
  refine (Qhs.out _ _ _ (HFA.out.below HG.out) HE.out).mono ?_
  rintro e w1 ⟨rfl, hb⟩
  replace H2 := Lib.hid (keep_block H2.out hb)
  replace HE := Lib.hid (HE.out.below hb)
  replace HG := Lib.hid (HG.out.trans (hb.mono HG.out.size))
  clear hb
  go_wp2_with fail
  refine (Qc0.out _ HE.out).mono ?_
  rintro e w2 ⟨rfl, hb⟩
  replace H2 := Lib.hid (keep_block H2.out hb)
  replace HE := Lib.hid (HE.out.below hb)
  replace HG := Lib.hid (HG.out.trans (hb.mono HG.out.size))
  clear hb
  go_wp2_with fail
  refine (Qc1.out _ HE.out).mono ?_
  rintro e w3 ⟨rfl, hb⟩
  replace H2 := Lib.hid (keep_block H2.out hb)
  replace HE := Lib.hid (HE.out.below hb)
  replace HG := Lib.hid (HG.out.trans (hb.mono HG.out.size))
  clear hb
  obtain ⟨⟨x2_0, x2_1⟩, x2_f0, x2_f1⟩ := two_at H2.out
  have n2 := set2_at H2.out (.string (numS m)) (.string (denS m))
  have hgl : Below W.heap.size W ((w3.setCell ⟨W.heap.size, 0, none⟩ (.string (numS m))).setCell ⟨W.heap.size, 1, none⟩ (.string (denS m))) := HG.out.trans (put2_below (show W.heap.size ≤ W.heap.size from (by omega)) w3 (.string (numS m)) (.string (denS m)))
  clear HG
  have HG := Lib.hid hgl
  clear hgl
  obtain ⟨⟨r2_0, r2_1⟩, _⟩ := two_at n2
  go_wp2
  refine bodyPost_ret (v := .agg #[.string (numS m), .string (denS m)]) (by simp [results, Tryz.results163, go_sem, r2_0, r2_1]) rfl ⟨rfl, HG.out⟩

set_option linter.unusedSimpArgs false in
set_option linter.unusedVariables false in
set_option maxHeartbeats 4000000 in
set_option maxRecDepth 100000 in
theorem variance_walk (s n m : Rat) (qs : List Rat) (g C : Nat) (W : World) (hs : RowF 161 qs (.agg #[.string (numS s), .string (denS s)]))
    (c0 : Fun1 29 (.int .i64 ((qs.length : Int) - 1)) (.agg #[.string (numS n), .string (denS n)]))
    (c1 : Fun2 51 (.agg #[.string (numS s), .string (denS s)]) (.agg #[.string (numS n), .string (denS n)]) (.agg #[.string (numS m), .string (denS m)]))
    (h9 : qs.length ≤ 1000000) (hfa : FracsAt W g qs) (hE : EnvY W) :
    Calls Tryz.prog 164 #[.slice (some ⟨g, 0, none⟩) qs.length C] W fun e w' => e = .returned (.agg #[.string (numS m), .string (denS m)]) ∧ Below W.heap.size W w' := by
  have HFA := Lib.hid hfa
  have Qhs := Lib.hid hs
  unfold RowF at Qhs
  have Qc0 := Lib.hid c0
  unfold Fun1 at Qc0
  have Qc1 := Lib.hid c1
  unfold Fun2 at Qc1
  obtain ⟨L, hLL⟩ : ∃ L, qs.length = L := ⟨_, rfl⟩
  have HLL := Lib.hid hLL
  rw [hLL]
  rw [hLL] at Qhs Qc0 h9
  have hwL : IntKind.i64.wrap ((L : Int) - 1) = (L : Int) - 1 := IntWalk.i64_in _ (by omega)
  have HE0 := Lib.hid hE
  have HG := Lib.hid (show Below W.heap.size W (W.alloc (.cells #[.string { data := #[] }, .string { data := #[] }] 24)) from ((Below.refl _ _).alloc (Nat.le_refl _) _))
  have H2 : Hid ((W.alloc (.cells #[.string { data := #[] }, .string { data := #[] }] 24)).heap[W.heap.size]? = some (.cells #[.string { data := #[] }, .string { data := #[] }] 24 (0, 0))) := Lib.hid (by
    have h := heap_alloc_new W (.cells #[.string { data := #[] }, .string { data := #[] }] 24)
    exact h)
  obtain ⟨W0, hW0⟩ : ∃ Z, (W.alloc (.cells #[.string { data := #[] }, .string { data := #[] }] 24)) = Z := ⟨_, rfl⟩
  rw [hW0] at HG H2
  have EW0 := Lib.hid hW0
  have HE := Lib.hid (HE0.out.below HG.out)
  clear hW0 hE  hfa hLL hs c0 c1
  go_enter Tryz.func164, Tryz.ntmps164
  go_wp2_with fail
  rw [EW0.out]
  refine (Qhs.out _ _ _ (HFA.out.below HG.out) HE.out).mono ?_
  rintro e w1 ⟨rfl, hb⟩
  replace H2 := Lib.hid (keep_block H2.out hb)
  replace HE := Lib.hid (HE.out.below hb)
  replace HG := Lib.hid (HG.out.trans (hb.mono HG.out.size))
  clear hb
  go_wp2_with fail
  refine (Qc0.out _ HE.out).mono ?_
  rintro e w2 ⟨rfl, hb⟩
  replace H2 := Lib.hid (keep_block H2.out hb)
  replace HE := Lib.hid (HE.out.below hb)
  replace HG := Lib.hid (HG.out.trans (hb.mono HG.out.size))
  clear hb
  go_wp2_with fail
  refine (Qc1.out _ HE.out).mono ?_
  rintro e w3 ⟨rfl, hb⟩
  replace H2 := Lib.hid (keep_block H2.out hb)
  replace HE := Lib.hid (HE.out.below hb)
  replace HG := Lib.hid (HG.out.trans (hb.mono HG.out.size))
  clear hb
  obtain ⟨⟨x2_0, x2_1⟩, x2_f0, x2_f1⟩ := two_at H2.out
  have n2 := set2_at H2.out (.string (numS m)) (.string (denS m))
  have hgl : Below W.heap.size W ((w3.setCell ⟨W.heap.size, 0, none⟩ (.string (numS m))).setCell ⟨W.heap.size, 1, none⟩ (.string (denS m))) := HG.out.trans (put2_below (show W.heap.size ≤ W.heap.size from (by omega)) w3 (.string (numS m)) (.string (denS m)))
  clear HG
  have HG := Lib.hid hgl
  clear hgl
  obtain ⟨⟨r2_0, r2_1⟩, _⟩ := two_at n2
  go_wp2
  refine bodyPost_ret (v := .agg #[.string (numS m), .string (denS m)]) (by simp [results, Tryz.results164, go_sem, r2_0, r2_1]) rfl ⟨rfl, HG.out⟩

set_option linter.unusedSimpArgs false in
set_option linter.unusedVariables false in
set_option maxHeartbeats 4000000 in
set_option maxRecDepth 100000 in
theorem varp_walk (s n m : Rat) (qs : List Rat) (g C : Nat) (W : World) (hs : RowF 161 qs (.agg #[.string (numS s), .string (denS s)]))
    (c0 : Fun1 29 (.int .i64 ((qs.length : Int))) (.agg #[.string (numS n), .string (denS n)]))
    (c1 : Fun2 51 (.agg #[.string (numS s), .string (denS s)]) (.agg #[.string (numS n), .string (denS n)]) (.agg #[.string (numS m), .string (denS m)]))
    (h9 : qs.length ≤ 1000000) (hfa : FracsAt W g qs) (hE : EnvY W) :
    Calls Tryz.prog 165 #[.slice (some ⟨g, 0, none⟩) qs.length C] W fun e w' => e = .returned (.agg #[.string (numS m), .string (denS m)]) ∧ Below W.heap.size W w' := by
  have HFA := Lib.hid hfa
  have Qhs := Lib.hid hs
  unfold RowF at Qhs
  have Qc0 := Lib.hid c0
  unfold Fun1 at Qc0
  have Qc1 := Lib.hid c1
  unfold Fun2 at Qc1
  obtain ⟨L, hLL⟩ : ∃ L, qs.length = L := ⟨_, rfl⟩
  have HLL := Lib.hid hLL
  rw [hLL]
  rw [hLL] at Qhs Qc0 h9
  have HE0 := Lib.hid hE
  have HG := Lib.hid (show Below W.heap.size W (W.alloc (.cells #[.string { data := #[] }, .string { data := #[] }] 24)) from ((Below.refl _ _).alloc (Nat.le_refl _) _))
  have H2 : Hid ((W.alloc (.cells #[.string { data := #[] }, .string { data := #[] }] 24)).heap[W.heap.size]? = some (.cells #[.string { data := #[] }, .string { data := #[] }] 24 (0, 0))) := Lib.hid (by
    have h := heap_alloc_new W (.cells #[.string { data := #[] }, .string { data := #[] }] 24)
    exact h)
  obtain ⟨W0, hW0⟩ : ∃ Z, (W.alloc (.cells #[.string { data := #[] }, .string { data := #[] }] 24)) = Z := ⟨_, rfl⟩
  rw [hW0] at HG H2
  have EW0 := Lib.hid hW0
  have HE := Lib.hid (HE0.out.below HG.out)
  clear hW0 hE  hfa hLL hs c0 c1
  go_enter Tryz.func165, Tryz.ntmps165
  go_wp2_with fail
  rw [EW0.out]
  refine (Qhs.out _ _ _ (HFA.out.below HG.out) HE.out).mono ?_
  rintro e w1 ⟨rfl, hb⟩
  replace H2 := Lib.hid (keep_block H2.out hb)
  replace HE := Lib.hid (HE.out.below hb)
  replace HG := Lib.hid (HG.out.trans (hb.mono HG.out.size))
  clear hb
  go_wp2_with fail
  refine (Qc0.out _ HE.out).mono ?_
  rintro e w2 ⟨rfl, hb⟩
  replace H2 := Lib.hid (keep_block H2.out hb)
  replace HE := Lib.hid (HE.out.below hb)
  replace HG := Lib.hid (HG.out.trans (hb.mono HG.out.size))
  clear hb
  go_wp2_with fail
  refine (Qc1.out _ HE.out).mono ?_
  rintro e w3 ⟨rfl, hb⟩
  replace H2 := Lib.hid (keep_block H2.out hb)
  replace HE := Lib.hid (HE.out.below hb)
  replace HG := Lib.hid (HG.out.trans (hb.mono HG.out.size))
  clear hb
  obtain ⟨⟨x2_0, x2_1⟩, x2_f0, x2_f1⟩ := two_at H2.out
  have n2 := set2_at H2.out (.string (numS m)) (.string (denS m))
  have hgl : Below W.heap.size W ((w3.setCell ⟨W.heap.size, 0, none⟩ (.string (numS m))).setCell ⟨W.heap.size, 1, none⟩ (.string (denS m))) := HG.out.trans (put2_below (show W.heap.size ≤ W.heap.size from (by omega)) w3 (.string (numS m)) (.string (denS m)))
  clear HG
  have HG := Lib.hid hgl
  clear hgl
  obtain ⟨⟨r2_0, r2_1⟩, _⟩ := two_at n2
  go_wp2
  refine bodyPost_ret (v := .agg #[.string (numS m), .string (denS m)]) (by simp [results, Tryz.results165, go_sem, r2_0, r2_1]) rfl ⟨rfl, HG.out⟩

set_option linter.unusedVariables false in
/-- what the operations of region 6 yield -/
def devsq_walkKs6 (m s q d u y : Rat) (k g L C : Nat) (W w2 w3 wr : World) : List RK :=
  [.pure (.agg #[.string (numS s), .string (denS s)]),
   .pure (.agg #[.string (numS d), .string (denS d)]),
   .pure (.agg #[.string (numS d), .string (denS d)]),
   .pure (.agg #[.string (numS u), .string (denS u)]),
   .pure (.agg #[.string (numS y), .string (denS y)]),
   .put 8,
   .box (some (W.heap.size)) #[.string { data := #[] }, .string { data := #[] }] #[.string { data := #[] }, .string { data := #[] }] 24 10,
   .box (some (w2.heap.size)) #[.string (numS m), .string (denS m)] #[.string (numS m), .string (denS m)] 24 10,
   .box (some (w2.heap.size + 1)) #[.string (numS s), .string (denS s)] #[.string (numS y), .string (denS y)] 24 5,
   .box (some (w3.heap.size)) #[.string (numS d), .string (denS d)] #[.string (numS d), .string (denS d)] 24 10]
set_option linter.unusedSimpArgs false in
set_option linter.unusedVariables false in
set_option maxHeartbeats 4000000 in
set_option maxRecDepth 100000 in
theorem devsq_walk (m z : Rat) (S D E : Nat → Rat) (qs : List Rat) (g C : Nat) (W : World) (hm : RowF 163 qs (.agg #[.string (numS m), .string (denS m)]))
    (c0 : Fun1 29 (.int .i64 0) (.agg #[.string (numS z), .string (denS z)]))
    (h9 : qs.length ≤ 1000000)
    (hS : S 0 = z)
    (hd : ∀ (k : Nat) (h : k < qs.length), Fun2 147 (fracV qs[k]) (fracV m) (fracV (D k)))
    (he : ∀ (k : Nat), k < qs.length → Fun2 144 (fracV (D k)) (fracV (D k)) (fracV (E k)))
    (ha : ∀ (k : Nat), k < qs.length → Fun2 140 (fracV (S k)) (fracV (E k)) (fracV (S (k + 1)))) (hfa : FracsAt W g qs) (hE : EnvY W) :
    Calls Tryz.prog 161 #[.slice (some ⟨g, 0, none⟩) qs.length C] W fun e w' => e = .returned (.agg #[.string (numS (S qs.length)), .string (denS (S qs.length))]) ∧ Below W.heap.size W w' := by
  have HFA := Lib.hid hfa
  have Qhm := Lib.hid hm
  unfold RowF at Qhm
  have Qc0 := Lib.hid c0
  unfold Fun1 at Qc0
  have Qhd := Lib.hid hd
  have Qhe := Lib.hid he
  have Qha := Lib.hid ha
  obtain ⟨L, hLL⟩ : ∃ L, qs.length = L := ⟨_, rfl⟩
  have HLL := Lib.hid hLL
  rw [hLL]
  rw [hLL] at Qhm h9
  have HS := Lib.hid hS
  have HE0 := Lib.hid hE
  have HG := Lib.hid (show Below W.heap.size W (W.alloc (.cells #[.string { data := #[] }, .string { data := #[] }] 24)) from ((Below.refl _ _).alloc (Nat.le_refl _) _))
  have H2 : Hid ((W.alloc (.cells #[.string { data := #[] }, .string { data := #[] }] 24)).heap[W.heap.size]? = some (.cells #[.string { data := #[] }, .string { data := #[] }] 24 (0, 0))) := Lib.hid (by
    have h := heap_alloc_new W (.cells #[.string { data := #[] }, .string { data := #[] }] 24)
    exact h)
  obtain ⟨W0, hW0⟩ : ∃ Z, (W.alloc (.cells #[.string { data := #[] }, .string { data := #[] }] 24)) = Z := ⟨_, rfl⟩
  rw [hW0] at HG H2
  have EW0 := Lib.hid hW0
  have HE := Lib.hid (HE0.out.below HG.out)
  clear hW0 hE  hfa hLL hm c0 hS hd he ha
  go_enter Tryz.func161, Tryz.ntmps161
  go_wp2_with fail
  rw [EW0.out]
  refine (Qhm.out _ _ _ (HFA.out.below HG.out) HE.out).mono ?_
  rintro e w1 ⟨rfl, hb⟩
  replace H2 := Lib.hid (keep_block H2.out hb)
  replace HE := Lib.hid (HE.out.below hb)
  replace HG := Lib.hid (HG.out.trans (hb.mono HG.out.size))
  clear hb
  go_wp2_with fail
  refine (Qc0.out _ HE.out).mono ?_
  rintro e w2 ⟨rfl, hb⟩
  replace H2 := Lib.hid (keep_block H2.out hb)
  replace HE := Lib.hid (HE.out.below hb)
  replace HG := Lib.hid (HG.out.trans (hb.mono HG.out.size))
  clear hb
  have lt_2 := heap_lt H2.out
  have geW := HG.out.size
  have L3_2 : Hid (W.heap.size < w2.heap.size) := Lib.hid (by omega)
  have G3 : Hid (W.heap.size ≤ w2.heap.size) := Lib.hid (by omega)
  have hb : Below w2.heap.size w2 (w2.alloc (.cells #[.string (numS m), .string (denS m)] 24)) := (Below.refl _ _).alloc (Nat.le_refl _) _
  replace H2 := Lib.hid (keep_block H2.out hb)
  replace HE := Lib.hid (HE.out.below hb)
  replace HG := Lib.hid (HG.out.trans (hb.mono HG.out.size))
  have H3 := Lib.hid (heap_alloc_new w2 (.cells #[.string (numS m), .string (denS m)] 24))
  clear hb
  have L4_2 : Hid (W.heap.size < w2.heap.size + 1) := Lib.hid (by omega)
  have L4_3 : Hid (w2.heap.size < w2.heap.size + 1) := Lib.hid (by omega)
  have G4 : Hid (W.heap.size ≤ w2.heap.size + 1) := Lib.hid (by omega)
  have hb : Below (w2.alloc (.cells #[.string (numS m), .string (denS m)] 24)).heap.size (w2.alloc (.cells #[.string (numS m), .string (denS m)] 24)) ((w2.alloc (.cells #[.string (numS m), .string (denS m)] 24)).alloc (.cells #[.string (numS z), .string (denS z)] 24)) := (Below.refl _ _).alloc (Nat.le_refl _) _
  replace H2 := Lib.hid (keep_block H2.out hb)
  replace H3 := Lib.hid (keep_block H3.out hb)
  replace HE := Lib.hid (HE.out.below hb)
  replace HG := Lib.hid (HG.out.trans (hb.mono HG.out.size))
  have H4 : Hid (((w2.alloc (.cells #[.string (numS m), .string (denS m)] 24)).alloc (.cells #[.string (numS z), .string (denS z)] 24)).heap[w2.heap.size + 1]? = some (.cells #[.string (numS z), .string (denS z)] 24 (0, 0))) := Lib.hid (by
    have h := heap_alloc_new (w2.alloc (.cells #[.string (numS m), .string (denS m)] 24)) (.cells #[.string (numS z), .string (denS z)] 24)
    simp only [World.size_alloc] at h
    exact h)
  clear hb
  clear geW lt_2
  obtain ⟨WL1, hWL1⟩ : ∃ Z, ((w2.alloc (.cells #[.string (numS m), .string (denS m)] 24)).alloc (.cells #[.string (numS z), .string (denS z)] 24)) = Z := ⟨_, rfl⟩
  rw [hWL1] at HE HG H2 H3 H4
  have EWL1 := Lib.hid hWL1
  clear hWL1
  go_wp2_with fail
  rw [EWL1.out]
  go_loopg [13] L (fun gh v13 wx => ∃ k : Nat, v13 = .int .i64 (k : Int) ∧ k ≤ L ∧ gh = L - k ∧ SumI W (w2.heap.size) (w2.heap.size + 1) m (S k) wx)
  case atStart => exact ⟨0, rfl, Nat.zero_le _, rfl, ⟨H2.out, H3.out, by rw [HS.out]; exact H4.out, HG.out⟩⟩
  case round =>
    clear H2 H3 H4 HG HE
    obtain ⟨k, rfl, hk, hgk, hI⟩ := hrel
    have H2 := Lib.hid hI.h2
    have H3 := Lib.hid hI.h3
    have H4 := Lib.hid hI.h4
    have HG := Lib.hid hI.low
    have HE := Lib.hid (HE0.out.below hI.low)
    clear hI
    by_cases hlt : k < L
    · have hdd : decide ((k : Int) < (L : Int)) = true := decide_eq_true (by omega)
      have hdd2 : decide (k < L) = true := decide_eq_true hlt
      have hi0 : (0 : Int) ≤ (k : Int) := by omega
      have hi1 : (k : Int) < (L : Int) := by omega
      have hwk : IntKind.i64.wrap ((k : Int) + 1) = (k : Int) + 1 := IntWalk.i64_in _ (by omega)
      have hkq : k < qs.length := by have := HLL.out; omega
      have QD := Lib.hid (Qhd.out k hkq)
      have QE := Lib.hid (Qhe.out k hkq)
      have QA := Lib.hid (Qha.out k hkq)
      have hcell := HFA.out k hkq
      obtain ⟨q, hq⟩ : ∃ q, qs[k] = q := ⟨_, rfl⟩
      rw [hq] at QD hcell
      have HC0 := Lib.hid (cell_below hcell.1 HG.out)
      have HC1 := Lib.hid (cell_below hcell.2 HG.out)
      obtain ⟨s, hs⟩ : ∃ s, S k = s := ⟨_, rfl⟩
      obtain ⟨d, hdk⟩ : ∃ d, D k = d := ⟨_, rfl⟩
      obtain ⟨u, huk⟩ : ∃ u, E k = u := ⟨_, rfl⟩
      obtain ⟨y, hy⟩ : ∃ y, S (k + 1) = y := ⟨_, rfl⟩
      rw [hdk] at QD QE
      rw [huk] at QE QA
      rw [hs] at QA H4
      rw [hy] at QA
      have HY := Lib.hid hy
      rw [fracV_is q, fracV_is m, fracV_is d] at QD
      rw [fracV_is s, fracV_is u, fracV_is y] at QA
      unfold Fun2 at QD QA
      clear hq hs hdk huk hy hcell hkq
      rw [fracV_is d, fracV_is u] at QE
      unfold Fun2 at QE
      have z0 := HC0.out
      have z1 := HC1.out
      have lt_2 := heap_lt H2.out
      have lt_3 := heap_lt H3.out
      have lt_4 := heap_lt H4.out
      have geW := HG.out.size
      have L6_2 : Hid (W.heap.size < wr.heap.size) := Lib.hid (by omega)
      have L6_3 : Hid (w2.heap.size < wr.heap.size) := Lib.hid (by omega)
      have L6_4 : Hid (w2.heap.size + 1 < wr.heap.size) := Lib.hid (by omega)
      have G6 : Hid (W.heap.size ≤ wr.heap.size) := Lib.hid (by omega)
      have hb : Below wr.heap.size wr (wr.alloc (.cells #[.string (numS q), .string (denS q)] 24)) := (Below.refl _ _).alloc (Nat.le_refl _) _
      replace H2 := Lib.hid (keep_block H2.out hb)
      replace H3 := Lib.hid (keep_block H3.out hb)
      replace H4 := Lib.hid (keep_block H4.out hb)
      replace HE := Lib.hid (HE.out.below hb)
      replace HG := Lib.hid (HG.out.trans (hb.mono HG.out.size))
      have H6 := Lib.hid (heap_alloc_new wr (.cells #[.string (numS q), .string (denS q)] 24))
      clear hb
      clear geW lt_2 lt_3 lt_4
      obtain ⟨WL2, hWL2⟩ : ∃ Z, (wr.alloc (.cells #[.string (numS q), .string (denS q)] 24)) = Z := ⟨_, rfl⟩
      rw [hWL2] at HE HG H2 H3 H4 H6
      have EWL2 := Lib.hid hWL2
      clear hWL2
      go_upto_region 5 with fail
      rw [EWL2.out]
      clear z0 z1 HC0 HC1
      obtain ⟨⟨x6_0, x6_1⟩, x6_f0, x6_f1⟩ := two_at H6.out
      obtain ⟨⟨x3_0, x3_1⟩, x3_f0, x3_f1⟩ := two_at H3.out
      go_wp2_with fail
      refine (QD.out _ HE.out).mono ?_
      clear x6_0 x6_1 x6_f0 x6_f1
      clear x3_0 x3_1 x3_f0 x3_f1
      rintro e w3 ⟨rfl, hb⟩
      replace H2 := Lib.hid (keep_block H2.out hb)
      replace H3 := Lib.hid (keep_block H3.out hb)
      replace H4 := Lib.hid (keep_block H4.out hb)
      replace H6 := Lib.hid (keep_block H6.out hb)
      replace HE := Lib.hid (HE.out.below hb)
      replace HG := Lib.hid (HG.out.trans (hb.mono HG.out.size))
      clear hb
      have lt_2 := heap_lt H2.out
      have lt_3 := heap_lt H3.out
      have lt_4 := heap_lt H4.out
      have lt_6 := heap_lt H6.out
      have geW := HG.out.size
      have L7_2 : Hid (W.heap.size < w3.heap.size) := Lib.hid (by omega)
      have L7_3 : Hid (w2.heap.size < w3.heap.size) := Lib.hid (by omega)
      have L7_4 : Hid (w2.heap.size + 1 < w3.heap.size) := Lib.hid (by omega)
      have L7_6 : Hid (wr.heap.size < w3.heap.size) := Lib.hid (by omega)
      have G7 : Hid (W.heap.size ≤ w3.heap.size) := Lib.hid (by omega)
      have hb : Below w3.heap.size w3 (w3.alloc (.cells #[.string (numS d), .string (denS d)] 24)) := (Below.refl _ _).alloc (Nat.le_refl _) _
      replace H2 := Lib.hid (keep_block H2.out hb)
      replace H3 := Lib.hid (keep_block H3.out hb)
      replace H4 := Lib.hid (keep_block H4.out hb)
      replace H6 := Lib.hid (keep_block H6.out hb)
      replace HE := Lib.hid (HE.out.below hb)
      replace HG := Lib.hid (HG.out.trans (hb.mono HG.out.size))
      have H7 := Lib.hid (heap_alloc_new w3 (.cells #[.string (numS d), .string (denS d)] 24))
      clear hb
      clear geW lt_2 lt_3 lt_4 lt_6
      obtain ⟨WL3, hWL3⟩ : ∃ Z, (w3.alloc (.cells #[.string (numS d), .string (denS d)] 24)) = Z := ⟨_, rfl⟩
      rw [hWL3] at HE HG H2 H3 H4 H6 H7
      have EWL3 := Lib.hid hWL3
      clear hWL3
      go_wp2_with fail
      rw [EWL3.out]
      have := L3_2.out
      have := L4_2.out
      have := L4_3.out
      have := L7_2.out
      have := L7_3.out
      have := L7_4.out
      have := HG.out.size
      have := G3.out
      have := G4.out
      have := G7.out
      have hok : okB 6 (devsq_walkKs6 m s q d u y k g L C W w2 w3 wr) = true := by kernel_rfl
      have hna := noAny_of (ks := (devsq_walkKs6 m s q d u y k g L C W w2 w3 wr)) (by kernel_rfl)
      have hla := lasts_of hna
      refine wp_region_facts (row := none) (w := W) 6 (devsq_walkKs6 m s q d u y k g L C W w2 w3 wr) [some 20, some 21, some 22, some 23, some 24, none] (by kernel_rfl) (by kernel_rfl) rfl [u20, u21, u22, u23, u24, undef, .pointer (some ⟨W.heap.size, 0, none⟩), .pointer (some ⟨w2.heap.size, 0, none⟩), .pointer (some ⟨w2.heap.size + 1, 0, none⟩), .pointer (some ⟨w3.heap.size, 0, none⟩)] ?h00 (Fs.start_olds hla rfl (only_of_below HG.out none) ⟨⟨_, rfl, fun _ h => Option.some.inj h, by omega, H2.out⟩, fun _ => ⟨fun _ => far_of (by omega), fun _ => far_of (by omega), fun _ => far_of (by omega), trivial⟩, ⟨⟨_, rfl, fun _ h => Option.some.inj h, by omega, H3.out⟩, fun _ => ⟨fun _ => far_of (by omega), fun _ => far_of (by omega), trivial⟩, ⟨⟨_, rfl, fun _ h => Option.some.inj h, by omega, H4.out⟩, fun _ => ⟨fun _ => far_of (by omega), trivial⟩, ⟨⟨_, rfl, fun _ h => Option.some.inj h, by omega, H7.out⟩, fun _ => trivial, trivial⟩⟩⟩⟩) ?hs ?hd
      case h00 => simp only [putO, layL]
      case hs =>
        rintro listed vs Wr hF i hi hun hpre
        obtain ⟨s0, s1, s2, s3, s4, s5, o0, o1, o2, o3, hvs⟩ := exl_of 10 vs (fun l => vs = l) hF.len rfl
        subst hvs
        obtain ⟨eG0, gG0, hO0⟩ := old_of hF (i := 6) rfl (.inl (by decide))
        replace eG0 : o0 = _ := eG0
        subst eG0
        obtain ⟨eG1, gG1, hO1⟩ := old_of hF (i := 7) rfl (.inl (by decide))
        replace eG1 : o1 = _ := eG1
        subst eG1
        obtain ⟨eG2, gG2, hO2⟩ := old_of hF (i := 8) rfl (.inl (by decide))
        replace eG2 : o2 = _ := eG2
        subst eG2
        obtain ⟨eG3, gG3, hO3⟩ := old_of hF (i := 9) rfl (.inl (by decide))
        replace eG3 : o3 = _ := eG3
        subst eG3
        have hge := Nat.zero_le i
        simp only [putO, layL]
        rcases Nat.lt_or_ge i 3 with hlt | hgt
        · replace hi := hlt
          clear hlt
          rcases Nat.lt_or_ge i 1 with hlt | hgt
          · replace hi := hlt
            clear hlt
            obtain rfl := eqi hi hge
            rw [if_neg (fun h => bit_off hun (hF.back 5 0 h (by kernel_rfl)))] at hO2
            have hcc := (two_at (hO2)).1
            have cH40 := hcc.1
            have cH41 := hcc.2
            clear hcc
            refine step_of ⟨some 20, _, _, _, _, _⟩ rfl (fun K' hK => ?_)
            go_simp
            refine hK.out _ _ ⟨_, hF.pure hok hla hpre rfl (Below.refl _ _), ?fr⟩
            case fr => simp only [putO, layL]
          · replace hge : 1 ≤ i := hgt
            clear hgt
            rcases Nat.lt_or_ge i 2 with hlt | hgt
            · replace hi := hlt
              clear hlt
              obtain rfl := eqi hi hge
              rw [if_neg (hF.unst (by decide))] at hO3
              have hcc := (two_at (hO3)).1
              have cH70 := hcc.1
              have cH71 := hcc.2
              clear hcc
              refine step_of ⟨some 21, _, _, _, _, _⟩ rfl (fun K' hK => ?_)
              go_simp
              refine hK.out _ _ ⟨_, hF.pure hok hla hpre rfl (Below.refl _ _), ?fr⟩
              case fr => simp only [putO, layL]
            · replace hge : 2 ≤ i := hgt
              clear hgt
              obtain rfl := eqi hi hge
              rw [if_neg (hF.unst (by decide))] at hO3
              have hcc := (two_at (hO3)).1
              have cH70 := hcc.1
              have cH71 := hcc.2
              clear hcc
              refine step_of ⟨some 22, _, _, _, _, _⟩ rfl (fun K' hK => ?_)
              go_simp
              refine hK.out _ _ ⟨_, hF.pure hok hla hpre rfl (Below.refl _ _), ?fr⟩
              case fr => simp only [putO, layL]
        · replace hge : 3 ≤ i := hgt
          clear hgt
          rcases Nat.lt_or_ge i 4 with hlt | hgt
          · replace hi := hlt
            clear hlt
            obtain rfl := eqi hi hge
            have p1 := hpre 1 (by kernel_rfl)
            have e1 : s1 = .agg #[.string (numS d), .string (denS d)] := hF.get 1 _ rfl (.inr p1)
            subst e1
            have p2 := hpre 2 (by kernel_rfl)
            have e2 : s2 = .agg #[.string (numS d), .string (denS d)] := hF.get 2 _ rfl (.inr p2)
            subst e2
            refine step_of ⟨some 23, _, _, _, _, _⟩ rfl (fun K' hK => ?_)
            go_simp
            go_at_call 144
            (with_reducible refine (QE.out _ (HE0.out.below (below_none hF.low))).mono ?_)
            rintro e Wq ⟨rfl, hq⟩
            refine hK.out _ _ ⟨_, hF.pure hok hla hpre rfl hq, ?fr⟩
            case fr => simp only [putO, layL]
          · replace hge : 4 ≤ i := hgt
            clear hgt
            rcases Nat.lt_or_ge i 5 with hlt | hgt
            · replace hi := hlt
              clear hlt
              obtain rfl := eqi hi hge
              have p0 := hpre 0 (by kernel_rfl)
              have e0 : s0 = .agg #[.string (numS s), .string (denS s)] := hF.get 0 _ rfl (.inr p0)
              subst e0
              have p3 := hpre 3 (by kernel_rfl)
              have e3 : s3 = .agg #[.string (numS u), .string (denS u)] := hF.get 3 _ rfl (.inr p3)
              subst e3
              refine step_of ⟨some 24, _, _, _, _, _⟩ rfl (fun K' hK => ?_)
              go_simp
              go_at_call 140
              (with_reducible refine (QA.out _ (HE0.out.below (below_none hF.low))).mono ?_)
              rintro e Wq ⟨rfl, hq⟩
              refine hK.out _ _ ⟨_, hF.pure hok hla hpre rfl hq, ?fr⟩
              case fr => simp only [putO, layL]
            · replace hge : 5 ≤ i := hgt
              clear hgt
              obtain rfl := eqi hi hge
              have p4 := hpre 4 (by kernel_rfl)
              have e4 : s4 = .agg #[.string (numS y), .string (denS y)] := hF.get 4 _ rfl (.inr p4)
              subst e4
              rw [if_neg (bit_off hun)] at hO2
              have HGB := Lib.hid hO2
              obtain ⟨⟨y0, y1⟩, g0, g1⟩ := two_at HGB.out
              refine step_of ⟨none, _, _, _, _, _⟩ rfl (fun K' hK => ?_)
              go_simp
              refine hK.out _ _ ⟨undef, hF.put hok hna hpre hun rfl undef rfl (.inl (by decide)) rfl (set2_at HGB.out (.string (numS y)) (.string (denS y))) (fun k hk => set2_other _ _ (.string (numS y)) (.string (denS y)) hk) (put2_below gG2 _ (.string (numS y)) (.string (denS y))), ?fr⟩
              case fr => simp only [putO, layL]
      case hd =>
        rintro listed vs WB hF hall
        obtain ⟨s0, s1, s2, s3, s4, s5, o0, o1, o2, o3, hvs⟩ := exl_of 10 vs (fun l => vs = l) hF.len rfl
        subst hvs
        obtain ⟨eG0, gG0, hO0⟩ := old_of hF (i := 6) rfl (.inl (by decide))
        replace eG0 : o0 = _ := eG0
        subst eG0
        obtain ⟨eG1, gG1, hO1⟩ := old_of hF (i := 7) rfl (.inl (by decide))
        replace eG1 : o1 = _ := eG1
        subst eG1
        obtain ⟨eG2, gG2, hO2⟩ := old_of hF (i := 8) rfl (.inl (by decide))
        replace eG2 : o2 = _ := eG2
        subst eG2
        obtain ⟨eG3, gG3, hO3⟩ := old_of hF (i := 9) rfl (.inl (by decide))
        replace eG3 : o3 = _ := eG3
        subst eG3
        rw [if_neg (hF.unst (by decide))] at hO0
        replace H2 := Lib.hid hO0
        clear hO0
        rw [if_neg (hF.unst (by decide))] at hO1
        replace H3 := Lib.hid hO1
        clear hO1
        rw [if_pos (hall 5 (by decide))] at hO2
        replace H4 := Lib.hid hO2
        clear hO2
        rw [if_neg (hF.unst (by decide))] at hO3
        replace H7 := Lib.hid hO3
        clear hO3
        have HQ := Lib.hid hF.low
        clear hF hall hok hna hla
        simp only [putO, layL]
        replace HG := Lib.hid (below_none HQ.out)
        clear HQ
        replace HE := Lib.hid (HE0.out.below HG.out)
        clear H6
        have HI := Lib.hid (show SumI W (w2.heap.size) (w2.heap.size + 1) m y _ from ⟨H2.out, H3.out, H4.out, HG.out⟩)
        go_wp2
        go_roundg (L - (k + 1))
        case measure => omega
        case rel => exact ⟨k + 1, by go_num, by omega, by omega, by rw [HY.out]; exact HI.out⟩
    · have hdd : decide ((k : Int) < (L : Int)) = false := decide_eq_false (by omega)
      have hdd2 : decide (k < L) = false := decide_eq_false hlt
      have hkL : k = L := by omega
      subst hkL
      obtain ⟨s, hs⟩ : ∃ s, S k = s := ⟨_, rfl⟩
      rw [hs] at H4
      have HS0 := Lib.hid hs
      clear hs hlt
      obtain ⟨⟨x4_0, x4_1⟩, x4_f0, x4_f1⟩ := two_at H4.out
      obtain ⟨⟨x2_0, x2_1⟩, x2_f0, x2_f1⟩ := two_at H2.out
      have n2 := set2_at H2.out (.string (numS s)) (.string (denS s))
      have hgl : Below W.heap.size W ((wr.setCell ⟨W.heap.size, 0, none⟩ (.string (numS s))).setCell ⟨W.heap.size, 1, none⟩ (.string (denS s))) := HG.out.trans (put2_below (show W.heap.size ≤ W.heap.size from (by omega)) wr (.string (numS s)) (.string (denS s)))
      clear HG
      have HG := Lib.hid hgl
      clear hgl
      obtain ⟨⟨r2_0, r2_1⟩, _⟩ := two_at n2
      go_wp2
      refine bodyPost_ret (v := .agg #[.string (numS s), .string (denS s)]) (by simp [results, Tryz.results161, go_sem, r2_0, r2_1]) rfl ⟨by rw [HS0.out], HG.out⟩

set_option linter.unusedVariables false in
/-- what the operations of region 10 yield -/
def avedev_walkKs10 (m s n r : Rat) (k g C : Nat) (W w2 : World) : List RK :=
  [.pure (.agg #[.string (numS s), .string (denS s)]),
   .pure (.slice (some ⟨g, 0, none⟩) k C),
   .pure (.int .i64 (k : Int)),
   .pure (.agg #[.string (numS n), .string (denS n)]),
   .pure (.agg #[.string (numS r), .string (denS r)]),
   .put 6,
   .box (some (W.heap.size)) #[.string { data := #[] }, .string { data := #[] }] #[.string (numS r), .string (denS r)] 24 5,
   .box (some (w2.heap.size + 1)) #[.string (numS s), .string (denS s)] #[.string (numS s), .string (denS s)] 24 8]
set_option linter.unusedSimpArgs false in
set_option linter.unusedVariables false in
set_option maxHeartbeats 4000000 in
set_option maxRecDepth 100000 in
theorem avedev_walk (m z n r : Rat) (S D E : Nat → Rat) (G : Nat → Int) (qs : List Rat) (g C : Nat) (W : World) (hm : RowF 163 qs (.agg #[.string (numS m), .string (denS m)]))
    (c0 : Fun1 29 (.int .i64 0) (.agg #[.string (numS z), .string (denS z)]))
    (h9 : qs.length ≤ 1000000)
    (hS : S 0 = z)
    (hd : ∀ (k : Nat) (h : k < qs.length), Fun2 147 (fracV qs[k]) (fracV m) (fracV (D k)))
    (hg : ∀ (k : Nat), k < qs.length → Fun1 156 (fracV (D k)) (.int .i64 (G k)))
    (he : ∀ (k : Nat) (h : k < qs.length), (G k < 0 → Fun2 147 (fracV m) (fracV qs[k]) (fracV (E k))) ∧ (¬ G k < 0 → E k = D k))
    (ha : ∀ (k : Nat), k < qs.length → Fun2 140 (fracV (S k)) (fracV (E k)) (fracV (S (k + 1))))
    (c1 : Fun1 29 (.int .i64 (qs.length : Int)) (.agg #[.string (numS n), .string (denS n)]))
    (c2 : Fun2 51 (fracV (S qs.length)) (.agg #[.string (numS n), .string (denS n)]) (.agg #[.string (numS r), .string (denS r)])) (hfa : FracsAt W g qs) (hE : EnvY W) :
    Calls Tryz.prog 162 #[.slice (some ⟨g, 0, none⟩) qs.length C] W fun e w' => e = .returned (.agg #[.string (numS r), .string (denS r)]) ∧ Below W.heap.size W w' := by
  have HFA := Lib.hid hfa
  have Qhm := Lib.hid hm
  unfold RowF at Qhm
  have Qc0 := Lib.hid c0
  unfold Fun1 at Qc0
  have Qhd := Lib.hid hd
  have Qhe := Lib.hid he
  have Qha := Lib.hid ha
  have Qhg := Lib.hid hg
  have Qc1 := Lib.hid c1
  unfold Fun1 at Qc1
  have Qc2 := Lib.hid c2
  unfold Fun2 at Qc2
  obtain ⟨L, hLL⟩ : ∃ L, qs.length = L := ⟨_, rfl⟩
  have HLL := Lib.hid hLL
  rw [hLL]
  rw [hLL] at Qhm Qc1 Qc2 h9
  have HS := Lib.hid hS
  have HE0 := Lib.hid hE
  have HG := Lib.hid (show Below W.heap.size W (W.alloc (.cells #[.string { data := #[] }, .string { data := #[] }] 24)) from ((Below.refl _ _).alloc (Nat.le_refl _) _))
  have H2 : Hid ((W.alloc (.cells #[.string { data := #[] }, .string { data := #[] }] 24)).heap[W.heap.size]? = some (.cells #[.string { data := #[] }, .string { data := #[] }] 24 (0, 0))) := Lib.hid (by
    have h := heap_alloc_new W (.cells #[.string { data := #[] }, .string { data := #[] }] 24)
    exact h)
  obtain ⟨W0, hW0⟩ : ∃ Z, (W.alloc (.cells #[.string { data := #[] }, .string { data := #[] }] 24)) = Z := ⟨_, rfl⟩
  rw [hW0] at HG H2
  have EW0 := Lib.hid hW0
  have HE := Lib.hid (HE0.out.below HG.out)
  clear hW0 hE  hfa hLL hm c0 hS hd hg he ha c1 c2
  go_enter Tryz.func162, Tryz.ntmps162
  go_wp2_with fail
  rw [EW0.out]
  refine (Qhm.out _ _ _ (HFA.out.below HG.out) HE.out).mono ?_
  rintro e w1 ⟨rfl, hb⟩
  replace H2 := Lib.hid (keep_block H2.out hb)
  replace HE := Lib.hid (HE.out.below hb)
  replace HG := Lib.hid (HG.out.trans (hb.mono HG.out.size))
  clear hb
  go_wp2_with fail
  refine (Qc0.out _ HE.out).mono ?_
  rintro e w2 ⟨rfl, hb⟩
  replace H2 := Lib.hid (keep_block H2.out hb)
  replace HE := Lib.hid (HE.out.below hb)
  replace HG := Lib.hid (HG.out.trans (hb.mono HG.out.size))
  clear hb
  have lt_2 := heap_lt H2.out
  have geW := HG.out.size
  have L3_2 : Hid (W.heap.size < w2.heap.size) := Lib.hid (by omega)
  have G3 : Hid (W.heap.size ≤ w2.heap.size) := Lib.hid (by omega)
  have hb : Below w2.heap.size w2 (w2.alloc (.cells #[.string (numS m), .string (denS m)] 24)) := (Below.refl _ _).alloc (Nat.le_refl _) _
  replace H2 := Lib.hid (keep_block H2.out hb)
  replace HE := Lib.hid (HE.out.below hb)
  replace HG := Lib.hid (HG.out.trans (hb.mono HG.out.size))
  have H3 := Lib.hid (heap_alloc_new w2 (.cells #[.string (numS m), .string (denS m)] 24))
  clear hb
  have L4_2 : Hid (W.heap.size < w2.heap.size + 1) := Lib.hid (by omega)
  have L4_3 : Hid (w2.heap.size < w2.heap.size + 1) := Lib.hid (by omega)
  have G4 : Hid (W.heap.size ≤ w2.heap.size + 1) := Lib.hid (by omega)
  have hb : Below (w2.alloc (.cells #[.string (numS m), .string (denS m)] 24)).heap.size (w2.alloc (.cells #[.string (numS m), .string (denS m)] 24)) ((w2.alloc (.cells #[.string (numS m), .string (denS m)] 24)).alloc (.cells #[.string (numS z), .string (denS z)] 24)) := (Below.refl _ _).alloc (Nat.le_refl _) _
  replace H2 := Lib.hid (keep_block H2.out hb)
  replace H3 := Lib.hid (keep_block H3.out hb)
  replace HE := Lib.hid (HE.out.below hb)
  replace HG := Lib.hid (HG.out.trans (hb.mono HG.out.size))
  have H4 : Hid (((w2.alloc (.cells #[.string (numS m), .string (denS m)] 24)).alloc (.cells #[.string (numS z), .string (denS z)] 24)).heap[w2.heap.size + 1]? = some (.cells #[.string (numS z), .string (denS z)] 24 (0, 0))) := Lib.hid (by
    have h := heap_alloc_new (w2.alloc (.cells #[.string (numS m), .string (denS m)] 24)) (.cells #[.string (numS z), .string (denS z)] 24)
    simp only [World.size_alloc] at h
    exact h)
  clear hb
  clear geW lt_2
  obtain ⟨WL1, hWL1⟩ : ∃ Z, ((w2.alloc (.cells #[.string (numS m), .string (denS m)] 24)).alloc (.cells #[.string (numS z), .string (denS z)] 24)) = Z := ⟨_, rfl⟩
  rw [hWL1] at HE HG H2 H3 H4
  have EWL1 := Lib.hid hWL1
  clear hWL1
  go_wp2_with fail
  rw [EWL1.out]
  go_loopg [13] L (fun gh v13 wx => ∃ k : Nat, v13 = .int .i64 (k : Int) ∧ k ≤ L ∧ gh = L - k ∧ SumI W (w2.heap.size) (w2.heap.size + 1) m (S k) wx)
  case atStart => exact ⟨0, rfl, Nat.zero_le _, rfl, ⟨H2.out, H3.out, by rw [HS.out]; exact H4.out, HG.out⟩⟩
  case round =>
    clear H2 H3 H4 HG HE
    obtain ⟨k, rfl, hk, hgk, hI⟩ := hrel
    have H2 := Lib.hid hI.h2
    have H3 := Lib.hid hI.h3
    have H4 := Lib.hid hI.h4
    have HG := Lib.hid hI.low
    have HE := Lib.hid (HE0.out.below hI.low)
    clear hI
    by_cases hlt : k < L
    · have hdd : decide ((k : Int) < (L : Int)) = true := decide_eq_true (by omega)
      have hdd2 : decide (k < L) = true := decide_eq_true hlt
      have hi0 : (0 : Int) ≤ (k : Int) := by omega
      have hi1 : (k : Int) < (L : Int) := by omega
      have hwk : IntKind.i64.wrap ((k : Int) + 1) = (k : Int) + 1 := IntWalk.i64_in _ (by omega)
      have hkq : k < qs.length := by have := HLL.out; omega
      have QD := Lib.hid (Qhd.out k hkq)
      have QE := Lib.hid (Qhe.out k hkq)
      have QA := Lib.hid (Qha.out k hkq)
      have QG := Lib.hid (Qhg.out k hkq)
      have hcell := HFA.out k hkq
      obtain ⟨q, hq⟩ : ∃ q, qs[k] = q := ⟨_, rfl⟩
      rw [hq] at QD hcell QE
      have HC0 := Lib.hid (cell_below hcell.1 HG.out)
      have HC1 := Lib.hid (cell_below hcell.2 HG.out)
      obtain ⟨s, hs⟩ : ∃ s, S k = s := ⟨_, rfl⟩
      obtain ⟨d, hdk⟩ : ∃ d, D k = d := ⟨_, rfl⟩
      obtain ⟨u, huk⟩ : ∃ u, E k = u := ⟨_, rfl⟩
      obtain ⟨y, hy⟩ : ∃ y, S (k + 1) = y := ⟨_, rfl⟩
      rw [hdk] at QD QE QG
      rw [huk] at QE QA
      rw [hs] at QA H4
      rw [hy] at QA
      have HY := Lib.hid hy
      rw [fracV_is q, fracV_is m, fracV_is d] at QD
      rw [fracV_is s, fracV_is u, fracV_is y] at QA
      unfold Fun2 at QD QA
      obtain ⟨gk, hgk⟩ : ∃ x, G k = x := ⟨_, rfl⟩
      rw [hgk] at QG QE
      rw [fracV_is d] at QG
      unfold Fun1 at QG
      clear hgk
      clear hq hs hdk huk hy hcell hkq
      have z0 := HC0.out
      have z1 := HC1.out
      have lt_2 := heap_lt H2.out
      have lt_3 := heap_lt H3.out
      have lt_4 := heap_lt H4.out
      have geW := HG.out.size
      have L6_2 : Hid (W.heap.size < wr.heap.size) := Lib.hid (by omega)
      have L6_3 : Hid (w2.heap.size < wr.heap.size) := Lib.hid (by omega)
      have L6_4 : Hid (w2.heap.size + 1 < wr.heap.size) := Lib.hid (by omega)
      have G6 : Hid (W.heap.size ≤ wr.heap.size) := Lib.hid (by omega)
      have hb : Below wr.heap.size wr (wr.alloc (.cells #[.string (numS q), .string (denS q)] 24)) := (Below.refl _ _).alloc (Nat.le_refl _) _
      replace H2 := Lib.hid (keep_block H2.out hb)
      replace H3 := Lib.hid (keep_block H3.out hb)
      replace H4 := Lib.hid (keep_block H4.out hb)
      replace HE := Lib.hid (HE.out.below hb)
      replace HG := Lib.hid (HG.out.trans (hb.mono HG.out.size))
      have H6 := Lib.hid (heap_alloc_new wr (.cells #[.string (numS q), .string (denS q)] 24))
      clear hb
      clear geW lt_2 lt_3 lt_4
      obtain ⟨WL2, hWL2⟩ : ∃ Z, (wr.alloc (.cells #[.string (numS q), .string (denS q)] 24)) = Z := ⟨_, rfl⟩
      rw [hWL2] at HE HG H2 H3 H4 H6
      have EWL2 := Lib.hid hWL2
      clear hWL2
      go_upto_region 5 with fail
      rw [EWL2.out]
      clear z0 z1 HC0 HC1
      obtain ⟨⟨x6_0, x6_1⟩, x6_f0, x6_f1⟩ := two_at H6.out
      obtain ⟨⟨x3_0, x3_1⟩, x3_f0, x3_f1⟩ := two_at H3.out
      go_wp2_with fail
      refine (QD.out _ HE.out).mono ?_
      clear x6_0 x6_1 x6_f0 x6_f1
      clear x3_0 x3_1 x3_f0 x3_f1
      rintro e w3 ⟨rfl, hb⟩
      replace H2 := Lib.hid (keep_block H2.out hb)
      replace H3 := Lib.hid (keep_block H3.out hb)
      replace H4 := Lib.hid (keep_block H4.out hb)
      replace H6 := Lib.hid (keep_block H6.out hb)
      replace HE := Lib.hid (HE.out.below hb)
      replace HG := Lib.hid (HG.out.trans (hb.mono HG.out.size))
      clear hb
      have lt_2 := heap_lt H2.out
      have lt_3 := heap_lt H3.out
      have lt_4 := heap_lt H4.out
      have lt_6 := heap_lt H6.out
      have geW := HG.out.size
      have L7_2 : Hid (W.heap.size < w3.heap.size) := Lib.hid (by omega)
      have L7_3 : Hid (w2.heap.size < w3.heap.size) := Lib.hid (by omega)
      have L7_4 : Hid (w2.heap.size + 1 < w3.heap.size) := Lib.hid (by omega)
      have L7_6 : Hid (wr.heap.size < w3.heap.size) := Lib.hid (by omega)
      have G7 : Hid (W.heap.size ≤ w3.heap.size) := Lib.hid (by omega)
      have hb : Below w3.heap.size w3 (w3.alloc (.cells #[.string (numS d), .string (denS d)] 24)) := (Below.refl _ _).alloc (Nat.le_refl _) _
      replace H2 := Lib.hid (keep_block H2.out hb)
      replace H3 := Lib.hid (keep_block H3.out hb)
      replace H4 := Lib.hid (keep_block H4.out hb)
      replace H6 := Lib.hid (keep_block H6.out hb)
      replace HE := Lib.hid (HE.out.below hb)
      replace HG := Lib.hid (HG.out.trans (hb.mono HG.out.size))
      have H7 := Lib.hid (heap_alloc_new w3 (.cells #[.string (numS d), .string (denS d)] 24))
      clear hb
      clear geW lt_2 lt_3 lt_4 lt_6
      obtain ⟨WL3, hWL3⟩ : ∃ Z, (w3.alloc (.cells #[.string (numS d), .string (denS d)] 24)) = Z := ⟨_, rfl⟩
      rw [hWL3] at HE HG H2 H3 H4 H6 H7
      have EWL3 := Lib.hid hWL3
      clear hWL3
      obtain ⟨⟨x7_0, x7_1⟩, x7_f0, x7_f1⟩ := two_at H7.out
      go_wp2_with fail
      rw [EWL3.out]
      refine (QG.out _ HE.out).mono ?_
      clear x7_0 x7_1 x7_f0 x7_f1
      rintro e w4 ⟨rfl, hb⟩
      replace H2 := Lib.hid (keep_block H2.out hb)
      replace H3 := Lib.hid (keep_block H3.out hb)
      replace H4 := Lib.hid (keep_block H4.out hb)
      replace H6 := Lib.hid (keep_block H6.out hb)
      replace H7 := Lib.hid (keep_block H7.out hb)
      replace HE := Lib.hid (HE.out.below hb)
      replace HG := Lib.hid (HG.out.trans (hb.mono HG.out.size))
      clear hb
      by_cases hG : gk < 0
      · have hsg : decide (gk < 0) = true := decide_eq_true hG
        have QU := Lib.hid (QE.out.1 hG)
        rw [fracV_is m, fracV_is q, fracV_is u] at QU
        unfold Fun2 at QU
        obtain ⟨⟨x3_0, x3_1⟩, x3_f0, x3_f1⟩ := two_at H3.out
        obtain ⟨⟨x6_0, x6_1⟩, x6_f0, x6_f1⟩ := two_at H6.out
        go_wp2_with fail
        refine (QU.out _ HE.out).mono ?_
        clear x3_0 x3_1 x3_f0 x3_f1
        clear x6_0 x6_1 x6_f0 x6_f1
        rintro e w5 ⟨rfl, hb⟩
        replace H2 := Lib.hid (keep_block H2.out hb)
        replace H3 := Lib.hid (keep_block H3.out hb)
        replace H4 := Lib.hid (keep_block H4.out hb)
        replace H6 := Lib.hid (keep_block H6.out hb)
        replace H7 := Lib.hid (keep_block H7.out hb)
        replace HE := Lib.hid (HE.out.below hb)
        replace HG := Lib.hid (HG.out.trans (hb.mono HG.out.size))
        clear hb
        have k2 : ((w5.setCell ⟨w3.heap.size, 0, none⟩ (.string (numS u))).setCell ⟨w3.heap.size, 1, none⟩ (.string (denS u))).heap[W.heap.size]? = some (.cells #[.string { data := #[] }, .string { data := #[] }] 24 (0, 0)) := (set2_other _ _ (.string (numS u)) (.string (denS u)) (show W.heap.size ≠ w3.heap.size from by have := L7_2.out; omega)).trans H2.out
        have k3 : ((w5.setCell ⟨w3.heap.size, 0, none⟩ (.string (numS u))).setCell ⟨w3.heap.size, 1, none⟩ (.string (denS u))).heap[w2.heap.size]? = some (.cells #[.string (numS m), .string (denS m)] 24 (0, 0)) := (set2_other _ _ (.string (numS u)) (.string (denS u)) (show w2.heap.size ≠ w3.heap.size from by have := L7_3.out; omega)).trans H3.out
        have k4 : ((w5.setCell ⟨w3.heap.size, 0, none⟩ (.string (numS u))).setCell ⟨w3.heap.size, 1, none⟩ (.string (denS u))).heap[w2.heap.size + 1]? = some (.cells #[.string (numS s), .string (denS s)] 24 (0, 0)) := (set2_other _ _ (.string (numS u)) (.string (denS u)) (show w2.heap.size + 1 ≠ w3.heap.size from by have := L7_4.out; omega)).trans H4.out
        have k6 : ((w5.setCell ⟨w3.heap.size, 0, none⟩ (.string (numS u))).setCell ⟨w3.heap.size, 1, none⟩ (.string (denS u))).heap[wr.heap.size]? = some (.cells #[.string (numS q), .string (denS q)] 24 (0, 0)) := (set2_other _ _ (.string (numS u)) (.string (denS u)) (show wr.heap.size ≠ w3.heap.size from by have := L7_6.out; omega)).trans H6.out
        have knew := set2_at H7.out (.string (numS u)) (.string (denS u))
        have kgr := HG.out.trans (put2_below (show W.heap.size ≤ w3.heap.size from G7.out) w5 (.string (numS u)) (.string (denS u)))
        obtain ⟨⟨x7_0, x7_1⟩, x7_f0, x7_f1⟩ := two_at H7.out
        obtain ⟨WS4, hW⟩ : ∃ Z, ((w5.setCell ⟨w3.heap.size, 0, none⟩ (.string (numS u))).setCell ⟨w3.heap.size, 1, none⟩ (.string (denS u))) = Z := ⟨_, rfl⟩
        rw [hW] at knew kgr k2 k3 k4 k6
        have EWS4 := Lib.hid hW
        clear hW
        replace H7 := Lib.hid knew
        replace HG := Lib.hid kgr
        replace HE := Lib.hid (HE0.out.below kgr)
        replace H2 := Lib.hid k2
        replace H3 := Lib.hid k3
        replace H4 := Lib.hid k4
        replace H6 := Lib.hid k6
        clear knew kgr k2 k3 k4 k6
        go_upto_region 8 with fail
        rw [EWS4.out]
        clear x7_0 x7_1 x7_f0 x7_f1
        obtain ⟨⟨x4_0, x4_1⟩, x4_f0, x4_f1⟩ := two_at H4.out
        obtain ⟨⟨x7_0, x7_1⟩, x7_f0, x7_f1⟩ := two_at H7.out
        go_wp2_with fail
        refine (QA.out _ HE.out).mono ?_
        clear x4_0 x4_1 x4_f0 x4_f1
        clear x7_0 x7_1 x7_f0 x7_f1
        rintro e w6 ⟨rfl, hb⟩
        replace H2 := Lib.hid (keep_block H2.out hb)
        replace H3 := Lib.hid (keep_block H3.out hb)
        replace H4 := Lib.hid (keep_block H4.out hb)
        replace H6 := Lib.hid (keep_block H6.out hb)
        replace H7 := Lib.hid (keep_block H7.out hb)
        replace HE := Lib.hid (HE.out.below hb)
        replace HG := Lib.hid (HG.out.trans (hb.mono HG.out.size))
        clear hb
        have k2 : ((w6.setCell ⟨w2.heap.size + 1, 0, none⟩ (.string (numS y))).setCell ⟨w2.heap.size + 1, 1, none⟩ (.string (denS y))).heap[W.heap.size]? = some (.cells #[.string { data := #[] }, .string { data := #[] }] 24 (0, 0)) := (set2_other _ _ (.string (numS y)) (.string (denS y)) (show W.heap.size ≠ w2.heap.size + 1 from by have := L4_2.out; omega)).trans H2.out
        have k3 : ((w6.setCell ⟨w2.heap.size + 1, 0, none⟩ (.string (numS y))).setCell ⟨w2.heap.size + 1, 1, none⟩ (.string (denS y))).heap[w2.heap.size]? = some (.cells #[.string (numS m), .string (denS m)] 24 (0, 0)) := (set2_other _ _ (.string (numS y)) (.string (denS y)) (show w2.heap.size ≠ w2.heap.size + 1 from by have := L4_3.out; omega)).trans H3.out
        have k6 : ((w6.setCell ⟨w2.heap.size + 1, 0, none⟩ (.string (numS y))).setCell ⟨w2.heap.size + 1, 1, none⟩ (.string (denS y))).heap[wr.heap.size]? = some (.cells #[.string (numS q), .string (denS q)] 24 (0, 0)) := (set2_other _ _ (.string (numS y)) (.string (denS y)) (show wr.heap.size ≠ w2.heap.size + 1 from by have := L6_4.out; omega)).trans H6.out
        have k7 : ((w6.setCell ⟨w2.heap.size + 1, 0, none⟩ (.string (numS y))).setCell ⟨w2.heap.size + 1, 1, none⟩ (.string (denS y))).heap[w3.heap.size]? = some (.cells #[.string (numS u), .string (denS u)] 24 (0, 0)) := (set2_other _ _ (.string (numS y)) (.string (denS y)) (show w3.heap.size ≠ w2.heap.size + 1 from by have := L7_4.out; omega)).trans H7.out
        have knew := set2_at H4.out (.string (numS y)) (.string (denS y))
        have kgr := HG.out.trans (put2_below (show W.heap.size ≤ w2.heap.size + 1 from G4.out) w6 (.string (numS y)) (.string (denS y)))
        obtain ⟨⟨x4_0, x4_1⟩, x4_f0, x4_f1⟩ := two_at H4.out
        replace H4 := Lib.hid knew
        replace HG := Lib.hid kgr
        replace HE := Lib.hid (HE0.out.below kgr)
        replace H2 := Lib.hid k2
        replace H3 := Lib.hid k3
        replace H6 := Lib.hid k6
        replace H7 := Lib.hid k7
        clear knew kgr k2 k3 k6 k7
        have HI := Lib.hid (show SumI W (w2.heap.size) (w2.heap.size + 1) m y _ from ⟨H2.out, H3.out, H4.out, HG.out⟩)
        go_wp2
        go_roundg (L - (k + 1))
        case measure => omega
        case rel => exact ⟨k + 1, by go_num, by omega, by omega, by rw [HY.out]; exact HI.out⟩

      · have hsg : decide (gk < 0) = false := decide_eq_false hG
        have hud := QE.out.2 (by omega)
        rw [hud] at QA
        obtain ⟨⟨x4_0, x4_1⟩, x4_f0, x4_f1⟩ := two_at H4.out
        obtain ⟨⟨x7_0, x7_1⟩, x7_f0, x7_f1⟩ := two_at H7.out
        go_wp2_with fail
        refine (QA.out _ HE.out).mono ?_
        clear x4_0 x4_1 x4_f0 x4_f1
        clear x7_0 x7_1 x7_f0 x7_f1
        rintro e w7 ⟨rfl, hb⟩
        replace H2 := Lib.hid (keep_block H2.out hb)
        replace H3 := Lib.hid (keep_block H3.out hb)
        replace H4 := Lib.hid (keep_block H4.out hb)
        replace H6 := Lib.hid (keep_block H6.out hb)
        replace H7 := Lib.hid (keep_block H7.out hb)
        replace HE := Lib.hid (HE.out.below hb)
        replace HG := Lib.hid (HG.out.trans (hb.mono HG.out.size))
        clear hb
        have k2 : ((w7.setCell ⟨w2.heap.size + 1, 0, none⟩ (.string (numS y))).setCell ⟨w2.heap.size + 1, 1, none⟩ (.string (denS y))).heap[W.heap.size]? = some (.cells #[.string { data := #[] }, .string { data := #[] }] 24 (0, 0)) := (set2_other _ _ (.string (numS y)) (.string (denS y)) (show W.heap.size ≠ w2.heap.size + 1 from by have := L4_2.out; omega)).trans H2.out
        have k3 : ((w7.setCell ⟨w2.heap.size + 1, 0, none⟩ (.string (numS y))).setCell ⟨w2.heap.size + 1, 1, none⟩ (.string (denS y))).heap[w2.heap.size]? = some (.cells #[.string (numS m), .string (denS m)] 24 (0, 0)) := (set2_other _ _ (.string (numS y)) (.string (denS y)) (show w2.heap.size ≠ w2.heap.size + 1 from by have := L4_3.out; omega)).trans H3.out
        have k6 : ((w7.setCell ⟨w2.heap.size + 1, 0, none⟩ (.string (numS y))).setCell ⟨w2.heap.size + 1, 1, none⟩ (.string (denS y))).heap[wr.heap.size]? = some (.cells #[.string (numS q), .string (denS q)] 24 (0, 0)) := (set2_other _ _ (.string (numS y)) (.string (denS y)) (show wr.heap.size ≠ w2.heap.size + 1 from by have := L6_4.out; omega)).trans H6.out
        have k7 : ((w7.setCell ⟨w2.heap.size + 1, 0, none⟩ (.string (numS y))).setCell ⟨w2.heap.size + 1, 1, none⟩ (.string (denS y))).heap[w3.heap.size]? = some (.cells #[.string (numS d), .string (denS d)] 24 (0, 0)) := (set2_other _ _ (.string (numS y)) (.string (denS y)) (show w3.heap.size ≠ w2.heap.size + 1 from by have := L7_4.out; omega)).trans H7.out
        have knew := set2_at H4.out (.string (numS y)) (.string (denS y))
        have kgr := HG.out.trans (put2_below (show W.heap.size ≤ w2.heap.size + 1 from G4.out) w7 (.string (numS y)) (.string (denS y)))
        obtain ⟨⟨x4_0, x4_1⟩, x4_f0, x4_f1⟩ := two_at H4.out
        replace H4 := Lib.hid knew
        replace HG := Lib.hid kgr
        replace HE := Lib.hid (HE0.out.below kgr)
        replace H2 := Lib.hid k2
        replace H3 := Lib.hid k3
        replace H6 := Lib.hid k6
        replace H7 := Lib.hid k7
        clear knew kgr k2 k3 k6 k7
        have HI := Lib.hid (show SumI W (w2.heap.size) (w2.heap.size + 1) m y _ from ⟨H2.out, H3.out, H4.out, HG.out⟩)
        go_wp2
        go_roundg (L - (k + 1))
        case measure => omega
        case rel => exact ⟨k + 1, by go_num, by omega, by omega, by rw [HY.out]; exact HI.out⟩
    · have hdd : decide ((k : Int) < (L : Int)) = false := decide_eq_false (by omega)
      have hdd2 : decide (k < L) = false := decide_eq_false hlt
      have hkL : k = L := by omega
      subst hkL
      obtain ⟨s, hs⟩ : ∃ s, S k = s := ⟨_, rfl⟩
      rw [hs] at H4
      have HS0 := Lib.hid hs
      clear hs hlt
      rw [HS0.out, fracV_is s] at Qc2
      go_wp2_with fail
      have := L4_2.out
      have := HG.out.size
      have := G4.out
      have hok : okB 6 (avedev_walkKs10 m s n r k g C W w2) = true := by kernel_rfl
      have hna := noAny_of (ks := (avedev_walkKs10 m s n r k g C W w2)) (by kernel_rfl)
      have hla := lasts_of hna
      refine wp_region_facts (row := none) (w := W) 6 (avedev_walkKs10 m s n r k g C W w2) [some 30, some 31, some 32, some 33, some 34, none] (by kernel_rfl) (by kernel_rfl) rfl [undef, undef, undef, undef, undef, undef, .pointer (some ⟨W.heap.size, 0, none⟩), .pointer (some ⟨w2.heap.size + 1, 0, none⟩)] ?h00 (Fs.start_olds hla rfl (only_of_below HG.out none) ⟨⟨_, rfl, fun _ h => Option.some.inj h, by omega, H2.out⟩, fun _ => ⟨fun _ => far_of (by omega), trivial⟩, ⟨⟨_, rfl, fun _ h => Option.some.inj h, by omega, H4.out⟩, fun _ => trivial, trivial⟩⟩) ?hs ?hd
      case h00 => simp only [putO, layL]
      case hs =>
        rintro listed vs Wr hF i hi hun hpre
        obtain ⟨s0, s1, s2, s3, s4, s5, o0, o1, hvs⟩ := exl_of 8 vs (fun l => vs = l) hF.len rfl
        subst hvs
        obtain ⟨eG0, gG0, hO0⟩ := old_of hF (i := 6) rfl (.inl (by decide))
        replace eG0 : o0 = _ := eG0
        subst eG0
        obtain ⟨eG1, gG1, hO1⟩ := old_of hF (i := 7) rfl (.inl (by decide))
        replace eG1 : o1 = _ := eG1
        subst eG1
        have hge := Nat.zero_le i
        simp only [putO, layL]
        rcases Nat.lt_or_ge i 3 with hlt | hgt
        · replace hi := hlt
          clear hlt
          rcases Nat.lt_or_ge i 1 with hlt | hgt
          · replace hi := hlt
            clear hlt
            obtain rfl := eqi hi hge
            rw [if_neg (hF.unst (by decide))] at hO1
            have hcc := (two_at (hO1)).1
            have cH40 := hcc.1
            have cH41 := hcc.2
            clear hcc
            refine step_of ⟨some 30, _, _, _, _, _⟩ rfl (fun K' hK => ?_)
            go_simp
            refine hK.out _ _ ⟨_, hF.pure hok hla hpre rfl (Below.refl _ _), ?fr⟩
            case fr => simp only [putO, layL]
          · replace hge : 1 ≤ i := hgt
            clear hgt
            rcases Nat.lt_or_ge i 2 with hlt | hgt
            · replace hi := hlt
              clear hlt
              obtain rfl := eqi hi hge
              refine step_of ⟨some 31, _, _, _, _, _⟩ rfl (fun K' hK => ?_)
              go_simp
              refine hK.out _ _ ⟨_, hF.pure hok hla hpre rfl (Below.refl _ _), ?fr⟩
              case fr => simp only [putO, layL]
            · replace hge : 2 ≤ i := hgt
              clear hgt
              obtain rfl := eqi hi hge
              have p1 := hpre 1 (by kernel_rfl)
              have e1 : s1 = .slice (some ⟨g, 0, none⟩) k C := hF.get 1 _ rfl (.inr p1)
              subst e1
              refine step_of ⟨some 32, _, _, _, _, _⟩ rfl (fun K' hK => ?_)
              go_simp
              refine hK.out _ _ ⟨_, hF.pure hok hla hpre rfl (Below.refl _ _), ?fr⟩
              case fr => simp only [putO, layL]
        · replace hge : 3 ≤ i := hgt
          clear hgt
          rcases Nat.lt_or_ge i 4 with hlt | hgt
          · replace hi := hlt
            clear hlt
            obtain rfl := eqi hi hge
            have p2 := hpre 2 (by kernel_rfl)
            have e2 : s2 = .int .i64 (k : Int) := hF.get 2 _ rfl (.inr p2)
            subst e2
            refine step_of ⟨some 33, _, _, _, _, _⟩ rfl (fun K' hK => ?_)
            go_simp
            go_at_call 29
            (with_reducible refine (Qc1.out _ (HE0.out.below (below_none hF.low))).mono ?_)
            rintro e Wq ⟨rfl, hq⟩
            refine hK.out _ _ ⟨_, hF.pure hok hla hpre rfl hq, ?fr⟩
            case fr => simp only [putO, layL]
          · replace hge : 4 ≤ i := hgt
            clear hgt
            rcases Nat.lt_or_ge i 5 with hlt | hgt
            · replace hi := hlt
              clear hlt
              obtain rfl := eqi hi hge
              have p0 := hpre 0 (by kernel_rfl)
              have e0 : s0 = .agg #[.string (numS s), .string (denS s)] := hF.get 0 _ rfl (.inr p0)
              subst e0
              have p3 := hpre 3 (by kernel_rfl)
              have e3 : s3 = .agg #[.string (numS n), .string (denS n)] := hF.get 3 _ rfl (.inr p3)
              subst e3
              refine step_of ⟨some 34, _, _, _, _, _⟩ rfl (fun K' hK => ?_)
              go_simp
              go_at_call 51
              (with_reducible refine (Qc2.out _ (HE0.out.below (below_none hF.low))).mono ?_)
              rintro e Wq ⟨rfl, hq⟩
              refine hK.out _ _ ⟨_, hF.pure hok hla hpre rfl hq, ?fr⟩
              case fr => simp only [putO, layL]
            · replace hge : 5 ≤ i := hgt
              clear hgt
              obtain rfl := eqi hi hge
              have p4 := hpre 4 (by kernel_rfl)
              have e4 : s4 = .agg #[.string (numS r), .string (denS r)] := hF.get 4 _ rfl (.inr p4)
              subst e4
              rw [if_neg (bit_off hun)] at hO0
              have HGB := Lib.hid hO0
              obtain ⟨⟨y0, y1⟩, g0, g1⟩ := two_at HGB.out
              refine step_of ⟨none, _, _, _, _, _⟩ rfl (fun K' hK => ?_)
              go_simp
              refine hK.out _ _ ⟨undef, hF.put hok hna hpre hun rfl undef rfl (.inl (by decide)) rfl (set2_at HGB.out (.string (numS r)) (.string (denS r))) (fun k hk => set2_other _ _ (.string (numS r)) (.string (denS r)) hk) (put2_below gG0 _ (.string (numS r)) (.string (denS r))), ?fr⟩
              case fr => simp only [putO, layL]
      case hd =>
        rintro listed vs WE hF hall
        obtain ⟨s0, s1, s2, s3, s4, s5, o0, o1, hvs⟩ := exl_of 8 vs (fun l => vs = l) hF.len rfl
        subst hvs
        obtain ⟨eG0, gG0, hO0⟩ := old_of hF (i := 6) rfl (.inl (by decide))
        replace eG0 : o0 = _ := eG0
        subst eG0
        obtain ⟨eG1, gG1, hO1⟩ := old_of hF (i := 7) rfl (.inl (by decide))
        replace eG1 : o1 = _ := eG1
        subst eG1
        rw [if_pos (hall 5 (by decide))] at hO0
        replace H2 := Lib.hid hO0
        clear hO0
        rw [if_neg (hF.unst (by decide))] at hO1
        replace H4 := Lib.hid hO1
        clear hO1
        have HQ := Lib.hid hF.low
        clear hF hall hok hna hla
        simp only [putO, layL]
        replace HG := Lib.hid (below_none HQ.out)
        clear HQ
        replace HE := Lib.hid (HE0.out.below HG.out)
        clear H3
        obtain ⟨⟨x2_0, x2_1⟩, x2_f0, x2_f1⟩ := two_at H2.out
        go_wp2
        refine bodyPost_ret (v := .agg #[.string (numS r), .string (denS r)]) (by simp [results, Tryz.results162, go_sem, x2_0, x2_1]) rfl ⟨rfl, HG.out⟩

end Go.Proofs.YtemdjmaakajhjaaGreatDoor.Num.Ft

/- package fstat: compare, sign, stop, some. Conditions: what the small functions give. -/
namespace Go.Proofs.YtemdjmaakajhjaaGreatDoor.Num.Ft
open Go.RowKit Go.Lib Num
attribute [local irreducible] wpOp
set_option linter.unusedSimpArgs false in
set_option linter.unusedVariables false in
set_option maxHeartbeats 4000000 in
set_option maxRecDepth 100000 in
theorem compare_walk (p q : Rat) (c : Int) (W : World) (c0 : Fun2 188 (.agg #[.string (numS p), .string (denS p)]) (.agg #[.string (numS q), .string (denS q)]) (.tuple #[.int .i64 c, .int .i64 0])) (hE : EnvY W) :
    Calls Tryz.prog 141 #[.agg #[.string (numS p), .string (denS p)], .agg #[.string (numS q), .string (denS q)]] W fun e w' => e = .returned (.int .i64 c) ∧ Below W.heap.size W w' := by
  have Qc0 := Lib.hid c0
  unfold Fun2 at Qc0
  have HE0 := Lib.hid hE
  have HG := Lib.hid (show Below W.heap.size W ((W.alloc (.cells #[.string (numS p), .string (denS p)] 24)).alloc (.cells #[.string (numS q), .string (denS q)] 24)) from (((Below.refl _ _).alloc (Nat.le_refl _) _).alloc (by simp only [World.size_alloc]; omega) _))
  have H2 : Hid (((W.alloc (.cells #[.string (numS p), .string (denS p)] 24)).alloc (.cells #[.string (numS q), .string (denS q)] 24)).heap[W.heap.size]? = some (.cells #[.string (numS p), .string (denS p)] 24 (0, 0))) := Lib.hid (by
    have h := heap_alloc_new W (.cells #[.string (numS p), .string (denS p)] 24)
    exact new_keep (h))
  have H3 : Hid (((W.alloc (.cells #[.string (numS p), .string (denS p)] 24)).alloc (.cells #[.string (numS q), .string (denS q)] 24)).heap[W.heap.size + 1]? = some (.cells #[.string (numS q), .string (denS q)] 24 (0, 0))) := Lib.hid (by
    have h := heap_alloc_new (W.alloc (.cells #[.string (numS p), .string (denS p)] 24)) (.cells #[.string (numS q), .string (denS q)] 24)
    simp only [World.size_alloc] at h
    exact h)
  obtain ⟨W0, hW0⟩ : ∃ Z, ((W.alloc (.cells #[.string (numS p), .string (denS p)] 24)).alloc (.cells #[.string (numS q), .string (denS q)] 24)) = Z := ⟨_, rfl⟩
  rw [hW0] at HG H2 H3
  have EW0 := Lib.hid hW0
  have HE := Lib.hid (HE0.out.below HG.out)
  clear hW0 hE  c0
  go_enter Tryz.func141, Tryz.ntmps141
  go_upto_region 1 with fail
  rw [EW0.out]
  obtain ⟨⟨x2_0, x2_1⟩, x2_f0, x2_f1⟩ := two_at H2.out
  obtain ⟨⟨x3_0, x3_1⟩, x3_f0, x3_f1⟩ := two_at H3.out
  go_wp2_with fail
  refine (Qc0.out _ HE.out).mono ?_
  clear x2_0 x2_1 x2_f0 x2_f1
  clear x3_0 x3_1 x3_f0 x3_f1
  rintro e w1 ⟨rfl, hb⟩
  replace H2 := Lib.hid (keep_block H2.out hb)
  replace H3 := Lib.hid (keep_block H3.out hb)
  replace HE := Lib.hid (HE.out.below hb)
  replace HG := Lib.hid (HG.out.trans (hb.mono HG.out.size))
  clear hb
  go_wp2
  go_ret
  exact ⟨rfl, HG.out⟩

set_option linter.unusedVariables false in
/-- what the operations of region 1 yield -/
def sign_walkKs1 (p z : Rat) (c : Int) : List RK :=
  [.pure (.agg #[.string (numS p), .string (denS p)]),
   .pure (.agg #[.string (numS z), .string (denS z)]),
   .pure (.int .i64 c),
   .pure (.int .i64 c)]
set_option linter.unusedSimpArgs false in
set_option linter.unusedVariables false in
set_option maxHeartbeats 4000000 in
set_option maxRecDepth 100000 in
theorem sign_walk (p z : Rat) (c : Int) (W : World) (c0 : Fun1 29 (.int .i64 0) (.agg #[.string (numS z), .string (denS z)]))
    (c1 : Fun2 141 (.agg #[.string (numS p), .string (denS p)]) (.agg #[.string (numS z), .string (denS z)]) (.int .i64 c)) (hE : EnvY W) :
    Calls Tryz.prog 156 #[.agg #[.string (numS p), .string (denS p)]] W fun e w' => e = .returned (.int .i64 c) ∧ Below W.heap.size W w' := by
  have Qc0 := Lib.hid c0
  have Qc1 := Lib.hid c1
  unfold Fun1 at Qc0
  unfold Fun2 at Qc1
  have HE0 := Lib.hid hE
  have HG := Lib.hid (show Below W.heap.size W (W.alloc (.cells #[.string (numS p), .string (denS p)] 24)) from ((Below.refl _ _).alloc (Nat.le_refl _) _))
  have H1 : Hid ((W.alloc (.cells #[.string (numS p), .string (denS p)] 24)).heap[W.heap.size]? = some (.cells #[.string (numS p), .string (denS p)] 24 (0, 0))) := Lib.hid (by
    have h := heap_alloc_new W (.cells #[.string (numS p), .string (denS p)] 24)
    exact h)
  obtain ⟨W0, hW0⟩ : ∃ Z, (W.alloc (.cells #[.string (numS p), .string (denS p)] 24)) = Z := ⟨_, rfl⟩
  rw [hW0] at HG H1
  have EW0 := Lib.hid hW0
  have HE := Lib.hid (HE0.out.below HG.out)
  clear hW0 hE  c0 c1
  go_enter Tryz.func156, Tryz.ntmps156
  have lt_1 := Lib.hid (heap_lt H1.out)
  have geW := Lib.hid HG.out.size
  go_wp2_with fail
  rw [EW0.out]
  have hok : okB 4 (sign_walkKs1 p z c) = true := by kernel_rfl
  have hna := noAny_of (ks := (sign_walkKs1 p z c)) (by kernel_rfl)
  have hla := lasts_of hna
  refine wp_region_facts (row := none) (w := W0) 4 (sign_walkKs1 p z c) [some 3, some 4, some 5, some 2] (by kernel_rfl) (by kernel_rfl) rfl [undef, undef, undef, (.int .i64 0)] ?h00 (Fs.start rfl rfl) ?hs ?hd
  case h00 => simp only [putO, layL]
  case hs =>
    rintro listed vs Wr hF i hi hun hpre
    obtain ⟨s0, s1, s2, s3, hvs⟩ := exl_of 4 vs (fun l => vs = l) hF.len rfl
    subst hvs
    have hge := Nat.zero_le i
    simp only [putO, layL]
    rcases Nat.lt_or_ge i 2 with hlt | hgt
    · replace hi := hlt
      clear hlt
      rcases Nat.lt_or_ge i 1 with hlt | hgt
      · replace hi := hlt
        clear hlt
        obtain rfl := eqi hi hge
        have hcc := (two_at (keep_block H1.out (below_none hF.low))).1
        have cH10 := hcc.1
        have cH11 := hcc.2
        clear hcc
        refine step_of ⟨some 3, _, _, _, _, _⟩ rfl (fun K' hK => ?_)
        go_simp
        refine hK.out _ _ ⟨_, hF.pure hok hla hpre rfl (Below.refl _ _), ?fr⟩
        case fr => simp only [putO, layL]
      · replace hge : 1 ≤ i := hgt
        clear hgt
        obtain rfl := eqi hi hge
        refine step_of ⟨some 4, _, _, _, _, _⟩ rfl (fun K' hK => ?_)
        go_simp
        go_at_call 29
        (with_reducible refine (Qc0.out _ (HE.out.below (below_none hF.low))).mono ?_)
        rintro e Wq ⟨rfl, hq⟩
        refine hK.out _ _ ⟨_, hF.pure hok hla hpre rfl hq, ?fr⟩
        case fr => simp only [putO, layL]
    · replace hge : 2 ≤ i := hgt
      clear hgt
      rcases Nat.lt_or_ge i 3 with hlt | hgt
      · replace hi := hlt
        clear hlt
        obtain rfl := eqi hi hge
        have p0 := hpre 0 (by kernel_rfl)
        have e0 : s0 = .agg #[.string (numS p), .string (denS p)] := hF.get 0 _ rfl (.inr p0)
        subst e0
        have p1 := hpre 1 (by kernel_rfl)
        have e1 : s1 = .agg #[.string (numS z), .string (denS z)] := hF.get 1 _ rfl (.inr p1)
        subst e1
        refine step_of ⟨some 5, _, _, _, _, _⟩ rfl (fun K' hK => ?_)
        go_simp
        go_at_call 141
        (with_reducible refine (Qc1.out _ (HE.out.below (below_none hF.low))).mono ?_)
        rintro e Wq ⟨rfl, hq⟩
        refine hK.out _ _ ⟨_, hF.pure hok hla hpre rfl hq, ?fr⟩
        case fr => simp only [putO, layL]
      · replace hge : 3 ≤ i := hgt
        clear hgt
        obtain rfl := eqi hi hge
        have p2 := hpre 2 (by kernel_rfl)
        have e2 : s2 = .int .i64 c := hF.get 2 _ rfl (.inr p2)
        subst e2
        refine step_of ⟨some 2, _, _, _, _, _⟩ rfl (fun K' hK => ?_)
        go_simp
        refine hK.out _ _ ⟨_, hF.pure hok hla hpre rfl (Below.refl _ _), ?fr⟩
        case fr => simp only [putO, layL]
  case hd =>
    rintro listed vs WA hF hall
    obtain ⟨s0, s1, s2, s3, hvs⟩ := exl_of 4 vs (fun l => vs = l) hF.len rfl
    subst hvs
    have e3 : s3 = .int .i64 c := hF.get 3 _ rfl (.inr (hall 3 (by decide)))
    subst e3
    have hq := below_none hF.low
    replace H1 := Lib.hid (keep_block H1.out hq)
    replace HE := Lib.hid (HE.out.below hq)
    replace HG := Lib.hid (HG.out.trans (hq.mono HG.out.size))
    clear hq
    clear hF hall hok hna hla
    simp only [putO, layL]
    clear geW lt_1
    go_wp2
    go_ret
    exact ⟨rfl, HG.out⟩

theorem c_sign {q : Rat} (hq : fits q = true) : Fun1 156 (fracV q) (.int .i64 (cmpR q 0)) := fun W g =>
  sign_walk q 0 (cmpR q 0) W (c_of (n := 0) (by decide)) (fun W g => compare_walk q 0 (cmpR q 0) W (fun W _ => compare_q q 0 W hq f0) g) g
theorem c_compare {p q : Rat} (hp : fits p = true) (hq : fits q = true) : Fun2 141 (fracV p) (fracV q) (.int .i64 (cmpR p q)) := fun W g =>
  compare_walk p q (cmpR p q) W (fun W _ => compare_q p q W hp hq) g
/-- stop where nothing is wrong -/
theorem stop_no (c : Int) (w : World) : Calls Tryz.prog 150 #[.bool false, .int .i64 c] w fun e w' => e = .returned (.tuple #[]) ∧ w' = w := by
  go_enter Tryz.func150, Tryz.ntmps150
  go_wp2
  go_end0
  exact ⟨rfl, rfl⟩
theorem some_any (a : Option Addr) (L C : Nat) (w : World) (h : 0 < L) : Calls Tryz.prog 143 #[.slice a L C] w fun e w' => e = .returned (.slice a L C) ∧ w' = w := by
  have h1 : ((L : Int) == 0) = false := by simp; omega
  have h2 : (L == 0) = false := by simp; omega
  go_enter Tryz.func143, Tryz.ntmps143
  go_wp2_with fail
  refine (stop_no 5 _).mono ?_
  rintro e w1 ⟨rfl, hw⟩
  replace hw := hw.symm
  subst hw
  go_wp2
  go_ret
  exact ⟨rfl, rfl⟩
end Go.Proofs.YtemdjmaakajhjaaGreatDoor.Num.Ft

/- package fstat's table of functions: how it lies as a map. No conditions. -/
namespace Go.Proofs.YtemdjmaakajhjaaGreatDoor.Num.Ft
open Go.RowKit Go.Lib Go.MapKept Num

attribute [local go_sem] run_store_func
/-- FREQUENCY's function stands bare -/
def isRaw (f : FuncId) : Bool := f == 76
/-- a function value that wraps the row's function, or is it -/
def RowFn (w : World) (v : Value) (r : Row) : Prop :=
  if isRaw r.fn = true then v = .func (.func r.fn) #[] #[]
  else if r.num then ∃ e f, v = .func (.func 133) #[] #[.pointer (some ⟨e, 0, none⟩)] ∧ w.cell? ⟨e, 0, none⟩ = some (.func (.func 142) #[] #[.pointer (some ⟨f, 0, none⟩)]) ∧ w.cell? ⟨f, 0, none⟩ = some (.func (.func r.fn) #[] #[])
  else ∃ e, v = .func (.func 133) #[] #[.pointer (some ⟨e, 0, none⟩)] ∧ w.cell? ⟨e, 0, none⟩ = some (.func (.func r.fn) #[] #[])
/-- an entry of the table as it lies in the map -/
def EntryAt (w : World) (x : MapEntry) (r : Row) : Prop := x.key = .string r.name ∧ ∃ v, x.val = .agg #[.int .i64 r.least, .int .i64 r.most, .string r.kinds, v] ∧ RowFn w v r
/-- block b is a map with just these rows -/
def TableAt (w : World) (b : Nat) (l : List Row) : Prop :=
  ∃ es clock, w.heap[b]? = some (.map es clock) ∧ es.size = l.length ∧ ∀ i (h : i < l.length) (h' : i < es.size), EntryAt w es[i] l[i]

theorem RowFn.mono {w w' : World} {v : Value} {r : Row} (h : RowFn w v r) (hc : ∀ (p : Addr) (x : Value), w.cell? p = some x → w'.cell? p = some x) : RowFn w' v r := by
  unfold RowFn at h ⊢
  split
  · rename_i hr
    rw [if_pos hr] at h
    exact h
  · rename_i hr
    rw [if_neg hr] at h
    split
    · rename_i hn
      rw [if_pos hn] at h
      obtain ⟨e, f, h1, h2, h3⟩ := h
      exact ⟨e, f, h1, hc _ _ h2, hc _ _ h3⟩
    · rename_i hn
      rw [if_neg hn] at h
      obtain ⟨e, h1, h2⟩ := h
      exact ⟨e, h1, hc _ _ h2⟩
theorem EntryAt.mono {w w' : World} {x : MapEntry} {r : Row} (h : EntryAt w x r) (hc : ∀ (p : Addr) (x : Value), w.cell? p = some x → w'.cell? p = some x) : EntryAt w' x r :=
  let ⟨hk, v, hv, hr⟩ := h; ⟨hk, v, hv, hr.mono hc⟩
theorem TableAt.below {w w' : World} {b : Nat} {l : List Row} (h : TableAt w b l) (hb : Below w.heap.size w w') : TableAt w' b l := by
  obtain ⟨es, clock, hm, hs, he⟩ := h
  exact ⟨es, clock, keep_block hm hb, hs, fun i hi hi' => (he i hi hi').mono fun p x hp => cell_below hp hb⟩
theorem TableAt.made (w : World) : TableAt (w.alloc (.map #[] 0)) w.heap.size [] := ⟨#[], 0, heap_alloc_new w _, rfl, fun _ hi => absurd hi (Nat.not_lt_zero _)⟩
theorem TableAt.store {w : World} {b mt kt et : Nat} {l : List Row} (h : TableAt w b l) (r : Row) (v : Value) (hr : RowFn w v r) (hf : Fresh r.name l) (hm : Tryz.prog.underlying mt = some (.map kt et)) (hk : Tryz.prog.underlying kt = some .string) :
    ∃ w', (Instr.mapUpdate mt (.map (some b)) (.string r.name) (.agg #[.int .i64 r.least, .int .i64 r.most, .string r.kinds, v])).run Tryz.prog w = .ok () w' ∧ TableAt w' b (l ++ [r]) ∧ w.grownBy w' (some b) := by
  obtain ⟨es, clock, hb, hs, he⟩ := h
  have hall : ∀ x ∈ es.toList, ∃ t, x.key = .string t ∧ (r.name == t) = false := by
    intro x hx
    obtain ⟨i, hi, rfl⟩ := List.getElem_of_mem hx
    have hi' : i < es.size := by simpa using hi
    have hil : i < l.length := by omega
    have := (he i hil hi').1
    exact ⟨l[i].name, by simpa using this, hf l[i] (List.getElem_mem hil)⟩
  have hfind := findNow_fresh r.name es.toList 0 hall
  have hc : (Instr.checkKey false 10000 kt (.string r.name)).run Tryz.prog w = .ok () w := MapKept.run_checkKey (k := .string r.name) hk (by simp [IsKey]) false 9999
  refine ⟨putMap w b (.map (es.push { key := .string r.name, val := .agg #[.int .i64 r.least, .int .i64 r.most, .string r.kinds, v], born := clock }) (clock + 1)), ?_, ?_, putMap_grown hb⟩
  · simp [Instr.mapUpdate, run_underlying hm, MapKept.run_getObj_map hb, hc, MapKept.run_findKey hk hfind, MapKept.run_setObj_map _ hb, Result.andThen, putMap]
  · refine ⟨_, _, (heap_set hb).1, by simp [hs], fun i hi hi' => ?_⟩
    by_cases hlt : i < es.size
    · have hil : i < l.length := by omega
      rw [Array.getElem_push_lt hlt, List.getElem_append_left hil]
      exact (he i hil hlt).mono (putMap_cell hb)
    · have : i = es.size := by simp at hi'; omega
      subst this
      rw [Array.getElem_push_eq]
      have hl : (l ++ [r])[es.size] = r := by simp [hs]
      rw [hl]
      exact ⟨rfl, v, rfl, hr.mono (putMap_cell hb)⟩
/-- the row at a name -/
theorem TableAt.look {w : World} {b mt kt et : Nat} {l : List Row} (h : TableAt w b l) (i : Nat) (hi : i < l.length) (hf : ∀ j (hj : j < i), (l[i].name == (l[j]'(by omega)).name) = false) (hm : Tryz.prog.underlying mt = some (.map kt et)) (hk : Tryz.prog.underlying kt = some .string) :
    ∃ v, RowFn w v l[i] ∧ (Instr.lookup mt (.map (some b)) (.string l[i].name) true).run Tryz.prog w = .ok (.tuple #[.agg #[.int .i64 l[i].least, .int .i64 l[i].most, .string l[i].kinds, v], .bool true]) w := by
  obtain ⟨es, clock, hb, hs, he⟩ := h
  have hi' : i < es.size := by omega
  obtain ⟨hkey, v, hv, hr⟩ := he i hi hi'
  refine ⟨v, hr, ?_⟩
  have hat : es.toList[i]? = some es[i] := by simp [hi']
  have hfind := findNow_at l[i].name es.toList i 0 es[i] hat hkey (fun j y hj hy => by
    have hjl : j < l.length := by omega
    have hje : j < es.size := by omega
    have hy' : es[j] = y := by simpa [hje] using hy
    exact ⟨l[j].name, by rw [← hy']; exact (he j hjl hje).1, hf j hj⟩)
  rw [Nat.zero_add, hv] at hfind
  have hc : (Instr.checkKey es.isEmpty 10000 kt (.string l[i].name)).run Tryz.prog w = .ok () w := MapKept.run_checkKey (k := .string l[i].name) hk (by simp [IsKey]) _ 9999
  simp [Instr.lookup, run_underlying hm, MapKept.run_getObj_map hb, hc, MapKept.run_findKey hk hfind, Result.andThen]

section
variable {ops : Array Oper} {rest : List Oper} {o : Oper} {a : Act} {Q : Exit → Act → World → Prop}
theorem wpList_insert_row (w : World) (hg : o.guard = none) (m x u : Operand) (t : TypeId) (hop : o.op = Op.insert t m x u ∨ o.op = Op.mapUpdate t m x u) {b kt et : Nat} {l : List Row} (hm : a.eval m = .map (some b)) (h : TableAt w b l) (r : Row) (v : Value) (hx : a.eval x = .string r.name) (hv : a.eval u = .agg #[.int .i64 r.least, .int .i64 r.most, .string r.kinds, v]) (hr : RowFn w v r) (hf : Fresh r.name l) (ht : Tryz.prog.underlying t = some (.map kt et)) (hk : Tryz.prog.underlying kt = some .string)
    (hK : ∀ w', TableAt w' b (l ++ [r]) → w.grownBy w' (some b) → wpList Tryz.prog ops Q rest (a.put o.dst undef) w') :
    wpList Tryz.prog ops Q (o :: rest) a w := by
  refine wpList_plain hg fun K' hK' => ?_
  obtain ⟨w', hrun, r1, r2⟩ := h.store r v hr hf ht hk
  unfold Oper.wp
  rcases hop with hop | hop
  · simp [execOp, hop, hm, hx, hv, hrun, Result.andThen]
    exact hK' _ _ (hK w' r1 r2)
  · simp [execOp, hop, hm, hx, hv, hrun, Result.andThen]
    exact hK' _ _ (hK w' r1 r2)
end

end Go.Proofs.YtemdjmaakajhjaaGreatDoor.Num.Ft

/- package value: the closure that Run hands to Lift, at fstat. Conditions: the tables lie as they are laid. -/
namespace Go.Proofs.YtemdjmaakajhjaaGreatDoor.Num.Ft
open Go.RowKit Go.Lib Go.MapKept Num

set_option maxHeartbeats 4000000 in
set_option maxRecDepth 100000 in
theorem run1_value (pb _f e : Nat) (sl : Value) (k : Int) (n d t : ByteArray) (on : Bool) (c : Int) (A : Option Addr) (L C : Nat) (w : World) (hs : ∃ a l c, sl = .slice a l c) (hc : w.cell? ⟨pb, 3, none⟩ = some (.func (.func 133) #[] #[.pointer (some ⟨e, 0, none⟩)])) (hE : Env w)
    (hF : ∀ W, Below w.heap.size w W → Calls Tryz.prog 133 #[sl, .pointer (some ⟨e, 0, none⟩)] W fun e w' => e = .returned (.agg #[.int .i64 k, .string n, .string d, .string t, .bool on, .int .i64 c, .int .i64 0, .int .i64 0, .slice A L C]) ∧ Below W.heap.size W w') :
    Calls Tryz.prog 41 #[sl, .pointer (some ⟨pb, 0, none⟩)] w fun e w' => e = .returned (.agg #[.int .i64 k, .string n, .string d, .string t, .bool on, .int .i64 c, .int .i64 0, .int .i64 0, .slice A L C]) ∧ Below w.heap.size w w' := by
  obtain ⟨sa, slen, sc, rfl⟩ := hs
  have hmf : ∀ (fn : Fn) (first cap : Array Value) (w : World), (Instr.makeFunc fn first cap).run Tryz.prog w = .ok (.func fn first cap) w := fun _ _ _ _ => rfl
  have hb : Below w.heap.size w (w.alloc (.cells #[.int .i64 0, .string { data := #[] }, .string { data := #[] }, .string { data := #[] }, .bool false, .int .i64 0, .int .i64 0, .int .i64 0, .slice none 0 0] 27)) := (Below.refl _ _).alloc (Nat.le_refl _) _
  have HR := Lib.hid (heap_alloc_new w (.cells #[.int .i64 0, .string { data := #[] }, .string { data := #[] }, .string { data := #[] }, .bool false, .int .i64 0, .int .i64 0, .int .i64 0, .slice none 0 0] 27))
  have HX := Lib.hid (cell_below hc hb)
  have HL := Lib.hid hb
  have HE := Lib.hid (hE.below hb)
  have TF := Lib.hid (hF _ hb)
  clear hb hc hE hF
  obtain x3 := HX.out
  go_enter_defers Tryz.func41, Tryz.ntmps41
  go_wp2_with fail
  refine TF.out.mono ?_
  rintro e w1 ⟨rfl, hb⟩
  replace HR := Lib.hid (keep_block HR.out hb)
  replace HE := Lib.hid (HE.out.below hb)
  replace HL := Lib.hid (HL.out.trans (hb.mono HL.out.size))
  clear hb
  obtain ⟨⟨r0, r1, r2, r3, r4, r5, r6, r7, r8⟩, g0, g1, g2, g3, g4, g5, g6, g7, g8⟩ := nine_at HR.out
  have HR2 := Lib.hid (set9_at HR.out (.int .i64 k) (.string n) (.string d) (.string t) (.bool on) (.int .i64 c) (.int .i64 0) (.int .i64 0) (.slice A L C))
  have HL2 := Lib.hid (nine_end (x0 := (.int .i64 k)) (x1 := (.string n)) (x2 := (.string d)) (x3 := (.string t)) (x4 := (.bool on)) (x5 := (.int .i64 c)) (x6 := (.int .i64 0)) (x7 := (.int .i64 0)) (x8 := (.slice A L C)) HR.out HL.out (Nat.le_refl _)).1
  go_wp2_with fail
  obtain ⟨W2, hW2⟩ : ∃ W2, (((((((((w1.setCell ⟨w.heap.size, 0, none⟩ (.int .i64 k)).setCell ⟨w.heap.size, 1, none⟩ (.string n)).setCell ⟨w.heap.size, 2, none⟩ (.string d)).setCell ⟨w.heap.size, 3, none⟩ (.string t)).setCell ⟨w.heap.size, 4, none⟩ (.bool on)).setCell ⟨w.heap.size, 5, none⟩ (.int .i64 c)).setCell ⟨w.heap.size, 6, none⟩ (.int .i64 0)).setCell ⟨w.heap.size, 7, none⟩ (.int .i64 0)).setCell ⟨w.heap.size, 8, none⟩ (.slice A L C)) = W2 := ⟨_, rfl⟩
  rw [hW2] at HR2 HL2 ⊢
  clear hW2 r0 r1 r2 r3 r4 r5 r6 r7 r8 g0 g1 g2 g3 g4 g5 g6 g7 g8
  obtain ⟨⟨r0, r1, r2, r3, r4, r5, r6, r7, r8⟩, g0, g1, g2, g3, g4, g5, g6, g7, g8⟩ := nine_at HR2.out
  go_quiet (fail)
  have HR3 := Lib.hid (show (W2.drewN nq).heap[w.heap.size]? = _ from HR2.out)
  obtain ⟨nb, e0, e1, e2, e3, e4, e5, e6, e7, e8⟩ := nine_end (x0 := (.int .i64 k)) (x1 := (.string n)) (x2 := (.string d)) (x3 := (.string t)) (x4 := (.bool on)) (x5 := (.int .i64 c)) (x6 := (.int .i64 0)) (x7 := (.int .i64 0)) (x8 := (.slice A L C)) HR3.out (below_drewN HL2.out nq) (Nat.le_refl _)
  go_wp2
  refine leaves_cons (f := 42) (args := #[.pointer (some ⟨w.heap.size, 0, none⟩)]) (by simp) (by simp [go_sem]) ?_
  refine (idle_any _ _).mono ?_
  rintro e u' w3 ⟨rfl, rfl, rfl⟩
  exact ⟨_, (by simp [results, Tryz.results41, go_sem, e0, e1, e2, e3, e4, e5, e6, e7, e8]), rfl, nb⟩

set_option maxHeartbeats 4000000 in
set_option maxRecDepth 100000 in
theorem run1_stop (pb e : Nat) (sl : Value) (c : Int) (w : World) (hs : ∃ a l c, sl = .slice a l c) (h1 : 1 ≤ c) (h2 : c ≤ 8) (hc : w.cell? ⟨pb, 3, none⟩ = some (.func (.func 133) #[] #[.pointer (some ⟨e, 0, none⟩)])) (hE : Env w)
    (hF : ∀ W, Below w.heap.size w W → Calls Tryz.prog 133 #[sl, .pointer (some ⟨e, 0, none⟩)] W fun e w' => e = stopped c ∧ Below W.heap.size W w') :
    Calls Tryz.prog 41 #[sl, .pointer (some ⟨pb, 0, none⟩)] w fun e w' => e = .returned (faultVal c) ∧ Below w.heap.size w w' := by
  obtain ⟨sa, slen, sc, rfl⟩ := hs
  have TC := Lib.hid (fun R x0 x1 x2 x3 x4 x5 x6 x7 x8 W g g' => caught_any R c h1 h2 x0 x1 x2 x3 x4 x5 x6 x7 x8 W g g')
  rw [faultVal_is c]
  have hmf : ∀ (fn : Fn) (first cap : Array Value) (w : World), (Instr.makeFunc fn first cap).run Tryz.prog w = .ok (.func fn first cap) w := fun _ _ _ _ => rfl
  have hb : Below w.heap.size w (w.alloc (.cells #[.int .i64 0, .string { data := #[] }, .string { data := #[] }, .string { data := #[] }, .bool false, .int .i64 0, .int .i64 0, .int .i64 0, .slice none 0 0] 27)) := (Below.refl _ _).alloc (Nat.le_refl _) _
  have HR := Lib.hid (heap_alloc_new w (.cells #[.int .i64 0, .string { data := #[] }, .string { data := #[] }, .string { data := #[] }, .bool false, .int .i64 0, .int .i64 0, .int .i64 0, .slice none 0 0] 27))
  have HX := Lib.hid (cell_below hc hb)
  have HL := Lib.hid hb
  have HE := Lib.hid (hE.below hb)
  have TF := Lib.hid (hF _ hb)
  clear hb hc hE hF
  obtain x3 := HX.out
  go_enter_defers Tryz.func41, Tryz.ntmps41
  go_wp2_with fail
  refine TF.out.mono ?_
  rintro e w1 ⟨rfl, hb⟩
  replace HR := Lib.hid (keep_block HR.out hb)
  replace HE := Lib.hid (HE.out.below hb)
  replace HL := Lib.hid (HL.out.trans (hb.mono HL.out.size))
  clear hb
  unfold stopped
  go_wp2
  refine leaves_cons (f := 42) (args := #[.pointer (some ⟨w.heap.size, 0, none⟩)]) (by simp) (by simp [go_sem]) ?_
  refine (TC.out _ _ _ _ _ _ _ _ _ _ _ HR.out HE.out).mono ?_
  rintro e u' w3 ⟨rfl, rfl, hr, hg⟩
  obtain ⟨⟨e0, e1, e2, e3, e4, e5, e6, e7, e8⟩, _⟩ := nine_at hr
  exact ⟨_, (by simp [results, Tryz.results41, go_sem, e0, e1, e2, e3, e4, e5, e6, e7, e8]), rfl, HL.out.trans (below_of_only hg (Nat.le_refl _) HL.out.size)⟩
end Go.Proofs.YtemdjmaakajhjaaGreatDoor.Num.Ft
