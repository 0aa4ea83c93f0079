/- Numbers as texts of digits, fractions, values and the functions of fmath: contracts of the program's functions, joined from smaller texts. Conditions stand at each theorem. -/
import Derived.Test.YtemdjmaakajhjaaGreatDoorNumH
import Derived.Test.YtemdjmaakajhjaaGreatDoorFtaB
import Derived.Test.YtemdjmaakajhjaaGreatDoorFtbA
import Derived.Test.YtemdjmaakajhjaaGreatDoorFtcA

/- Boolean values: Check, Bool, ToBool, Args.Flag. Conditions: the tables lie as they are laid. -/
namespace Go.Proofs.YtemdjmaakajhjaaGreatDoor.Num
open Go.RowKit Go.Lib

/-- true or false, as a value -/
def boolVal' (o : Bool) : Val := ⟨3, { data := #[] }, { data := #[] }, { data := #[] }, o, 0, 0, 0, none, 0, 0⟩
set_option maxHeartbeats 4000000 in
set_option maxRecDepth 100000 in
theorem zeros_B (o : Bool) (w : World) : Calls Tryz.prog 125 #[.agg #[.int .i64 3, .string { data := #[] }, .string { data := #[] }, .string { data := #[] }, .bool o, .int .i64 0, .int .i64 0, .int .i64 0, .slice none 0 0]] w fun e w' => e = .returned (.int .i64 0) ∧ Below w.heap.size w w' := by
  go_enter Tryz.func125, Tryz.ntmps125
  go_wp2
  go_ret
  exact ⟨rfl, (Below.refl _ _).alloc (Nat.le_refl _) _⟩
set_option maxHeartbeats 4000000 in
set_option maxRecDepth 100000 in
theorem check_B (o : Bool) (w : World) : Calls Tryz.prog 39 #[.agg #[.int .i64 3, .string { data := #[] }, .string { data := #[] }, .string { data := #[] }, .bool o, .int .i64 0, .int .i64 0, .int .i64 0, .slice none 0 0]] w fun e w' => e = .returned (.int .i64 0) ∧ Below w.heap.size w w' := by
  have HX := Lib.hid (heap_alloc_new w (.cells #[.int .i64 3, .string { data := #[] }, .string { data := #[] }, .string { data := #[] }, .bool o, .int .i64 0, .int .i64 0, .int .i64 0, .slice none 0 0] 27))
  have HL := Lib.hid (show Below w.heap.size w (w.alloc (.cells #[.int .i64 3, .string { data := #[] }, .string { data := #[] }, .string { data := #[] }, .bool o, .int .i64 0, .int .i64 0, .int .i64 0, .slice none 0 0] 27)) from (Below.refl _ _).alloc (Nat.le_refl _) _)
  go_enter Tryz.func39, Tryz.ntmps39
  go_wp2_with fail
  refine (zeros_B o _).mono ?_
  rintro e W1 ⟨rfl, hb⟩
  replace HX := Lib.hid (keep_block HX.out hb)
  replace HL := Lib.hid (HL.out.trans (hb.mono HL.out.size))
  clear hb
  obtain ⟨⟨x0, x1, x2, x3, x4, x5, x6, x7, x8⟩, _⟩ := nine_at HX.out
  go_wp2
  go_ret
  exact ⟨rfl, HL.out⟩
theorem scalar_B (o : Bool) (w : World) (hE : Env w) : Calls Tryz.prog 260 #[.agg #[.int .i64 3, .string { data := #[] }, .string { data := #[] }, .string { data := #[] }, .bool o, .int .i64 0, .int .i64 0, .int .i64 0, .slice none 0 0]] w fun e w' => e = .returned (.agg #[.int .i64 3, .string { data := #[] }, .string { data := #[] }, .string { data := #[] }, .bool o, .int .i64 0, .int .i64 0, .int .i64 0, .slice none 0 0]) ∧ Below w.heap.size w w' :=
  scalar_of 3 { data := #[] } { data := #[] } { data := #[] } o 0 0 0 none 0 0 w rfl (fun W _ => check_B o W) hE
set_option maxHeartbeats 4000000 in
set_option maxRecDepth 100000 in
theorem bool_B (o : Bool) (w : World) : Calls Tryz.prog 17 #[.bool o] w fun e w' => e = .returned (.agg #[.int .i64 3, .string { data := #[] }, .string { data := #[] }, .string { data := #[] }, .bool o, .int .i64 0, .int .i64 0, .int .i64 0, .slice none 0 0]) ∧ Below w.heap.size w w' := by
  obtain ⟨⟨e0, e1, e2, e3, e4, e5, e6, e7, e8⟩, _⟩ := nine_at (heap_alloc_new w (.cells #[.int .i64 3, .string { data := #[] }, .string { data := #[] }, .string { data := #[] }, .bool o, .int .i64 0, .int .i64 0, .int .i64 0, .slice none 0 0] 27))
  have HL := Lib.hid (show Below w.heap.size w (w.alloc (.cells #[.int .i64 3, .string { data := #[] }, .string { data := #[] }, .string { data := #[] }, .bool o, .int .i64 0, .int .i64 0, .int .i64 0, .slice none 0 0] 27)) from (Below.refl _ _).alloc (Nat.le_refl _) _)
  go_enter Tryz.func17, Tryz.ntmps17
  go_wp2
  refine bodyPost_ret (v := .agg #[.int .i64 3, .string { data := #[] }, .string { data := #[] }, .string { data := #[] }, .bool o, .int .i64 0, .int .i64 0, .int .i64 0, .slice none 0 0]) (by simp [results, Tryz.results17, go_sem, e0, e1, e2, e3, e4, e5, e6, e7, e8]) rfl ⟨rfl, HL.out⟩
set_option maxHeartbeats 4000000 in
set_option maxRecDepth 100000 in
theorem toBool_B (o : Bool) (w : World) (hE : Env w) : Calls Tryz.prog 271 #[.agg #[.int .i64 3, .string { data := #[] }, .string { data := #[] }, .string { data := #[] }, .bool o, .int .i64 0, .int .i64 0, .int .i64 0, .slice none 0 0]] w fun e w' => e = .returned (.tuple #[.bool o, .int .i64 0]) ∧ Below w.heap.size w w' := by
  have TC := Lib.hid (fun W h => scalar_B o W h)
  have hb : Below w.heap.size w (w.alloc (.cells #[.int .i64 3, .string { data := #[] }, .string { data := #[] }, .string { data := #[] }, .bool o, .int .i64 0, .int .i64 0, .int .i64 0, .slice none 0 0] 27)) := (Below.refl _ _).alloc (Nat.le_refl _) _
  have HX := Lib.hid (heap_alloc_new w (.cells #[.int .i64 3, .string { data := #[] }, .string { data := #[] }, .string { data := #[] }, .bool o, .int .i64 0, .int .i64 0, .int .i64 0, .slice none 0 0] 27))
  have HL := Lib.hid hb
  have HE := Lib.hid (hE.below hb)
  clear hb hE
  go_enter Tryz.func271, Tryz.ntmps271
  go_wp2_with fail
  refine (TC.out _ HE.out).mono ?_
  rintro e W1 ⟨rfl, hb⟩
  replace HX := Lib.hid (keep_block HX.out hb)
  replace HL := Lib.hid (HL.out.trans (hb.mono HL.out.size))
  clear hb
  obtain ⟨⟨x0, x1, x2, x3, x4, x5, x6, x7, x8⟩, f0, f1, f2, f3, f4, f5, f6, f7, f8⟩ := nine_at HX.out
  obtain ⟨nb, e0, e1, e2, e3, e4, e5, e6, e7, e8⟩ := nine_end (x0 := (.int .i64 3)) (x1 := (.string { data := #[] })) (x2 := (.string { data := #[] })) (x3 := (.string { data := #[] })) (x4 := (.bool o)) (x5 := (.int .i64 0)) (x6 := (.int .i64 0)) (x7 := (.int .i64 0)) (x8 := (.slice none 0 0)) HX.out HL.out (Nat.le_refl _)
  have NB := Lib.hid nb
  clear nb
  go_wp2
  go_ret2
  exact ⟨rfl, NB.out⟩
set_option maxHeartbeats 4000000 in
set_option maxRecDepth 100000 in
theorem argFlag_B (b ab ao L C n : Nat) (o o0 : Bool) (w : World) (h : ArgsAt w b (some ⟨ab, ao, none⟩) L C n) (hn : n < L) (hL : L ≤ 1000000000) (hne : ab ≠ b) (hc : CellsAt w ab (ao + n * 9) (.int .i64 3) (.string { data := #[] }) (.string { data := #[] }) (.string { data := #[] }) (.bool o) (.int .i64 0) (.int .i64 0) (.int .i64 0) (.slice none 0 0)) (hE : Env w) (hP : Past b) :
    Calls Tryz.prog 154 #[.pointer (some ⟨b, 0, none⟩), .bool o0] w fun e w' => e = .returned (.bool o) ∧ ArgRet w b (some ⟨ab, ao, none⟩) L C (n + 1) w' := by
  have TM := Lib.hid (fun W g => more_any b (some ⟨ab, ao, none⟩) L C n W g hL)
  rw [decide_eq_true hn] at TM
  have TV := Lib.hid (fun W g g' => value_any b ab ao L C n 3 { data := #[] } { data := #[] } { data := #[] } o 0 0 0 none 0 0 W g hn hL hne g')
  have TN := Lib.hid (fun W g => toBool_B o W g)
  have HA := Lib.hid h
  have HC := Lib.hid hc
  have HE := Lib.hid hE
  have HP := Lib.hid hP
  have HG0 := Lib.hid (only_refl w (some b))
  clear h hc hE hn hL hne hP
  go_enter Tryz.func154, Tryz.ntmps154
  go_wp2_with fail
  refine (TM.out _ HA.out).mono ?_
  rintro e W0 ⟨rfl, hb⟩
  replace HA := Lib.hid (keep_block HA.out hb)
  replace HC := Lib.hid (CellsAt.below HC.out hb)
  replace HE := Lib.hid (HE.out.below hb)
  replace HG0 := Lib.hid (kept_trans HG0.out (kept_below hb))
  clear hb
  go_wp2_with fail
  refine (TV.out _ HA.out HC.out).mono ?_
  rintro e W1 ⟨rfl, ha, hg⟩
  replace HA := Lib.hid ha
  replace HE := Lib.hid (HE.out.kept hg HP.out)
  have HG := Lib.hid (kept_trans HG0.out hg)
  clear ha hg
  go_wp2_with fail
  refine (TN.out _ HE.out).mono ?_
  rintro e W2 ⟨rfl, hb⟩
  replace HA := Lib.hid (keep_block HA.out hb)
  replace HG := Lib.hid (kept_trans HG.out (kept_below hb))
  clear hb
  go_wp2_with fail
  refine (stop_zero _).mono ?_
  rintro e w3 ⟨rfl, rfl⟩
  go_wp2
  go_ret
  exact ⟨rfl, HA.out, HG.out⟩
end Go.Proofs.YtemdjmaakajhjaaGreatDoor.Num

/- package fstat: choose, power. Conditions: what the small functions give. -/
namespace Go.Proofs.YtemdjmaakajhjaaGreatDoor.Num.Ft
open Go.RowKit Go.Lib Num
/-- what stays while the quotient is built -/
structure ChI (W : World) (B5 : Nat) (s : Rat) (wx : World) : Prop where
  h4 : wx.heap[W.heap.size]? = some (.cells #[.string { data := #[] }, .string { data := #[] }] 24 (0, 0))
  h5 : wx.heap[B5]? = some (.cells #[.string (numS s), .string (denS s)] 24 (0, 0))
  low : Below W.heap.size W wx
attribute [local irreducible] wpOp
set_option linter.unusedSimpArgs false in
set_option linter.unusedVariables false in
set_option maxHeartbeats 4000000 in
set_option maxRecDepth 100000 in
theorem power_walk (x p : Rat) (n : Int) (W : World) (c0 : Fun2 191 (.agg #[.string (numS x), .string (denS x)]) (.int .i64 n) (.tuple #[.agg #[.string (numS p), .string (denS p)], .int .i64 0]))
    (c1 : Fun2 138 (.agg #[.string (numS p), .string (denS p)]) (.int .i64 0) (.agg #[.string (numS p), .string (denS p)])) (hE : EnvY W) :
    Calls Tryz.prog 158 #[.agg #[.string (numS x), .string (denS x)], .int .i64 n] W fun e w' => e = .returned (.agg #[.string (numS p), .string (denS p)]) ∧ Below W.heap.size W w' := by
  have Qc0 := Lib.hid c0
  have Qc1 := Lib.hid c1
  unfold Fun2 at Qc0 Qc1
  have HE0 := Lib.hid hE
  have HG := Lib.hid (show Below W.heap.size W ((W.alloc (.cells #[.string (numS x), .string (denS x)] 24)).alloc (.cells #[.string { data := #[] }, .string { data := #[] }] 24)) from (((Below.refl _ _).alloc (Nat.le_refl _) _).alloc (by simp only [World.size_alloc]; omega) _))
  have H2 : Hid (((W.alloc (.cells #[.string (numS x), .string (denS x)] 24)).alloc (.cells #[.string { data := #[] }, .string { data := #[] }] 24)).heap[W.heap.size]? = some (.cells #[.string (numS x), .string (denS x)] 24 (0, 0))) := Lib.hid (by
    have h := heap_alloc_new W (.cells #[.string (numS x), .string (denS x)] 24)
    exact new_keep (h))
  have H4 : Hid (((W.alloc (.cells #[.string (numS x), .string (denS x)] 24)).alloc (.cells #[.string { data := #[] }, .string { data := #[] }] 24)).heap[W.heap.size + 1]? = some (.cells #[.string { data := #[] }, .string { data := #[] }] 24 (0, 0))) := Lib.hid (by
    have h := heap_alloc_new (W.alloc (.cells #[.string (numS x), .string (denS x)] 24)) (.cells #[.string { data := #[] }, .string { data := #[] }] 24)
    simp only [World.size_alloc] at h
    exact h)
  obtain ⟨W0, hW0⟩ : ∃ Z, ((W.alloc (.cells #[.string (numS x), .string (denS x)] 24)).alloc (.cells #[.string { data := #[] }, .string { data := #[] }] 24)) = Z := ⟨_, rfl⟩
  rw [hW0] at HG H2 H4
  have EW0 := Lib.hid hW0
  have HE := Lib.hid (HE0.out.below HG.out)
  clear hW0 hE  c0 c1
  go_enter Tryz.func158, Tryz.ntmps158
  obtain ⟨⟨x2_0, x2_1⟩, x2_f0, x2_f1⟩ := two_at H2.out
  go_wp2_with fail
  rw [EW0.out]
  refine (Qc0.out _ HE.out).mono ?_
  clear x2_0 x2_1 x2_f0 x2_f1
  rintro e w1 ⟨rfl, hb⟩
  replace H2 := Lib.hid (keep_block H2.out hb)
  replace H4 := Lib.hid (keep_block H4.out hb)
  replace HE := Lib.hid (HE.out.below hb)
  replace HG := Lib.hid (HG.out.trans (hb.mono HG.out.size))
  clear hb
  go_wp2_with fail
  refine (Qc1.out _ HE.out).mono ?_
  rintro e w2 ⟨rfl, hb⟩
  replace H2 := Lib.hid (keep_block H2.out hb)
  replace H4 := Lib.hid (keep_block H4.out hb)
  replace HE := Lib.hid (HE.out.below hb)
  replace HG := Lib.hid (HG.out.trans (hb.mono HG.out.size))
  clear hb
  obtain ⟨⟨x4_0, x4_1⟩, x4_f0, x4_f1⟩ := two_at H4.out
  have n4 := set2_at H4.out (.string (numS p)) (.string (denS p))
  have hgl : Below W.heap.size W ((w2.setCell ⟨W.heap.size + 1, 0, none⟩ (.string (numS p))).setCell ⟨W.heap.size + 1, 1, none⟩ (.string (denS p))) := HG.out.trans (put2_below (show W.heap.size ≤ W.heap.size + 1 from (by omega)) w2 (.string (numS p)) (.string (denS p)))
  clear HG
  have HG := Lib.hid hgl
  clear hgl
  obtain ⟨⟨r4_0, r4_1⟩, _⟩ := two_at n4
  go_wp2
  refine bodyPost_ret (v := .agg #[.string (numS p), .string (denS p)]) (by simp [results, Tryz.results158, go_sem, r4_0, r4_1]) rfl ⟨rfl, HG.out⟩

set_option linter.unusedVariables false in
/-- what the operations of region 5 yield -/
def choose_walkKs5 (s t p q m : Rat) (n k i : Nat) (W w1 : World) : List RK :=
  [.pure (.agg #[.string (numS s), .string (denS s)]),
   .pure (.int .i64 (n : Int)),
   .pure (.int .i64 (k : Int)),
   .pure (.int .i64 ((n : Int) - (k : Int))),
   .pure (.int .i64 ((i : Int) + 1)),
   .pure (.int .i64 ((n : Int) - (k : Int) + ((i : Int) + 1))),
   .pure (.agg #[.string (numS p), .string (denS p)]),
   .pure (.agg #[.string (numS m), .string (denS m)]),
   .pure (.int .i64 ((i : Int) + 1)),
   .pure (.agg #[.string (numS q), .string (denS q)]),
   .pure (.agg #[.string (numS t), .string (denS t)]),
   .put 13,
   .box (some (W.heap.size)) #[.string { data := #[] }, .string { data := #[] }] #[.string { data := #[] }, .string { data := #[] }] 24 14,
   .box (some (w1.heap.size)) #[.string (numS s), .string (denS s)] #[.string (numS t), .string (denS t)] 24 11]
set_option linter.unusedSimpArgs false in
set_option linter.unusedVariables false in
set_option maxHeartbeats 4000000 in
set_option maxRecDepth 100000 in
theorem choose_walk (n k : Nat) (z : Rat) (S P Q M : Nat → Rat) (W : World) (h0 : n ≤ 1000)
    (h1 : k ≤ n)
    (c1 : Fun1 29 (.int .i64 1) (.agg #[.string (numS z), .string (denS z)]))
    (hS : S 0 = z)
    (ho : ∀ (i : Nat), i < k → Fun1 29 (.int .i64 ((n : Int) - (k : Int) + ((i : Int) + 1))) (fracV (P i)) ∧ Fun1 29 (.int .i64 ((i : Int) + 1)) (fracV (Q i)))
    (hm : ∀ (i : Nat), i < k → Fun2 144 (fracV (S i)) (fracV (P i)) (fracV (M i)) ∧ Fun2 51 (fracV (M i)) (fracV (Q i)) (fracV (S (i + 1)))) (hE : EnvY W) :
    Calls Tryz.prog 273 #[.int .i64 (n : Int), .int .i64 (k : Int)] W fun e w' => e = .returned (.agg #[.string (numS (S k)), .string (denS (S k))]) ∧ Below W.heap.size W w' := by
  have Qc1 := Lib.hid c1
  unfold Fun1 at Qc1
  have HS := Lib.hid hS
  have QO := Lib.hid ho
  have QM := Lib.hid hm
  have HE0 := Lib.hid hE
  have HG := Lib.hid (show Below W.heap.size W (W.alloc (.cells #[.string { data := #[] }, .string { data := #[] }] 24)) from ((Below.refl _ _).alloc (Nat.le_refl _) _))
  have H4 : Hid ((W.alloc (.cells #[.string { data := #[] }, .string { data := #[] }] 24)).heap[W.heap.size]? = some (.cells #[.string { data := #[] }, .string { data := #[] }] 24 (0, 0))) := Lib.hid (by
    have h := heap_alloc_new W (.cells #[.string { data := #[] }, .string { data := #[] }] 24)
    exact h)
  obtain ⟨W0, hW0⟩ : ∃ Z, (W.alloc (.cells #[.string { data := #[] }, .string { data := #[] }] 24)) = Z := ⟨_, rfl⟩
  rw [hW0] at HG H4
  have EW0 := Lib.hid hW0
  have HE := Lib.hid (HE0.out.below HG.out)
  clear hW0 hE  c1 hS ho hm
  go_enter Tryz.func273, Tryz.ntmps273
  go_wp2_with fail
  rw [EW0.out]
  refine (Qc1.out _ HE.out).mono ?_
  rintro e w1 ⟨rfl, hb⟩
  replace H4 := Lib.hid (keep_block H4.out hb)
  replace HE := Lib.hid (HE.out.below hb)
  replace HG := Lib.hid (HG.out.trans (hb.mono HG.out.size))
  clear hb
  have lt_4 := heap_lt H4.out
  have geW := HG.out.size
  have L5_4 : Hid (W.heap.size < w1.heap.size) := Lib.hid (by omega)
  have G5 : Hid (W.heap.size ≤ w1.heap.size) := Lib.hid (by omega)
  have hb : Below w1.heap.size w1 (w1.alloc (.cells #[.string (numS z), .string (denS z)] 24)) := (Below.refl _ _).alloc (Nat.le_refl _) _
  replace H4 := Lib.hid (keep_block H4.out hb)
  replace HE := Lib.hid (HE.out.below hb)
  replace HG := Lib.hid (HG.out.trans (hb.mono HG.out.size))
  have H5 := Lib.hid (heap_alloc_new w1 (.cells #[.string (numS z), .string (denS z)] 24))
  clear hb
  clear geW lt_4
  obtain ⟨WL1, hWL1⟩ : ∃ Z, (w1.alloc (.cells #[.string (numS z), .string (denS z)] 24)) = Z := ⟨_, rfl⟩
  rw [hWL1] at HE HG H4 H5
  have EWL1 := Lib.hid hWL1
  clear hWL1
  go_wp2_with fail
  rw [EWL1.out]
  go_loopg [6] k (fun gh v6 wx => ∃ i : Nat, v6 = .int .i64 ((i : Int) + 1) ∧ i ≤ k ∧ gh = k - i ∧ ChI W (w1.heap.size) (S i) wx)
  case atStart => exact ⟨0, rfl, Nat.zero_le _, rfl, ⟨H4.out, by rw [HS.out]; exact H5.out, HG.out⟩⟩
  case round =>
    clear H4 H5 HG HE
    obtain ⟨i, rfl, hi, hgi, hI⟩ := hrel
    have H4 := Lib.hid hI.h4
    have H5 := Lib.hid hI.h5
    have HG := Lib.hid hI.low
    have HE := Lib.hid (HE0.out.below hI.low)
    clear hI
    by_cases hlt : i < k
    · have hdd : decide ((i : Int) + 1 ≤ (k : Int)) = true := decide_eq_true (by omega)
      have hdd2 : decide (i + 1 ≤ k) = true := decide_eq_true (by omega)
      have hdd3 : decide ((i : Int) < (k : Int)) = true := decide_eq_true (by omega)
      have hw1 : IntKind.i64.wrap ((n : Int) - (k : Int)) = (n : Int) - (k : Int) := IntWalk.i64_in _ (by omega)
      have hw2 : IntKind.i64.wrap ((n : Int) - (k : Int) + ((i : Int) + 1)) = (n : Int) - (k : Int) + ((i : Int) + 1) := IntWalk.i64_in _ (by omega)
      have hw3 : IntKind.i64.wrap ((i : Int) + 1 + 1) = (i : Int) + 1 + 1 := IntWalk.i64_in _ (by omega)
      have QO1 := Lib.hid (QO.out i hlt).1
      have QO2 := Lib.hid (QO.out i hlt).2
      have QM1 := Lib.hid (QM.out i hlt).1
      have QM2 := Lib.hid (QM.out i hlt).2
      obtain ⟨s, hs⟩ : ∃ x, S i = x := ⟨_, rfl⟩
      obtain ⟨t, ht⟩ : ∃ x, S (i + 1) = x := ⟨_, rfl⟩
      obtain ⟨p, hp⟩ : ∃ x, P i = x := ⟨_, rfl⟩
      obtain ⟨q, hq⟩ : ∃ x, Q i = x := ⟨_, rfl⟩
      obtain ⟨m, hm'⟩ : ∃ x, M i = x := ⟨_, rfl⟩
      rw [hs] at QM1 H5
      rw [ht] at QM2
      rw [hp] at QO1 QM1
      rw [hq] at QO2 QM2
      rw [hm'] at QM1 QM2
      have HT := Lib.hid ht
      rw [fracV_is p] at QO1
      rw [fracV_is q] at QO2
      rw [fracV_is s, fracV_is p, fracV_is m] at QM1
      rw [fracV_is m, fracV_is q, fracV_is t] at QM2
      unfold Fun1 at QO1 QO2
      unfold Fun2 at QM1 QM2
      clear hs ht hp hq hm'
      go_upto_region 5 with fail
      go_wp2_with fail
      have := L5_4.out
      have := HG.out.size
      have := G5.out
      have hok : okB 12 (choose_walkKs5 s t p q m n k i W w1) = true := by kernel_rfl
      have hna := noAny_of (ks := (choose_walkKs5 s t p q m n k i W w1)) (by kernel_rfl)
      have hla := lasts_of hna
      refine wp_region_facts (row := none) (w := W) 12 (choose_walkKs5 s t p q m n k i W w1) [some 13, some 14, some 15, some 16, some 17, some 18, some 19, some 20, some 21, some 22, some 23, none] (by kernel_rfl) (by kernel_rfl) rfl [u13, u14, u15, u16, u17, u18, u19, u20, u21, u22, u23, undef, .pointer (some ⟨W.heap.size, 0, none⟩), .pointer (some ⟨w1.heap.size, 0, none⟩)] ?h00 (Fs.start_olds hla rfl (only_of_below HG.out none) ⟨⟨_, rfl, fun _ h => Option.some.inj h, by omega, H4.out⟩, fun _ => ⟨fun _ => far_of (by omega), trivial⟩, ⟨⟨_, rfl, fun _ h => Option.some.inj h, by omega, H5.out⟩, fun _ => trivial, trivial⟩⟩) ?hs ?hd
      case h00 => simp only [putO, layL]
      case hs =>
        rintro listed vs Wr hF i hi hun hpre
        obtain ⟨s0, s1, s2, s3, s4, s5, s6, s7, s8, s9, s10, s11, o0, o1, hvs⟩ := exl_of 14 vs (fun l => vs = l) hF.len rfl
        subst hvs
        obtain ⟨eG0, gG0, hO0⟩ := old_of hF (i := 12) rfl (.inl (by decide))
        replace eG0 : o0 = _ := eG0
        subst eG0
        obtain ⟨eG1, gG1, hO1⟩ := old_of hF (i := 13) rfl (.inl (by decide))
        replace eG1 : o1 = _ := eG1
        subst eG1
        have hge := Nat.zero_le i
        simp only [putO, layL]
        rcases Nat.lt_or_ge i 6 with hlt | hgt
        · replace hi := hlt
          clear hlt
          rcases Nat.lt_or_ge i 3 with hlt | hgt
          · replace hi := hlt
            clear hlt
            rcases Nat.lt_or_ge i 1 with hlt | hgt
            · replace hi := hlt
              clear hlt
              obtain rfl := eqi hi hge
              rw [if_neg (fun h => bit_off hun (hF.back 11 0 h (by kernel_rfl)))] at hO1
              have hcc := (two_at (hO1)).1
              have cH50 := hcc.1
              have cH51 := hcc.2
              clear hcc
              refine step_of ⟨some 13, _, _, _, _, _⟩ rfl (fun K' hK => ?_)
              go_simp
              refine hK.out _ _ ⟨_, hF.pure hok hla hpre rfl (Below.refl _ _), ?fr⟩
              case fr => simp only [putO, layL]
            · replace hge : 1 ≤ i := hgt
              clear hgt
              rcases Nat.lt_or_ge i 2 with hlt | hgt
              · replace hi := hlt
                clear hlt
                obtain rfl := eqi hi hge
                refine step_of ⟨some 14, _, _, _, _, _⟩ rfl (fun K' hK => ?_)
                go_simp
                refine hK.out _ _ ⟨_, hF.pure hok hla hpre rfl (Below.refl _ _), ?fr⟩
                case fr => simp only [putO, layL]
              · replace hge : 2 ≤ i := hgt
                clear hgt
                obtain rfl := eqi hi hge
                refine step_of ⟨some 15, _, _, _, _, _⟩ rfl (fun K' hK => ?_)
                go_simp
                refine hK.out _ _ ⟨_, hF.pure hok hla hpre rfl (Below.refl _ _), ?fr⟩
                case fr => simp only [putO, layL]
          · replace hge : 3 ≤ i := hgt
            clear hgt
            rcases Nat.lt_or_ge i 4 with hlt | hgt
            · replace hi := hlt
              clear hlt
              obtain rfl := eqi hi hge
              have p1 := hpre 1 (by kernel_rfl)
              have e1 : s1 = .int .i64 (n : Int) := hF.get 1 _ rfl (.inr p1)
              subst e1
              have p2 := hpre 2 (by kernel_rfl)
              have e2 : s2 = .int .i64 (k : Int) := hF.get 2 _ rfl (.inr p2)
              subst e2
              refine step_of ⟨some 16, _, _, _, _, _⟩ rfl (fun K' hK => ?_)
              go_simp
              refine hK.out _ _ ⟨_, hF.pure hok hla hpre rfl (Below.refl _ _), ?fr⟩
              case fr => simp only [putO, layL]
            · replace hge : 4 ≤ i := hgt
              clear hgt
              rcases Nat.lt_or_ge i 5 with hlt | hgt
              · replace hi := hlt
                clear hlt
                obtain rfl := eqi hi hge
                refine step_of ⟨some 17, _, _, _, _, _⟩ rfl (fun K' hK => ?_)
                go_simp
                refine hK.out _ _ ⟨_, hF.pure hok hla hpre rfl (Below.refl _ _), ?fr⟩
                case fr => simp only [putO, layL]
              · replace hge : 5 ≤ i := hgt
                clear hgt
                obtain rfl := eqi hi hge
                have p3 := hpre 3 (by kernel_rfl)
                have e3 : s3 = .int .i64 ((n : Int) - (k : Int)) := hF.get 3 _ rfl (.inr p3)
                subst e3
                have p4 := hpre 4 (by kernel_rfl)
                have e4 : s4 = .int .i64 ((i : Int) + 1) := hF.get 4 _ rfl (.inr p4)
                subst e4
                refine step_of ⟨some 18, _, _, _, _, _⟩ rfl (fun K' hK => ?_)
                go_simp
                refine hK.out _ _ ⟨_, hF.pure hok hla hpre rfl (Below.refl _ _), ?fr⟩
                case fr => simp only [putO, layL]
        · replace hge : 6 ≤ i := hgt
          clear hgt
          rcases Nat.lt_or_ge i 9 with hlt | hgt
          · replace hi := hlt
            clear hlt
            rcases Nat.lt_or_ge i 7 with hlt | hgt
            · replace hi := hlt
              clear hlt
              obtain rfl := eqi hi hge
              have p5 := hpre 5 (by kernel_rfl)
              have e5 : s5 = .int .i64 ((n : Int) - (k : Int) + ((i : Int) + 1)) := hF.get 5 _ rfl (.inr p5)
              subst e5
              refine step_of ⟨some 19, _, _, _, _, _⟩ rfl (fun K' hK => ?_)
              go_simp
              go_at_call 29
              (with_reducible refine (QO1.out _ (HE0.out.below (below_none hF.low))).mono ?_)
              rintro e Wq ⟨rfl, hq⟩
              refine hK.out _ _ ⟨_, hF.pure hok hla hpre rfl hq, ?fr⟩
              case fr => simp only [putO, layL]
            · replace hge : 7 ≤ i := hgt
              clear hgt
              rcases Nat.lt_or_ge i 8 with hlt | hgt
              · replace hi := hlt
                clear hlt
                obtain rfl := eqi hi hge
                have p0 := hpre 0 (by kernel_rfl)
                have e0 : s0 = .agg #[.string (numS s), .string (denS s)] := hF.get 0 _ rfl (.inr p0)
                subst e0
                have p6 := hpre 6 (by kernel_rfl)
                have e6 : s6 = .agg #[.string (numS p), .string (denS p)] := hF.get 6 _ rfl (.inr p6)
                subst e6
                refine step_of ⟨some 20, _, _, _, _, _⟩ rfl (fun K' hK => ?_)
                go_simp
                go_at_call 144
                (with_reducible refine (QM1.out _ (HE0.out.below (below_none hF.low))).mono ?_)
                rintro e Wq ⟨rfl, hq⟩
                refine hK.out _ _ ⟨_, hF.pure hok hla hpre rfl hq, ?fr⟩
                case fr => simp only [putO, layL]
              · replace hge : 8 ≤ i := hgt
                clear hgt
                obtain rfl := eqi hi hge
                refine step_of ⟨some 21, _, _, _, _, _⟩ rfl (fun K' hK => ?_)
                go_simp
                refine hK.out _ _ ⟨_, hF.pure hok hla hpre rfl (Below.refl _ _), ?fr⟩
                case fr => simp only [putO, layL]
          · replace hge : 9 ≤ i := hgt
            clear hgt
            rcases Nat.lt_or_ge i 10 with hlt | hgt
            · replace hi := hlt
              clear hlt
              obtain rfl := eqi hi hge
              have p8 := hpre 8 (by kernel_rfl)
              have e8 : s8 = .int .i64 ((i : Int) + 1) := hF.get 8 _ rfl (.inr p8)
              subst e8
              refine step_of ⟨some 22, _, _, _, _, _⟩ rfl (fun K' hK => ?_)
              go_simp
              go_at_call 29
              (with_reducible refine (QO2.out _ (HE0.out.below (below_none hF.low))).mono ?_)
              rintro e Wq ⟨rfl, hq⟩
              refine hK.out _ _ ⟨_, hF.pure hok hla hpre rfl hq, ?fr⟩
              case fr => simp only [putO, layL]
            · replace hge : 10 ≤ i := hgt
              clear hgt
              rcases Nat.lt_or_ge i 11 with hlt | hgt
              · replace hi := hlt
                clear hlt
                obtain rfl := eqi hi hge
                have p7 := hpre 7 (by kernel_rfl)
                have e7 : s7 = .agg #[.string (numS m), .string (denS m)] := hF.get 7 _ rfl (.inr p7)
                subst e7
                have p9 := hpre 9 (by kernel_rfl)
                have e9 : s9 = .agg #[.string (numS q), .string (denS q)] := hF.get 9 _ rfl (.inr p9)
                subst e9
                refine step_of ⟨some 23, _, _, _, _, _⟩ rfl (fun K' hK => ?_)
                go_simp
                go_at_call 51
                (with_reducible refine (QM2.out _ (HE0.out.below (below_none hF.low))).mono ?_)
                rintro e Wq ⟨rfl, hq⟩
                refine hK.out _ _ ⟨_, hF.pure hok hla hpre rfl hq, ?fr⟩
                case fr => simp only [putO, layL]
              · replace hge : 11 ≤ i := hgt
                clear hgt
                obtain rfl := eqi hi hge
                have p10 := hpre 10 (by kernel_rfl)
                have e10 : s10 = .agg #[.string (numS t), .string (denS t)] := hF.get 10 _ rfl (.inr p10)
                subst e10
                rw [if_neg (bit_off hun)] at hO1
                have HGB := Lib.hid hO1
                obtain ⟨⟨y0, y1⟩, g0, g1⟩ := two_at HGB.out
                refine step_of ⟨none, _, _, _, _, _⟩ rfl (fun K' hK => ?_)
                go_simp
                refine hK.out _ _ ⟨undef, hF.put hok hna hpre hun rfl undef rfl (.inl (by decide)) rfl (set2_at HGB.out (.string (numS t)) (.string (denS t))) (fun k hk => set2_other _ _ (.string (numS t)) (.string (denS t)) hk) (put2_below gG1 _ (.string (numS t)) (.string (denS t))), ?fr⟩
                case fr => simp only [putO, layL]
      case hd =>
        rintro listed vs WB hF hall
        obtain ⟨s0, s1, s2, s3, s4, s5, s6, s7, s8, s9, s10, s11, o0, o1, hvs⟩ := exl_of 14 vs (fun l => vs = l) hF.len rfl
        subst hvs
        obtain ⟨eG0, gG0, hO0⟩ := old_of hF (i := 12) rfl (.inl (by decide))
        replace eG0 : o0 = _ := eG0
        subst eG0
        obtain ⟨eG1, gG1, hO1⟩ := old_of hF (i := 13) rfl (.inl (by decide))
        replace eG1 : o1 = _ := eG1
        subst eG1
        rw [if_neg (hF.unst (by decide))] at hO0
        replace H4 := Lib.hid hO0
        clear hO0
        rw [if_pos (hall 11 (by decide))] at hO1
        replace H5 := Lib.hid hO1
        clear hO1
        have HQ := Lib.hid hF.low
        clear hF hall hok hna hla
        simp only [putO, layL]
        replace HG := Lib.hid (below_none HQ.out)
        clear HQ
        replace HE := Lib.hid (HE0.out.below HG.out)
        have HI := Lib.hid (show ChI W (w1.heap.size) t _ from ⟨H4.out, H5.out, HG.out⟩)
        go_wp2
        go_roundg (k - (i + 1))
        case measure => omega
        case rel => exact ⟨i + 1, by go_num, by omega, by omega, by rw [HT.out]; exact HI.out⟩
    · have hdd : decide ((i : Int) + 1 ≤ (k : Int)) = false := decide_eq_false (by omega)
      have hdd2 : decide (i + 1 ≤ k) = false := decide_eq_false (by omega)
      have hdd3 : decide ((i : Int) < (k : Int)) = false := decide_eq_false (by omega)
      have hik : i = k := by omega
      subst hik
      obtain ⟨s, hs⟩ : ∃ s, S i = s := ⟨_, rfl⟩
      rw [hs] at H5
      have HS0 := Lib.hid hs
      clear hs hlt
      obtain ⟨⟨x5_0, x5_1⟩, x5_f0, x5_f1⟩ := two_at H5.out
      obtain ⟨⟨x4_0, x4_1⟩, x4_f0, x4_f1⟩ := two_at H4.out
      have n4 := set2_at H4.out (.string (numS s)) (.string (denS s))
      have hgl : Below W.heap.size W ((wr.setCell ⟨W.heap.size, 0, none⟩ (.string (numS s))).setCell ⟨W.heap.size, 1, none⟩ (.string (denS s))) := HG.out.trans (put2_below (show W.heap.size ≤ W.heap.size from (by omega)) wr (.string (numS s)) (.string (denS s)))
      clear HG
      have HG := Lib.hid hgl
      clear hgl
      obtain ⟨⟨r4_0, r4_1⟩, _⟩ := two_at n4
      go_wp2
      refine bodyPost_ret (v := .agg #[.string (numS s), .string (denS s)]) (by simp [results, Tryz.results273, go_sem, r4_0, r4_1]) rfl ⟨by rw [HS0.out], HG.out⟩

end Go.Proofs.YtemdjmaakajhjaaGreatDoor.Num.Ft
