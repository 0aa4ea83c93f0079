/- Numbers as texts of digits, fractions, values and the functions of fmath: contracts of the program's functions, joined from smaller texts. Conditions stand at each theorem. -/
import Derived.Test.YtcgglmoeneiokaaGreatDoorRndB
import Derived.Test.YtcgglmoeneiokaaGreatDoorNumH
import Derived.Lib.MinMax
import Derived.Test.YtcgglmoeneiokaaGreatDoorRnfA

/- package value's Compare at numbers. Conditions: the numbers are not too long; the tables lie as they are laid. -/
namespace Go.Proofs.YtcgglmoeneiokaaGreatDoor.Num
open Go.RowKit Go.Lib

theorem same_one (p : Rat) (W : World) : Calls Tryz.prog 12 #[.agg #[.int .i64 1, .string (numS p), .string (denS p), .string { data := #[] }, .bool false, .int .i64 0, .int .i64 0, .int .i64 0, .slice none 0 0], .agg #[.int .i64 1, .string (numS p), .string (denS p), .string { data := #[] }, .bool false, .int .i64 0, .int .i64 0, .int .i64 0, .slice none 0 0]] W fun e w' => e = .returned (.bool true) ∧ Below W.heap.size W w' := by
  refine (same_num p p W).mono ?_
  rintro e w' ⟨rfl, h⟩
  exact ⟨by rw [decide_eq_true rfl], h⟩
set_option linter.unusedSimpArgs false in
set_option linter.unusedVariables false in
set_option maxHeartbeats 4000000 in
set_option maxRecDepth 100000 in
theorem like_num (p q : Rat) (w : World) : Calls Tryz.prog 36 #[.agg #[.int .i64 1, .string (numS p), .string (denS p), .string { data := #[] }, .bool false, .int .i64 0, .int .i64 0, .int .i64 0, .slice none 0 0], .agg #[.int .i64 1, .string (numS q), .string (denS q), .string { data := #[] }, .bool false, .int .i64 0, .int .i64 0, .int .i64 0, .slice none 0 0]] w fun e w' => e = .returned (.agg #[.int .i64 1, .string (numS p), .string (denS p), .string { data := #[] }, .bool false, .int .i64 0, .int .i64 0, .int .i64 0, .slice none 0 0]) ∧ Below w.heap.size w w' := by
  obtain ⟨hx, _, hr, hb⟩ := three_new w (.cells #[.int .i64 1, .string (numS p), .string (denS p), .string { data := #[] }, .bool false, .int .i64 0, .int .i64 0, .int .i64 0, .slice none 0 0] 27) (.cells #[.int .i64 1, .string (numS q), .string (denS q), .string { data := #[] }, .bool false, .int .i64 0, .int .i64 0, .int .i64 0, .slice none 0 0] 27) (.cells #[.int .i64 0, .string { data := #[] }, .string { data := #[] }, .string { data := #[] }, .bool false, .int .i64 0, .int .i64 0, .int .i64 0, .slice none 0 0] 27)
  obtain ⟨⟨x0, x1, x2, x3, x4, x5, x6, x7, x8⟩, _⟩ := nine_at hx
  obtain ⟨⟨r0, r1, r2, r3, r4, r5, r6, r7, r8⟩, g0, g1, g2, g3, g4, g5, g6, g7, g8⟩ := nine_at hr
  clear hx hr hb
  obtain ⟨_, _, hr2, nb⟩ := three_new w (.cells #[.int .i64 1, .string (numS p), .string (denS p), .string { data := #[] }, .bool false, .int .i64 0, .int .i64 0, .int .i64 0, .slice none 0 0] 27) (.cells #[.int .i64 1, .string (numS q), .string (denS q), .string { data := #[] }, .bool false, .int .i64 0, .int .i64 0, .int .i64 0, .slice none 0 0] 27) (.cells #[.int .i64 1, .string (numS p), .string (denS p), .string { data := #[] }, .bool false, .int .i64 0, .int .i64 0, .int .i64 0, .slice none 0 0] 27)
  obtain ⟨⟨e0, e1, e2, e3, e4, e5, e6, e7, e8⟩, _⟩ := nine_at hr2
  clear hr2
  go_enter Tryz.func36, Tryz.ntmps36
  go_wp2
  refine bodyPost_ret (v := .agg #[.int .i64 1, .string (numS p), .string (denS p), .string { data := #[] }, .bool false, .int .i64 0, .int .i64 0, .int .i64 0, .slice none 0 0]) (by simp [results, Tryz.results36, go_sem, e0, e1, e2, e3, e4, e5, e6, e7, e8]) rfl ⟨rfl, nb⟩

set_option linter.unusedSimpArgs false in
set_option linter.unusedVariables false in
set_option maxHeartbeats 4000000 in
set_option maxRecDepth 100000 in
theorem compared_num (p q : Rat) (w : World) (hp : fits p = true) (hq : fits q = true) : Calls Tryz.prog 39 #[.agg #[.int .i64 1, .string (numS p), .string (denS p), .string { data := #[] }, .bool false, .int .i64 0, .int .i64 0, .int .i64 0, .slice none 0 0], .agg #[.int .i64 1, .string (numS q), .string (denS q), .string { data := #[] }, .bool false, .int .i64 0, .int .i64 0, .int .i64 0, .slice none 0 0]] w fun e w' => e = .returned (.int .i64 (cmpR p q)) ∧ Below w.heap.size w w' := by
  have TC := Lib.hid (fun W => compare_q p q W hp hq)
  rw [fracV_is p, fracV_is q] at TC
  obtain ⟨hx, hy, _⟩ := two_new w (.cells #[.int .i64 1, .string (numS p), .string (denS p), .string { data := #[] }, .bool false, .int .i64 0, .int .i64 0, .int .i64 0, .slice none 0 0] 27) (.cells #[.int .i64 1, .string (numS q), .string (denS q), .string { data := #[] }, .bool false, .int .i64 0, .int .i64 0, .int .i64 0, .slice none 0 0] 27)
  have hb : Below w.heap.size w ((w.alloc (.cells #[.int .i64 1, .string (numS p), .string (denS p), .string { data := #[] }, .bool false, .int .i64 0, .int .i64 0, .int .i64 0, .slice none 0 0] 27)).alloc (.cells #[.int .i64 1, .string (numS q), .string (denS q), .string { data := #[] }, .bool false, .int .i64 0, .int .i64 0, .int .i64 0, .slice none 0 0] 27)) := ((Below.refl _ _).alloc (Nat.le_refl _) _).alloc (by simp) _
  have HX := Lib.hid hx
  have HY := Lib.hid hy
  have HL := Lib.hid hb
  clear hx hy hb hp hq
  obtain ⟨⟨x0, x1, x2, x3, x4, x5, x6, x7, x8⟩, _⟩ := nine_at HX.out
  obtain ⟨⟨y0, y1, y2, y3, y4, y5, y6, y7, y8⟩, _⟩ := nine_at HY.out
  go_enter Tryz.func39, Tryz.ntmps39
  go_wp2_with fail
  refine (TC.out _).mono ?_
  rintro e W1 ⟨rfl, hb⟩
  replace HL := Lib.hid (HL.out.trans (hb.mono HL.out.size))
  clear hb
  go_wp2
  go_ret
  exact ⟨rfl, HL.out⟩

set_option linter.unusedSimpArgs false in
set_option linter.unusedVariables false in
set_option maxHeartbeats 4000000 in
set_option maxRecDepth 100000 in
theorem both_num (p q : Rat) (w : World) (hp : fits p = true) (hq : fits q = true) (hE : Env w) : Calls Tryz.prog 35 #[.agg #[.int .i64 1, .string (numS p), .string (denS p), .string { data := #[] }, .bool false, .int .i64 0, .int .i64 0, .int .i64 0, .slice none 0 0], .agg #[.int .i64 1, .string (numS q), .string (denS q), .string { data := #[] }, .bool false, .int .i64 0, .int .i64 0, .int .i64 0, .slice none 0 0], .int .i64 3] w fun e w' => e = .returned (.int .i64 0) ∧ Below w.heap.size w w' := by
  have C1 := Lib.hid (fun W g => check_num p W hp g)
  have C2 := Lib.hid (fun W g => check_num q W hq g)
  have i0 : ∀ w, (Instr.index 83 (.agg #[.int .i64 1, .string (numS p), .string (denS p), .string { data := #[] }, .bool false, .int .i64 0, .int .i64 0, .int .i64 0, .slice none 0 0, .int .i64 1, .string (numS q), .string (denS q), .string { data := #[] }, .bool false, .int .i64 0, .int .i64 0, .int .i64 0, .slice none 0 0]) (.int .i64 0)).run Tryz.prog w = .ok (.agg #[.int .i64 1, .string (numS p), .string (denS p), .string { data := #[] }, .bool false, .int .i64 0, .int .i64 0, .int .i64 0, .slice none 0 0]) w := fun _ => by kernel_rfl
  have i1 : ∀ w, (Instr.index 83 (.agg #[.int .i64 1, .string (numS p), .string (denS p), .string { data := #[] }, .bool false, .int .i64 0, .int .i64 0, .int .i64 0, .slice none 0 0, .int .i64 1, .string (numS q), .string (denS q), .string { data := #[] }, .bool false, .int .i64 0, .int .i64 0, .int .i64 0, .slice none 0 0]) (.int .i64 1)).run Tryz.prog w = .ok (.agg #[.int .i64 1, .string (numS q), .string (denS q), .string { data := #[] }, .bool false, .int .i64 0, .int .i64 0, .int .i64 0, .slice none 0 0]) w := fun _ => by kernel_rfl
  obtain ⟨hx, hy, _⟩ := two_new w (.cells #[.int .i64 1, .string (numS p), .string (denS p), .string { data := #[] }, .bool false, .int .i64 0, .int .i64 0, .int .i64 0, .slice none 0 0] 27) (.cells #[.int .i64 1, .string (numS q), .string (denS q), .string { data := #[] }, .bool false, .int .i64 0, .int .i64 0, .int .i64 0, .slice none 0 0] 27)
  have hb : Below w.heap.size w ((w.alloc (.cells #[.int .i64 1, .string (numS p), .string (denS p), .string { data := #[] }, .bool false, .int .i64 0, .int .i64 0, .int .i64 0, .slice none 0 0] 27)).alloc (.cells #[.int .i64 1, .string (numS q), .string (denS q), .string { data := #[] }, .bool false, .int .i64 0, .int .i64 0, .int .i64 0, .slice none 0 0] 27)) := ((Below.refl _ _).alloc (Nat.le_refl _) _).alloc (by simp) _
  have HX := Lib.hid hx
  have HY := Lib.hid hy
  have HL := Lib.hid hb
  have HE := Lib.hid (hE.below hb)
  clear hx hy hb hp hq hE
  obtain ⟨W0, hW0⟩ : ∃ Z, (w.alloc (.cells #[.int .i64 1, .string (numS p), .string (denS p), .string { data := #[] }, .bool false, .int .i64 0, .int .i64 0, .int .i64 0, .slice none 0 0] 27)).alloc (.cells #[.int .i64 1, .string (numS q), .string (denS q), .string { data := #[] }, .bool false, .int .i64 0, .int .i64 0, .int .i64 0, .slice none 0 0] 27) = Z := ⟨_, rfl⟩
  rw [hW0] at HX HY HL HE
  have EW0 := Lib.hid hW0
  clear hW0
  have hb : Below W0.heap.size W0 (W0.alloc (.cells #[.int .i64 1, .string (numS p), .string (denS p), .string { data := #[] }, .bool false, .int .i64 0, .int .i64 0, .int .i64 0, .slice none 0 0] 27)) := (Below.refl _ _).alloc (Nat.le_refl _) _
  go_enter Tryz.func35, Tryz.ntmps35
  go_wp2
  rw [EW0.out]
  replace HX := Lib.hid (keep_block HX.out hb)
  replace HY := Lib.hid (keep_block HY.out hb)
  replace HE := Lib.hid (HE.out.below hb)
  replace HL := Lib.hid (HL.out.trans (hb.mono HL.out.size))
  clear hb
  refine wp_loop_rounds 3 ?_
  rw [rounds_succ]
  go_wp2_with fail
  refine (C1.out _ HE.out).mono ?_
  rintro e W1 ⟨rfl, hb⟩
  replace HX := Lib.hid (keep_block HX.out hb)
  replace HY := Lib.hid (keep_block HY.out hb)
  replace HE := Lib.hid (HE.out.below hb)
  replace HL := Lib.hid (HL.out.trans (hb.mono HL.out.size))
  clear hb
  go_wp2
  rw [rounds_succ]
  have hb : Below W1.heap.size W1 (W1.alloc (.cells #[.int .i64 1, .string (numS q), .string (denS q), .string { data := #[] }, .bool false, .int .i64 0, .int .i64 0, .int .i64 0, .slice none 0 0] 27)) := (Below.refl _ _).alloc (Nat.le_refl _) _
  replace HX := Lib.hid (keep_block HX.out hb)
  replace HY := Lib.hid (keep_block HY.out hb)
  replace HE := Lib.hid (HE.out.below hb)
  replace HL := Lib.hid (HL.out.trans (hb.mono HL.out.size))
  clear hb
  go_wp2_with fail
  refine (C2.out _ HE.out).mono ?_
  rintro e W2 ⟨rfl, hb⟩
  replace HX := Lib.hid (keep_block HX.out hb)
  replace HY := Lib.hid (keep_block HY.out hb)
  replace HE := Lib.hid (HE.out.below hb)
  replace HL := Lib.hid (HL.out.trans (hb.mono HL.out.size))
  clear hb
  go_wp2
  rw [rounds_succ]
  obtain ⟨⟨x0, x1, x2, x3, x4, x5, x6, x7, x8⟩, _⟩ := nine_at HX.out
  obtain ⟨⟨y0, y1, y2, y3, y4, y5, y6, y7, y8⟩, _⟩ := nine_at HY.out
  go_wp2
  go_ret
  exact ⟨rfl, HL.out⟩

set_option linter.unusedVariables false in
/-- what the operations of region 4 yield -/
def CmpKs4 (w W1 : World) (p q : Rat) : List RK :=
  [.pure (.agg #[.int .i64 1, .string (numS p), .string (denS p), .string { data := #[] }, .bool false, .int .i64 0, .int .i64 0, .int .i64 0, .slice none 0 0]),
   .pure (.agg #[.int .i64 1, .string (numS q), .string (denS q), .string { data := #[] }, .bool false, .int .i64 0, .int .i64 0, .int .i64 0, .slice none 0 0]),
   .pure (.agg #[.int .i64 1, .string (numS p), .string (denS p), .string { data := #[] }, .bool false, .int .i64 0, .int .i64 0, .int .i64 0, .slice none 0 0]),
   .pure (.agg #[.int .i64 1, .string (numS q), .string (denS q), .string { data := #[] }, .bool false, .int .i64 0, .int .i64 0, .int .i64 0, .slice none 0 0]),
   .pure (.agg #[.int .i64 1, .string (numS p), .string (denS p), .string { data := #[] }, .bool false, .int .i64 0, .int .i64 0, .int .i64 0, .slice none 0 0]),
   .pure (.agg #[.int .i64 1, .string (numS q), .string (denS q), .string { data := #[] }, .bool false, .int .i64 0, .int .i64 0, .int .i64 0, .slice none 0 0]),
   .put 8,
   .put 9,
   .box (some (w.heap.size)) #[.int .i64 1, .string (numS p), .string (denS p), .string { data := #[] }, .bool false, .int .i64 0, .int .i64 0, .int .i64 0, .slice none 0 0] #[.int .i64 1, .string (numS p), .string (denS p), .string { data := #[] }, .bool false, .int .i64 0, .int .i64 0, .int .i64 0, .slice none 0 0] 27 6,
   .box (some (w.heap.size + 1)) #[.int .i64 1, .string (numS q), .string (denS q), .string { data := #[] }, .bool false, .int .i64 0, .int .i64 0, .int .i64 0, .slice none 0 0] #[.int .i64 1, .string (numS q), .string (denS q), .string { data := #[] }, .bool false, .int .i64 0, .int .i64 0, .int .i64 0, .slice none 0 0] 27 7]
set_option linter.unusedSimpArgs false in
set_option linter.unusedVariables false in
set_option maxHeartbeats 4000000 in
set_option maxRecDepth 100000 in
theorem compare_num (p q : Rat) (w : World) (hp : fits p = true) (hq : fits q = true) (hE : Env w) : Calls Tryz.prog 20 #[.agg #[.int .i64 1, .string (numS p), .string (denS p), .string { data := #[] }, .bool false, .int .i64 0, .int .i64 0, .int .i64 0, .slice none 0 0], .agg #[.int .i64 1, .string (numS q), .string (denS q), .string { data := #[] }, .bool false, .int .i64 0, .int .i64 0, .int .i64 0, .slice none 0 0]] w fun e w' => e = .returned (.tuple #[.int .i64 (cmpR p q), .int .i64 0]) ∧ Below w.heap.size w w' := by
  have TB := Lib.hid (fun W g => both_num p q W hp hq g)
  have T1 := Lib.hid (fun W => like_num p q W)
  have T2 := Lib.hid (fun W => like_num q p W)
  have TC := Lib.hid (fun W => compared_num p q W hp hq)
  obtain ⟨hx, hy, _⟩ := two_new w (.cells #[.int .i64 1, .string (numS p), .string (denS p), .string { data := #[] }, .bool false, .int .i64 0, .int .i64 0, .int .i64 0, .slice none 0 0] 27) (.cells #[.int .i64 1, .string (numS q), .string (denS q), .string { data := #[] }, .bool false, .int .i64 0, .int .i64 0, .int .i64 0, .slice none 0 0] 27)
  have hb : Below w.heap.size w ((w.alloc (.cells #[.int .i64 1, .string (numS p), .string (denS p), .string { data := #[] }, .bool false, .int .i64 0, .int .i64 0, .int .i64 0, .slice none 0 0] 27)).alloc (.cells #[.int .i64 1, .string (numS q), .string (denS q), .string { data := #[] }, .bool false, .int .i64 0, .int .i64 0, .int .i64 0, .slice none 0 0] 27)) := ((Below.refl _ _).alloc (Nat.le_refl _) _).alloc (by simp) _
  have H2 := Lib.hid hx
  have H3 := Lib.hid hy
  have HL := Lib.hid hb
  have HE := Lib.hid (hE.below hb)
  clear hx hy hb hp hq hE
  obtain ⟨W0, hW0⟩ : ∃ Z, (w.alloc (.cells #[.int .i64 1, .string (numS p), .string (denS p), .string { data := #[] }, .bool false, .int .i64 0, .int .i64 0, .int .i64 0, .slice none 0 0] 27)).alloc (.cells #[.int .i64 1, .string (numS q), .string (denS q), .string { data := #[] }, .bool false, .int .i64 0, .int .i64 0, .int .i64 0, .slice none 0 0] 27) = Z := ⟨_, rfl⟩
  rw [hW0] at H2 H3 HL HE
  have EW0 := Lib.hid hW0
  clear hW0
  go_enter Tryz.func20, Tryz.ntmps20
  go_wp2_with fail
  rw [EW0.out]
  refine (TB.out _ HE.out).mono ?_
  rintro e W1 ⟨rfl, hb⟩
  replace H2 := Lib.hid (keep_block H2.out hb)
  replace H3 := Lib.hid (keep_block H3.out hb)
  replace HE := Lib.hid (HE.out.below hb)
  replace HL := Lib.hid (HL.out.trans (hb.mono HL.out.size))
  clear hb
  go_wp2_with fail
  have hok : okB 8 (CmpKs4 w W1 p q) = true := by kernel_rfl
  have hna := noAny_of (ks := (CmpKs4 w W1 p q)) (by kernel_rfl)
  have hla := lasts_of hna
  refine wp_region_facts (row := none) (w := w) 8 (CmpKs4 w W1 p q) [some 13, some 14, some 15, some 16, some 17, some 18, none, none] (by kernel_rfl) (by kernel_rfl) rfl [undef, undef, undef, undef, undef, undef, undef, undef, .pointer (some ⟨w.heap.size, 0, none⟩), .pointer (some ⟨w.heap.size + 1, 0, none⟩)] ?h00 (Fs.start_olds hla rfl (only_of_below HL.out none) ⟨⟨_, rfl, fun _ h => Option.some.inj h, by omega, H2.out⟩, fun _ => ⟨fun _ => far_of (by omega), trivial⟩, ⟨⟨_, rfl, fun _ h => Option.some.inj h, by omega, H3.out⟩, fun _ => trivial, trivial⟩⟩) ?hs ?hd
  case h00 => simp only [putO, layT_some, layT_none, layT_nil, List.setIfInBounds_toArray, List.set_cons_zero, List.set_cons_succ]
  case hs =>
    rintro listed vs Wr hF i hi hun hpre
    obtain ⟨s0, s1, s2, s3, s4, s5, s6, s7, o0, o1, hvs⟩ := exl_of 10 vs (fun l => vs = l) hF.len rfl
    subst hvs
    obtain ⟨_, eG0, hg0, gG0, hO0⟩ : ∃ G, o0 = .pointer (some ⟨G, 0, none⟩) ∧ (∀ k, some (w.heap.size) = some k → G = k) ∧ w.heap.size ≤ G ∧ Wr.heap[G]? = some (.cells (if listed.getD 6 false = true then #[.int .i64 1, .string (numS p), .string (denS p), .string { data := #[] }, .bool false, .int .i64 0, .int .i64 0, .int .i64 0, .slice none 0 0] else #[.int .i64 1, .string (numS p), .string (denS p), .string { data := #[] }, .bool false, .int .i64 0, .int .i64 0, .int .i64 0, .slice none 0 0]) 27 (0, 0)) := hF.get 8 _ rfl (.inl (by decide))
    have hg0 := hg0 _ rfl
    subst hg0
    subst eG0
    obtain ⟨_, eG1, hg1, gG1, hO1⟩ : ∃ G, o1 = .pointer (some ⟨G, 0, none⟩) ∧ (∀ k, some (w.heap.size + 1) = some k → G = k) ∧ w.heap.size ≤ G ∧ Wr.heap[G]? = some (.cells (if listed.getD 7 false = true then #[.int .i64 1, .string (numS q), .string (denS q), .string { data := #[] }, .bool false, .int .i64 0, .int .i64 0, .int .i64 0, .slice none 0 0] else #[.int .i64 1, .string (numS q), .string (denS q), .string { data := #[] }, .bool false, .int .i64 0, .int .i64 0, .int .i64 0, .slice none 0 0]) 27 (0, 0)) := hF.get 9 _ rfl (.inl (by decide))
    have hg1 := hg1 _ rfl
    subst hg1
    subst eG1
    have hge := Nat.zero_le i
    simp only [putO, layT_some, layT_none, layT_nil, List.setIfInBounds_toArray, List.set_cons_zero, List.set_cons_succ]
    rcases Nat.lt_or_ge i 4 with hlt | hgt
    · replace hi := hlt
      clear hlt
      rcases Nat.lt_or_ge i 2 with hlt | hgt
      · replace hi := hlt
        clear hlt
        rcases Nat.lt_or_ge i 1 with hlt | hgt
        · replace hi := hlt
          clear hlt
          have he : i = 0 := Nat.le_antisymm (Nat.le_of_lt_succ hi) hge
          subst he
          rw [if_neg (fun h => bit_off hun (hF.back 6 0 h (by kernel_rfl)))] at hO0
          have hcc := (nine_at (hO0)).1
          have cH20 := hcc.1
          have cH21 := hcc.2.1
          have cH22 := hcc.2.2.1
          have cH23 := hcc.2.2.2.1
          have cH24 := hcc.2.2.2.2.1
          have cH25 := hcc.2.2.2.2.2.1
          have cH26 := hcc.2.2.2.2.2.2.1
          have cH27 := hcc.2.2.2.2.2.2.2.1
          have cH28 := hcc.2.2.2.2.2.2.2.2
          clear hcc
          refine step_of ⟨some 13, _, _, _, _, _⟩ rfl (fun K' hK => ?_)
          go_simp
          refine hK.out _ _ ⟨_, hF.pure hok hla hpre rfl (Below.refl _ _), ?fr⟩
          case fr => simp only [putO, layT_some, layT_none, layT_nil, List.setIfInBounds_toArray, List.set_cons_zero, List.set_cons_succ]
        · replace hge : 1 ≤ i := hgt
          clear hgt
          have he : i = 1 := Nat.le_antisymm (Nat.le_of_lt_succ hi) hge
          subst he
          rw [if_neg (fun h => bit_off hun (hF.back 7 1 h (by kernel_rfl)))] at hO1
          have hcc := (nine_at (hO1)).1
          have cH30 := hcc.1
          have cH31 := hcc.2.1
          have cH32 := hcc.2.2.1
          have cH33 := hcc.2.2.2.1
          have cH34 := hcc.2.2.2.2.1
          have cH35 := hcc.2.2.2.2.2.1
          have cH36 := hcc.2.2.2.2.2.2.1
          have cH37 := hcc.2.2.2.2.2.2.2.1
          have cH38 := hcc.2.2.2.2.2.2.2.2
          clear hcc
          refine step_of ⟨some 14, _, _, _, _, _⟩ rfl (fun K' hK => ?_)
          go_simp
          refine hK.out _ _ ⟨_, hF.pure hok hla hpre rfl (Below.refl _ _), ?fr⟩
          case fr => simp only [putO, layT_some, layT_none, layT_nil, List.setIfInBounds_toArray, List.set_cons_zero, List.set_cons_succ]
      · replace hge : 2 ≤ i := hgt
        clear hgt
        rcases Nat.lt_or_ge i 3 with hlt | hgt
        · replace hi := hlt
          clear hlt
          have he : i = 2 := Nat.le_antisymm (Nat.le_of_lt_succ hi) hge
          subst he
          have p0 := hpre 0 (by kernel_rfl)
          have e0 : s0 = .agg #[.int .i64 1, .string (numS p), .string (denS p), .string { data := #[] }, .bool false, .int .i64 0, .int .i64 0, .int .i64 0, .slice none 0 0] := hF.get 0 _ rfl (.inr p0)
          subst e0
          have p1 := hpre 1 (by kernel_rfl)
          have e1 : s1 = .agg #[.int .i64 1, .string (numS q), .string (denS q), .string { data := #[] }, .bool false, .int .i64 0, .int .i64 0, .int .i64 0, .slice none 0 0] := hF.get 1 _ rfl (.inr p1)
          subst e1
          refine step_of ⟨some 15, _, _, _, _, _⟩ rfl (fun K' hK => ?_)
          go_simp
          go_at_call 36
          (with_reducible refine (T1.out _).mono ?_)
          rintro e Wq ⟨rfl, hq⟩
          refine hK.out _ _ ⟨_, hF.pure hok hla hpre rfl hq, ?fr⟩
          case fr => simp only [putO, layT_some, layT_none, layT_nil, List.setIfInBounds_toArray, List.set_cons_zero, List.set_cons_succ]
        · replace hge : 3 ≤ i := hgt
          clear hgt
          have he : i = 3 := Nat.le_antisymm (Nat.le_of_lt_succ hi) hge
          subst he
          rw [if_neg (fun h => bit_off hun (hF.back 7 3 h (by kernel_rfl)))] at hO1
          have hcc := (nine_at (hO1)).1
          have cH30 := hcc.1
          have cH31 := hcc.2.1
          have cH32 := hcc.2.2.1
          have cH33 := hcc.2.2.2.1
          have cH34 := hcc.2.2.2.2.1
          have cH35 := hcc.2.2.2.2.2.1
          have cH36 := hcc.2.2.2.2.2.2.1
          have cH37 := hcc.2.2.2.2.2.2.2.1
          have cH38 := hcc.2.2.2.2.2.2.2.2
          clear hcc
          refine step_of ⟨some 16, _, _, _, _, _⟩ rfl (fun K' hK => ?_)
          go_simp
          refine hK.out _ _ ⟨_, hF.pure hok hla hpre rfl (Below.refl _ _), ?fr⟩
          case fr => simp only [putO, layT_some, layT_none, layT_nil, List.setIfInBounds_toArray, List.set_cons_zero, List.set_cons_succ]
    · replace hge : 4 ≤ i := hgt
      clear hgt
      rcases Nat.lt_or_ge i 6 with hlt | hgt
      · replace hi := hlt
        clear hlt
        rcases Nat.lt_or_ge i 5 with hlt | hgt
        · replace hi := hlt
          clear hlt
          have he : i = 4 := Nat.le_antisymm (Nat.le_of_lt_succ hi) hge
          subst he
          rw [if_neg (fun h => bit_off hun (hF.back 6 4 h (by kernel_rfl)))] at hO0
          have hcc := (nine_at (hO0)).1
          have cH20 := hcc.1
          have cH21 := hcc.2.1
          have cH22 := hcc.2.2.1
          have cH23 := hcc.2.2.2.1
          have cH24 := hcc.2.2.2.2.1
          have cH25 := hcc.2.2.2.2.2.1
          have cH26 := hcc.2.2.2.2.2.2.1
          have cH27 := hcc.2.2.2.2.2.2.2.1
          have cH28 := hcc.2.2.2.2.2.2.2.2
          clear hcc
          refine step_of ⟨some 17, _, _, _, _, _⟩ rfl (fun K' hK => ?_)
          go_simp
          refine hK.out _ _ ⟨_, hF.pure hok hla hpre rfl (Below.refl _ _), ?fr⟩
          case fr => simp only [putO, layT_some, layT_none, layT_nil, List.setIfInBounds_toArray, List.set_cons_zero, List.set_cons_succ]
        · replace hge : 5 ≤ i := hgt
          clear hgt
          have he : i = 5 := Nat.le_antisymm (Nat.le_of_lt_succ hi) hge
          subst he
          have p3 := hpre 3 (by kernel_rfl)
          have e3 : s3 = .agg #[.int .i64 1, .string (numS q), .string (denS q), .string { data := #[] }, .bool false, .int .i64 0, .int .i64 0, .int .i64 0, .slice none 0 0] := hF.get 3 _ rfl (.inr p3)
          subst e3
          have p4 := hpre 4 (by kernel_rfl)
          have e4 : s4 = .agg #[.int .i64 1, .string (numS p), .string (denS p), .string { data := #[] }, .bool false, .int .i64 0, .int .i64 0, .int .i64 0, .slice none 0 0] := hF.get 4 _ rfl (.inr p4)
          subst e4
          refine step_of ⟨some 18, _, _, _, _, _⟩ rfl (fun K' hK => ?_)
          go_simp
          go_at_call 36
          (with_reducible refine (T2.out _).mono ?_)
          rintro e Wq ⟨rfl, hq⟩
          refine hK.out _ _ ⟨_, hF.pure hok hla hpre rfl hq, ?fr⟩
          case fr => simp only [putO, layT_some, layT_none, layT_nil, List.setIfInBounds_toArray, List.set_cons_zero, List.set_cons_succ]
      · replace hge : 6 ≤ i := hgt
        clear hgt
        rcases Nat.lt_or_ge i 7 with hlt | hgt
        · replace hi := hlt
          clear hlt
          have he : i = 6 := Nat.le_antisymm (Nat.le_of_lt_succ hi) hge
          subst he
          have p2 := hpre 2 (by kernel_rfl)
          have e2 : s2 = .agg #[.int .i64 1, .string (numS p), .string (denS p), .string { data := #[] }, .bool false, .int .i64 0, .int .i64 0, .int .i64 0, .slice none 0 0] := hF.get 2 _ rfl (.inr p2)
          subst e2
          rw [if_neg (bit_off hun)] at hO0
          have HGB := Lib.hid hO0
          obtain ⟨⟨y0, y1, y2, y3, y4, y5, y6, y7, y8⟩, g0, g1, g2, g3, g4, g5, g6, g7, g8⟩ := nine_at HGB.out
          refine step_of ⟨none, _, _, _, _, _⟩ rfl (fun K' hK => ?_)
          go_simp
          refine hK.out _ _ ⟨undef, hF.put hok hna hpre hun rfl undef rfl (.inl (by decide)) rfl (set9_at HGB.out (.int .i64 1) (.string (numS p)) (.string (denS p)) (.string { data := #[] }) (.bool false) (.int .i64 0) (.int .i64 0) (.int .i64 0) (.slice none 0 0)) (fun k hk => set9_other _ _ (.int .i64 1) (.string (numS p)) (.string (denS p)) (.string { data := #[] }) (.bool false) (.int .i64 0) (.int .i64 0) (.int .i64 0) (.slice none 0 0) hk) (put9_below gG0 _ (.int .i64 1) (.string (numS p)) (.string (denS p)) (.string { data := #[] }) (.bool false) (.int .i64 0) (.int .i64 0) (.int .i64 0) (.slice none 0 0)), ?fr⟩
          case fr => simp only [putO, layT_some, layT_none, layT_nil, List.setIfInBounds_toArray, List.set_cons_zero, List.set_cons_succ]
        · replace hge : 7 ≤ i := hgt
          clear hgt
          have he : i = 7 := Nat.le_antisymm (Nat.le_of_lt_succ hi) hge
          subst he
          have p5 := hpre 5 (by kernel_rfl)
          have e5 : s5 = .agg #[.int .i64 1, .string (numS q), .string (denS q), .string { data := #[] }, .bool false, .int .i64 0, .int .i64 0, .int .i64 0, .slice none 0 0] := hF.get 5 _ rfl (.inr p5)
          subst e5
          rw [if_neg (bit_off hun)] at hO1
          have HGB := Lib.hid hO1
          obtain ⟨⟨y0, y1, y2, y3, y4, y5, y6, y7, y8⟩, g0, g1, g2, g3, g4, g5, g6, g7, g8⟩ := nine_at HGB.out
          refine step_of ⟨none, _, _, _, _, _⟩ rfl (fun K' hK => ?_)
          go_simp
          refine hK.out _ _ ⟨undef, hF.put hok hna hpre hun rfl undef rfl (.inl (by decide)) rfl (set9_at HGB.out (.int .i64 1) (.string (numS q)) (.string (denS q)) (.string { data := #[] }) (.bool false) (.int .i64 0) (.int .i64 0) (.int .i64 0) (.slice none 0 0)) (fun k hk => set9_other _ _ (.int .i64 1) (.string (numS q)) (.string (denS q)) (.string { data := #[] }) (.bool false) (.int .i64 0) (.int .i64 0) (.int .i64 0) (.slice none 0 0) hk) (put9_below gG1 _ (.int .i64 1) (.string (numS q)) (.string (denS q)) (.string { data := #[] }) (.bool false) (.int .i64 0) (.int .i64 0) (.int .i64 0) (.slice none 0 0)), ?fr⟩
          case fr => simp only [putO, layT_some, layT_none, layT_nil, List.setIfInBounds_toArray, List.set_cons_zero, List.set_cons_succ]
  case hd =>
    rintro listed vs W2 hF hall
    obtain ⟨s0, s1, s2, s3, s4, s5, s6, s7, o0, o1, hvs⟩ := exl_of 10 vs (fun l => vs = l) hF.len rfl
    subst hvs
    obtain ⟨_, eG0, hg0, gG0, hO0⟩ : ∃ G, o0 = .pointer (some ⟨G, 0, none⟩) ∧ (∀ k, some (w.heap.size) = some k → G = k) ∧ w.heap.size ≤ G ∧ W2.heap[G]? = some (.cells (if listed.getD 6 false = true then #[.int .i64 1, .string (numS p), .string (denS p), .string { data := #[] }, .bool false, .int .i64 0, .int .i64 0, .int .i64 0, .slice none 0 0] else #[.int .i64 1, .string (numS p), .string (denS p), .string { data := #[] }, .bool false, .int .i64 0, .int .i64 0, .int .i64 0, .slice none 0 0]) 27 (0, 0)) := hF.get 8 _ rfl (.inl (by decide))
    have hg0 := hg0 _ rfl
    subst hg0
    subst eG0
    obtain ⟨_, eG1, hg1, gG1, hO1⟩ : ∃ G, o1 = .pointer (some ⟨G, 0, none⟩) ∧ (∀ k, some (w.heap.size + 1) = some k → G = k) ∧ w.heap.size ≤ G ∧ W2.heap[G]? = some (.cells (if listed.getD 7 false = true then #[.int .i64 1, .string (numS q), .string (denS q), .string { data := #[] }, .bool false, .int .i64 0, .int .i64 0, .int .i64 0, .slice none 0 0] else #[.int .i64 1, .string (numS q), .string (denS q), .string { data := #[] }, .bool false, .int .i64 0, .int .i64 0, .int .i64 0, .slice none 0 0]) 27 (0, 0)) := hF.get 9 _ rfl (.inl (by decide))
    have hg1 := hg1 _ rfl
    subst hg1
    subst eG1
    rw [if_pos (hall 6 (by decide))] at hO0
    replace H2 := Lib.hid hO0
    clear hO0
    rw [if_pos (hall 7 (by decide))] at hO1
    replace H3 := Lib.hid hO1
    clear hO1
    have HQ := Lib.hid hF.low
    clear hF hall hok hna hla
    simp only [putO, layT_some, layT_none, layT_nil, List.setIfInBounds_toArray, List.set_cons_zero, List.set_cons_succ]
    obtain ⟨⟨x0, x1, x2, x3, x4, x5, x6, x7, x8⟩, _⟩ := nine_at H2.out
    obtain ⟨⟨y0, y1, y2, y3, y4, y5, y6, y7, y8⟩, _⟩ := nine_at H3.out
    go_wp2_with fail
    refine (TC.out _).mono ?_
    rintro e W3 ⟨rfl, hb⟩
    have HL3 := Lib.hid ((below_none HQ.out).trans (hb.mono HQ.out.size))
    clear hb
    go_wp2
    go_ret2
    exact ⟨rfl, HL3.out⟩
end Go.Proofs.YtcgglmoeneiokaaGreatDoor.Num

/- the law's math at ABS, INT, ROUND, ROUNDUP, ROUNDDOWN, TRUNC, CEILING, FLOOR. Conditions: nothing is too long; the tables lie as they are laid. -/
namespace Go.Proofs.YtcgglmoeneiokaaGreatDoor.Num
open Go.RowKit Go.Lib

set_option linter.unusedSimpArgs false in
set_option linter.unusedVariables false in
set_option maxHeartbeats 4000000 in
set_option maxRecDepth 100000 in
theorem fn_ceiling (q y : Rat) (b g C : Nat) (W : World) (hq0 : fits q = true) (hq1 : fits y = true) (hy0 : 0 < y) (h1 : fits ((-q) / y) = true) (h2 : fits ((((-q) / y).floor : Int) : Rat) = true) (h3 : fits (y * ((((-q) / y).floor : Int) : Rat)) = true) (ha : ArgsAt W b (some ⟨g, 0, none⟩) 2 C 0) (hne : g ≠ b) (hc0 : NumCells W g (0 + 0 * 9) q) (hc1 : NumCells W g (0 + 1 * 9) y) (hE : Env W) (hP : Past b) :
    Calls Tryz.prog 80 #[.pointer (some ⟨b, 0, none⟩)] W fun e w' => e = .returned (fracV (-(y * ((((-q) / y).floor : Int) : Rat)))) ∧ W.grownBy w' (some b) := by
  have T1 := Lib.hid (fun W' ga gc0 gc1 ge => fn_limu q y b g C W' hq0 hq1 hy0 h1 h2 h3 ga hne gc0 gc1 ge hP)
  obtain ⟨rr, hrr⟩ : ∃ z, -(y * ((((-q) / y).floor : Int) : Rat)) = z := ⟨_, rfl⟩
  rw [hrr] at T1 ⊢
  rw [fracV_is rr] at T1 ⊢
  have HP := Lib.hid hP
  have HE0 := Lib.hid hE
  have NG := Lib.hid hne
  have HBW := Lib.hid (heap_lt ha)
  have hb : Below W.heap.size W (W.alloc (.cells #[.string { data := #[] }, .string { data := #[] }] 24)) := (Below.refl _ _).alloc (Nat.le_refl _) _
  have HA := Lib.hid (show ArgsAt (W.alloc (.cells #[.string { data := #[] }, .string { data := #[] }] 24)) b (some ⟨g, 0, none⟩) 2 C 0 from keep_block ha hb)
  have HC0 := Lib.hid (NumCells.below hc0 hb)
  have HC1 := Lib.hid (NumCells.below hc1 hb)
  have HE := Lib.hid (hE.below hb)
  have HG := Lib.hid (kept_below (b := b) hb)
  have H2 := Lib.hid (heap_alloc_new W (.cells #[.string { data := #[] }, .string { data := #[] }] 24))
  have NE2 := Lib.hid (show W.heap.size ≠ b from Nat.ne_of_gt HBW.out)
  clear hb
  clear ha hE hP hne hc0 hc1 hrr hq0 hq1 hy0 h1 h2 h3
  go_enter Tryz.func80, Tryz.ntmps80
  go_wp2_with fail
  refine (T1.out _ HA.out HC0.out HC1.out HE.out).mono ?_
  rintro e W1 ⟨rfl, hg⟩
  clear HA
  replace H2 := Lib.hid (kept_block H2.out hg NE2.out)
  replace HC0 := Lib.hid (HC0.out.kept hg NG.out)
  replace HC1 := Lib.hid (HC1.out.kept hg NG.out)
  replace HE := Lib.hid (HE.out.kept hg HP.out)
  replace HG := Lib.hid (kept_trans HG.out hg)
  clear hg
  obtain ⟨⟨x2_0, x2_1⟩, x2_f0, x2_f1⟩ := two_at H2.out
  have hF := set2_at H2.out (.string (numS rr)) (.string (denS rr))
  obtain ⟨⟨e0, e1⟩, _⟩ := two_at hF
  have HG2 := Lib.hid (kept2 HG.out (Nat.le_refl _) (.string (numS rr)) (.string (denS rr)))
  clear hF
  go_wp2
  refine bodyPost_ret (v := .agg #[.string (numS rr), .string (denS rr)]) (by simp [results, Tryz.results80, go_sem, e0, e1]) rfl ⟨rfl, HG2.out⟩

set_option linter.unusedSimpArgs false in
set_option linter.unusedVariables false in
set_option maxHeartbeats 4000000 in
set_option maxRecDepth 100000 in
theorem fn_floor (q y : Rat) (b g C : Nat) (W : World) (hq0 : fits q = true) (hq1 : fits y = true) (hy0 : 0 < y) (h1 : fits (q / y) = true) (h2 : fits (((q / y).floor : Int) : Rat) = true) (h3 : fits (y * (((q / y).floor : Int) : Rat)) = true) (ha : ArgsAt W b (some ⟨g, 0, none⟩) 2 C 0) (hne : g ≠ b) (hc0 : NumCells W g (0 + 0 * 9) q) (hc1 : NumCells W g (0 + 1 * 9) y) (hE : Env W) (hP : Past b) :
    Calls Tryz.prog 82 #[.pointer (some ⟨b, 0, none⟩)] W fun e w' => e = .returned (fracV (y * (((q / y).floor : Int) : Rat))) ∧ W.grownBy w' (some b) := by
  have T1 := Lib.hid (fun W' ga gc0 gc1 ge => fn_limd q y b g C W' hq0 hq1 hy0 h1 h2 h3 ga hne gc0 gc1 ge hP)
  obtain ⟨rr, hrr⟩ : ∃ z, y * (((q / y).floor : Int) : Rat) = z := ⟨_, rfl⟩
  rw [hrr] at T1 ⊢
  rw [fracV_is rr] at T1 ⊢
  have HP := Lib.hid hP
  have HE0 := Lib.hid hE
  have NG := Lib.hid hne
  have HBW := Lib.hid (heap_lt ha)
  have hb : Below W.heap.size W (W.alloc (.cells #[.string { data := #[] }, .string { data := #[] }] 24)) := (Below.refl _ _).alloc (Nat.le_refl _) _
  have HA := Lib.hid (show ArgsAt (W.alloc (.cells #[.string { data := #[] }, .string { data := #[] }] 24)) b (some ⟨g, 0, none⟩) 2 C 0 from keep_block ha hb)
  have HC0 := Lib.hid (NumCells.below hc0 hb)
  have HC1 := Lib.hid (NumCells.below hc1 hb)
  have HE := Lib.hid (hE.below hb)
  have HG := Lib.hid (kept_below (b := b) hb)
  have H2 := Lib.hid (heap_alloc_new W (.cells #[.string { data := #[] }, .string { data := #[] }] 24))
  have NE2 := Lib.hid (show W.heap.size ≠ b from Nat.ne_of_gt HBW.out)
  clear hb
  clear ha hE hP hne hc0 hc1 hrr hq0 hq1 hy0 h1 h2 h3
  go_enter Tryz.func82, Tryz.ntmps82
  go_wp2_with fail
  refine (T1.out _ HA.out HC0.out HC1.out HE.out).mono ?_
  rintro e W1 ⟨rfl, hg⟩
  clear HA
  replace H2 := Lib.hid (kept_block H2.out hg NE2.out)
  replace HC0 := Lib.hid (HC0.out.kept hg NG.out)
  replace HC1 := Lib.hid (HC1.out.kept hg NG.out)
  replace HE := Lib.hid (HE.out.kept hg HP.out)
  replace HG := Lib.hid (kept_trans HG.out hg)
  clear hg
  obtain ⟨⟨x2_0, x2_1⟩, x2_f0, x2_f1⟩ := two_at H2.out
  have hF := set2_at H2.out (.string (numS rr)) (.string (denS rr))
  obtain ⟨⟨e0, e1⟩, _⟩ := two_at hF
  have HG2 := Lib.hid (kept2 HG.out (Nat.le_refl _) (.string (numS rr)) (.string (denS rr)))
  clear hF
  go_wp2
  refine bodyPost_ret (v := .agg #[.string (numS rr), .string (denS rr)]) (by simp [results, Tryz.results82, go_sem, e0, e1]) rfl ⟨rfl, HG2.out⟩


theorem m_ABS (q : Rat) (ab ao C : Nat) (w : World) (hq0 : fits q = true) (hv : ValsAt w ab ao (numVals [q])) (hE : Env w) :
    Calls Tryz.prog 10 #[.string { data := #[65, 66, 83] }, .slice (some ⟨ab, ao, none⟩) 1 C] w fun e w' => e = .returned (numVal (absR q)) ∧ Below w.heap.size w w' :=
  math_s_val 0 ⟨{ data := #[65, 66, 83] }, 1, 1, { data := #[115] }, true, 65⟩ (by decide) rfl rfl (fr_of 0 (by decide) (by kernel_rfl)) rfl (enters_of Tryz.func65 (by kernel_rfl) rfl) [q] ab ao C (absR q) w (show 0 < 1 from by decide) (show 1 ≤ 300 from by decide) (show (1 : Int) ≤ 1 from by decide) (show (1 : Int) ≤ 1 from by decide) hv hE (by intro x hx; simp only [List.mem_cons, List.not_mem_nil, or_false] at hx; subst hx; exact hq0) (by rw [fits_absR]; exact hq0)
    (fun W b g cap hE' hP hlt hgl ha hn hne => fn_abs q b g cap W hq0 ha hne (hn 0 (show 0 < 1 from by decide)) hE' hP)

theorem m_INT (q : Rat) (ab ao C : Nat) (w : World) (hq0 : fits q = true) (h1 : fits ((q.floor : Int) : Rat) = true) (hv : ValsAt w ab ao (numVals [q])) (hE : Env w) :
    Calls Tryz.prog 10 #[.string { data := #[73, 78, 84] }, .slice (some ⟨ab, ao, none⟩) 1 C] w fun e w' => e = .returned (numVal (((q.floor : Int) : Rat))) ∧ Below w.heap.size w w' :=
  math_s_val 2 ⟨{ data := #[73, 78, 84] }, 1, 1, { data := #[115] }, true, 70⟩ (by decide) rfl rfl (fr_of 2 (by decide) (by kernel_rfl)) rfl (enters_of Tryz.func70 (by kernel_rfl) rfl) [q] ab ao C (((q.floor : Int) : Rat)) w (show 0 < 1 from by decide) (show 1 ≤ 300 from by decide) (show (1 : Int) ≤ 1 from by decide) (show (1 : Int) ≤ 1 from by decide) hv hE (by intro x hx; simp only [List.mem_cons, List.not_mem_nil, or_false] at hx; subst hx; exact hq0) h1
    (fun W b g cap hE' hP hlt hgl ha hn hne => fn_int q b g cap W hq0 h1 ha hne (hn 0 (show 0 < 1 from by decide)) hE' hP)

theorem m_TRUNC (q : Rat) (ab ao C : Nat) (w : World) (hq0 : fits q = true) (hT : fits (tenR 0) = true) (hy : fits (absR q * tenR 0) = true) (hz : fits (((absR q * tenR 0).floor : Int) : Rat) = true) (hd : fits ((((absR q * tenR 0).floor : Int) : Rat) / tenR 0) = true) (hr : fits (cutR false q 0) = true) (hv : ValsAt w ab ao (numVals [q])) (hE : Env w) :
    Calls Tryz.prog 10 #[.string { data := #[84, 82, 85, 78, 67] }, .slice (some ⟨ab, ao, none⟩) 1 C] w fun e w' => e = .returned (numVal (cutR false q 0)) ∧ Below w.heap.size w w' :=
  math_s_val 6 ⟨{ data := #[84, 82, 85, 78, 67] }, 1, 2, { data := #[115] }, true, 76⟩ (by decide) rfl rfl (fr_of 6 (by decide) (by kernel_rfl)) rfl (enters_of Tryz.func76 (by kernel_rfl) rfl) [q] ab ao C (cutR false q 0) w (show 0 < 1 from by decide) (show 1 ≤ 300 from by decide) (show (1 : Int) ≤ 1 from by decide) (show (1 : Int) ≤ 2 from by decide) hv hE (by intro x hx; simp only [List.mem_cons, List.not_mem_nil, or_false] at hx; subst hx; exact hq0) hr
    (fun W b g cap hE' hP hlt hgl ha hn hne => fn_trunc q b g cap W hq0 hT hy hz hd ha hne (hn 0 (show 0 < 1 from by decide)) hE' hP)

theorem m_ROUND (q k : Rat) (ab ao C : Nat) (w : World) (hq0 : fits q = true) (hq1 : fits k = true) (hk0 : -100 ≤ k.floor) (hk1 : k.floor ≤ 100) (hr : fits (roundR q k.floor) = true) (hv : ValsAt w ab ao (numVals [q, k])) (hE : Env w) :
    Calls Tryz.prog 10 #[.string { data := #[82, 79, 85, 78, 68] }, .slice (some ⟨ab, ao, none⟩) 2 C] w fun e w' => e = .returned (numVal (roundR q k.floor)) ∧ Below w.heap.size w w' :=
  math_s_val 3 ⟨{ data := #[82, 79, 85, 78, 68] }, 2, 2, { data := #[115] }, true, 72⟩ (by decide) rfl rfl (fr_of 3 (by decide) (by kernel_rfl)) rfl (enters_of Tryz.func72 (by kernel_rfl) rfl) [q, k] ab ao C (roundR q k.floor) w (show 0 < 2 from by decide) (show 2 ≤ 300 from by decide) (show (2 : Int) ≤ 2 from by decide) (show (2 : Int) ≤ 2 from by decide) hv hE (by intro x hx; simp only [List.mem_cons, List.not_mem_nil, or_false] at hx; rcases hx with rfl | rfl; exact hq0; exact hq1) hr
    (fun W b g cap hE' hP hlt hgl ha hn hne => fn_round q k b g cap W hq0 hq1 hk0 hk1 hr ha hne (hn 0 (show 0 < 2 from by decide)) (hn 1 (show 1 < 2 from by decide)) hE' hP)

theorem m_ROUNDUP (q k : Rat) (ab ao C : Nat) (w : World) (hq0 : fits q = true) (hq1 : fits k = true) (hk0 : -100 ≤ k.floor) (hk1 : k.floor ≤ 100) (hT : fits (tenR k.floor) = true) (hy : fits (absR q * tenR k.floor) = true) (hz : fits (((absR q * tenR k.floor).floor : Int) : Rat) = true) (hz1 : fits ((((absR q * tenR k.floor).floor : Int) : Rat) + 1) = true) (hd : fits ((((absR q * tenR k.floor).floor : Int) : Rat) / tenR k.floor) = true) (hd1 : fits (((((absR q * tenR k.floor).floor : Int) : Rat) + 1) / tenR k.floor) = true) (hr : fits (cutR true q k.floor) = true) (hv : ValsAt w ab ao (numVals [q, k])) (hE : Env w) :
    Calls Tryz.prog 10 #[.string { data := #[82, 79, 85, 78, 68, 85, 80] }, .slice (some ⟨ab, ao, none⟩) 2 C] w fun e w' => e = .returned (numVal (cutR true q k.floor)) ∧ Below w.heap.size w w' :=
  math_s_val 4 ⟨{ data := #[82, 79, 85, 78, 68, 85, 80] }, 2, 2, { data := #[115] }, true, 73⟩ (by decide) rfl rfl (fr_of 4 (by decide) (by kernel_rfl)) rfl (enters_of Tryz.func73 (by kernel_rfl) rfl) [q, k] ab ao C (cutR true q k.floor) w (show 0 < 2 from by decide) (show 2 ≤ 300 from by decide) (show (2 : Int) ≤ 2 from by decide) (show (2 : Int) ≤ 2 from by decide) hv hE (by intro x hx; simp only [List.mem_cons, List.not_mem_nil, or_false] at hx; rcases hx with rfl | rfl; exact hq0; exact hq1) hr
    (fun W b g cap hE' hP hlt hgl ha hn hne => fn_roundup q k b g cap W hq0 hq1 hk0 hk1 hT hy hz hz1 hd hd1 ha hne (hn 0 (show 0 < 2 from by decide)) (hn 1 (show 1 < 2 from by decide)) hE' hP)

theorem m_ROUNDDOWN (q k : Rat) (ab ao C : Nat) (w : World) (hq0 : fits q = true) (hq1 : fits k = true) (hk0 : -100 ≤ k.floor) (hk1 : k.floor ≤ 100) (hT : fits (tenR k.floor) = true) (hy : fits (absR q * tenR k.floor) = true) (hz : fits (((absR q * tenR k.floor).floor : Int) : Rat) = true) (hd : fits ((((absR q * tenR k.floor).floor : Int) : Rat) / tenR k.floor) = true) (hr : fits (cutR false q k.floor) = true) (hv : ValsAt w ab ao (numVals [q, k])) (hE : Env w) :
    Calls Tryz.prog 10 #[.string { data := #[82, 79, 85, 78, 68, 68, 79, 87, 78] }, .slice (some ⟨ab, ao, none⟩) 2 C] w fun e w' => e = .returned (numVal (cutR false q k.floor)) ∧ Below w.heap.size w w' :=
  math_s_val 5 ⟨{ data := #[82, 79, 85, 78, 68, 68, 79, 87, 78] }, 2, 2, { data := #[115] }, true, 75⟩ (by decide) rfl rfl (fr_of 5 (by decide) (by kernel_rfl)) rfl (enters_of Tryz.func75 (by kernel_rfl) rfl) [q, k] ab ao C (cutR false q k.floor) w (show 0 < 2 from by decide) (show 2 ≤ 300 from by decide) (show (2 : Int) ≤ 2 from by decide) (show (2 : Int) ≤ 2 from by decide) hv hE (by intro x hx; simp only [List.mem_cons, List.not_mem_nil, or_false] at hx; rcases hx with rfl | rfl; exact hq0; exact hq1) hr
    (fun W b g cap hE' hP hlt hgl ha hn hne => fn_rounddown q k b g cap W hq0 hq1 hk0 hk1 hT hy hz hd ha hne (hn 0 (show 0 < 2 from by decide)) (hn 1 (show 1 < 2 from by decide)) hE' hP)

theorem m_CEILING (q y : Rat) (ab ao C : Nat) (w : World) (hq0 : fits q = true) (hq1 : fits y = true) (hy0 : 0 < y) (h1 : fits ((-q) / y) = true) (h2 : fits ((((-q) / y).floor : Int) : Rat) = true) (h3 : fits (y * ((((-q) / y).floor : Int) : Rat)) = true) (hv : ValsAt w ab ao (numVals [q, y])) (hE : Env w) :
    Calls Tryz.prog 10 #[.string { data := #[67, 69, 73, 76, 73, 78, 71] }, .slice (some ⟨ab, ao, none⟩) 2 C] w fun e w' => e = .returned (numVal (-(y * ((((-q) / y).floor : Int) : Rat)))) ∧ Below w.heap.size w w' :=
  math_s_val 8 ⟨{ data := #[67, 69, 73, 76, 73, 78, 71] }, 2, 2, { data := #[115] }, true, 80⟩ (by decide) rfl rfl (fr_of 8 (by decide) (by kernel_rfl)) rfl (enters_of Tryz.func80 (by kernel_rfl) rfl) [q, y] ab ao C (-(y * ((((-q) / y).floor : Int) : Rat))) w (show 0 < 2 from by decide) (show 2 ≤ 300 from by decide) (show (2 : Int) ≤ 2 from by decide) (show (2 : Int) ≤ 2 from by decide) hv hE (by intro x hx; simp only [List.mem_cons, List.not_mem_nil, or_false] at hx; rcases hx with rfl | rfl; exact hq0; exact hq1) (by rw [fits_neg]; exact h3)
    (fun W b g cap hE' hP hlt hgl ha hn hne => fn_ceiling q y b g cap W hq0 hq1 hy0 h1 h2 h3 ha hne (hn 0 (show 0 < 2 from by decide)) (hn 1 (show 1 < 2 from by decide)) hE' hP)

theorem m_FLOOR (q y : Rat) (ab ao C : Nat) (w : World) (hq0 : fits q = true) (hq1 : fits y = true) (hy0 : 0 < y) (h1 : fits (q / y) = true) (h2 : fits (((q / y).floor : Int) : Rat) = true) (h3 : fits (y * (((q / y).floor : Int) : Rat)) = true) (hv : ValsAt w ab ao (numVals [q, y])) (hE : Env w) :
    Calls Tryz.prog 10 #[.string { data := #[70, 76, 79, 79, 82] }, .slice (some ⟨ab, ao, none⟩) 2 C] w fun e w' => e = .returned (numVal (y * (((q / y).floor : Int) : Rat))) ∧ Below w.heap.size w w' :=
  math_s_val 9 ⟨{ data := #[70, 76, 79, 79, 82] }, 2, 2, { data := #[115] }, true, 82⟩ (by decide) rfl rfl (fr_of 9 (by decide) (by kernel_rfl)) rfl (enters_of Tryz.func82 (by kernel_rfl) rfl) [q, y] ab ao C (y * (((q / y).floor : Int) : Rat)) w (show 0 < 2 from by decide) (show 2 ≤ 300 from by decide) (show (2 : Int) ≤ 2 from by decide) (show (2 : Int) ≤ 2 from by decide) hv hE (by intro x hx; simp only [List.mem_cons, List.not_mem_nil, or_false] at hx; rcases hx with rfl | rfl; exact hq0; exact hq1) h3
    (fun W b g cap hE' hP hlt hgl ha hn hne => fn_floor q y b g cap W hq0 hq1 hy0 h1 h2 h3 ha hne (hn 0 (show 0 < 2 from by decide)) (hn 1 (show 1 < 2 from by decide)) hE' hP)
end Go.Proofs.YtcgglmoeneiokaaGreatDoor.Num
