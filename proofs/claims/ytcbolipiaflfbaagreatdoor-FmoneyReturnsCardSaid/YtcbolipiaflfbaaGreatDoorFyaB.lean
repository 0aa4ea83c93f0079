/- Numbers as texts of digits, fractions, values and the functions of fmath: contracts of the program's functions, joined from smaller texts. Conditions stand at each theorem. -/
import Derived.Test.YtcbolipiaflfbaaGreatDoorNumG
import Derived.Test.YtcbolipiaflfbaaGreatDoorFyaA
import Derived.Test.YtcbolipiaflfbaaGreatDoorNumH

/- package fmoney: its small functions over fractions. Conditions: nothing is too long. -/
namespace Go.Proofs.YtcbolipiaflfbaaGreatDoor.Num.Fy
open Go.RowKit Go.Lib Num

set_option maxHeartbeats 4000000 in
set_option maxRecDepth 100000 in
theorem y_add (p q : Rat) (w : World) (hp : fits p = true) (hq : fits q = true) (hr : fits (p + q) = true) (hE : Env w) : Calls Tryz.prog 116 #[fracV p, fracV q] w fun e w' => e = .returned (fracV (p + q)) ∧ Below w.heap.size w w' := by
  have T1 := Lib.hid (fun W g => add_any p q W hp hq g)
  have T2 := Lib.hid (fun W => must_ok (p + q) W)
  rw [wroteV_ok hr] at T1
  rw [fracV_is (p + q)] at T1 T2 ⊢
  rw [fracV_is p, fracV_is q] at T1 ⊢
  obtain ⟨_, _, hr', hb⟩ := three_new w (.cells #[.string (numS p), .string (denS p)] 24) (.cells #[.string (numS q), .string (denS q)] 24) (.cells #[.string { data := #[] }, .string { data := #[] }] 24)
  have HR := Lib.hid hr'
  have HL := Lib.hid hb
  have HE := Lib.hid (hE.below hb)
  clear hr' hb hE hp hq hr
  go_enter Tryz.func116, Tryz.ntmps116
  go_wp2_with fail
  refine (T1.out _ HE.out.tab).mono ?_
  rintro e W1 ⟨rfl, hb⟩
  replace HR := Lib.hid (keep_block HR.out hb)
  replace HL := Lib.hid (HL.out.trans (hb.mono HL.out.size))
  clear hb
  go_wp2_with fail
  refine (T2.out _).mono ?_
  rintro e W2 ⟨rfl, hb⟩
  replace HR := Lib.hid (keep_block HR.out hb)
  replace HL := Lib.hid (HL.out.trans (hb.mono HL.out.size))
  clear hb
  obtain ⟨⟨r0, r1⟩, rf0, rf1⟩ := two_at HR.out
  obtain ⟨nb, e0, e1⟩ := frac_end (x := .string (numS (p + q))) (y := .string (denS (p + q))) HR.out HL.out (by omega)
  go_wp2
  refine bodyPost_ret (v := .agg #[.string (numS (p + q)), .string (denS (p + q))]) (by simp [results, Tryz.results116, go_sem, e0, e1]) rfl ⟨rfl, nb⟩

set_option maxHeartbeats 4000000 in
set_option maxRecDepth 100000 in
theorem y_sub (p q : Rat) (w : World) (hp : fits p = true) (hq : fits q = true) (hr : fits (p - q) = true) (hE : Env w) : Calls Tryz.prog 131 #[fracV p, fracV q] w fun e w' => e = .returned (fracV (p - q)) ∧ Below w.heap.size w w' := by
  have T1 := Lib.hid (fun W g => sub_any p q W hp hq g)
  have T2 := Lib.hid (fun W => must_ok (p - q) W)
  rw [wroteV_ok hr] at T1
  rw [fracV_is (p - q)] at T1 T2 ⊢
  rw [fracV_is p, fracV_is q] at T1 ⊢
  obtain ⟨_, _, hr', hb⟩ := three_new w (.cells #[.string (numS p), .string (denS p)] 24) (.cells #[.string (numS q), .string (denS q)] 24) (.cells #[.string { data := #[] }, .string { data := #[] }] 24)
  have HR := Lib.hid hr'
  have HL := Lib.hid hb
  have HE := Lib.hid (hE.below hb)
  clear hr' hb hE hp hq hr
  go_enter Tryz.func131, Tryz.ntmps131
  go_wp2_with fail
  refine (T1.out _ HE.out.tab).mono ?_
  rintro e W1 ⟨rfl, hb⟩
  replace HR := Lib.hid (keep_block HR.out hb)
  replace HL := Lib.hid (HL.out.trans (hb.mono HL.out.size))
  clear hb
  go_wp2_with fail
  refine (T2.out _).mono ?_
  rintro e W2 ⟨rfl, hb⟩
  replace HR := Lib.hid (keep_block HR.out hb)
  replace HL := Lib.hid (HL.out.trans (hb.mono HL.out.size))
  clear hb
  obtain ⟨⟨r0, r1⟩, rf0, rf1⟩ := two_at HR.out
  obtain ⟨nb, e0, e1⟩ := frac_end (x := .string (numS (p - q))) (y := .string (denS (p - q))) HR.out HL.out (by omega)
  go_wp2
  refine bodyPost_ret (v := .agg #[.string (numS (p - q)), .string (denS (p - q))]) (by simp [results, Tryz.results131, go_sem, e0, e1]) rfl ⟨rfl, nb⟩

set_option maxHeartbeats 4000000 in
set_option maxRecDepth 100000 in
theorem y_mul (p q : Rat) (w : World) (hp : fits p = true) (hq : fits q = true) (hr : fits (p * q) = true) (hE : Env w) : Calls Tryz.prog 117 #[fracV p, fracV q] w fun e w' => e = .returned (fracV (p * q)) ∧ Below w.heap.size w w' := by
  have T1 := Lib.hid (fun W g => mul_any p q W hp hq g)
  have T2 := Lib.hid (fun W => must_ok (p * q) W)
  rw [wroteV_ok hr] at T1
  rw [fracV_is (p * q)] at T1 T2 ⊢
  rw [fracV_is p, fracV_is q] at T1 ⊢
  obtain ⟨_, _, hr', hb⟩ := three_new w (.cells #[.string (numS p), .string (denS p)] 24) (.cells #[.string (numS q), .string (denS q)] 24) (.cells #[.string { data := #[] }, .string { data := #[] }] 24)
  have HR := Lib.hid hr'
  have HL := Lib.hid hb
  have HE := Lib.hid (hE.below hb)
  clear hr' hb hE hp hq hr
  go_enter Tryz.func117, Tryz.ntmps117
  go_wp2_with fail
  refine (T1.out _ HE.out.tab).mono ?_
  rintro e W1 ⟨rfl, hb⟩
  replace HR := Lib.hid (keep_block HR.out hb)
  replace HL := Lib.hid (HL.out.trans (hb.mono HL.out.size))
  clear hb
  go_wp2_with fail
  refine (T2.out _).mono ?_
  rintro e W2 ⟨rfl, hb⟩
  replace HR := Lib.hid (keep_block HR.out hb)
  replace HL := Lib.hid (HL.out.trans (hb.mono HL.out.size))
  clear hb
  obtain ⟨⟨r0, r1⟩, rf0, rf1⟩ := two_at HR.out
  obtain ⟨nb, e0, e1⟩ := frac_end (x := .string (numS (p * q))) (y := .string (denS (p * q))) HR.out HL.out (by omega)
  go_wp2
  refine bodyPost_ret (v := .agg #[.string (numS (p * q)), .string (denS (p * q))]) (by simp [results, Tryz.results117, go_sem, e0, e1]) rfl ⟨rfl, nb⟩

set_option maxHeartbeats 4000000 in
set_option maxRecDepth 100000 in
theorem y_div (p q : Rat) (w : World) (hp : fits p = true) (hq : fits q = true) (h0 : q ≠ 0) (hr : fits (p / q) = true) (hE : Env w) : Calls Tryz.prog 115 #[fracV p, fracV q] w fun e w' => e = .returned (fracV (p / q)) ∧ Below w.heap.size w w' := by
  have T1 := Lib.hid (fun W g => div_any p q W hp hq h0 g)
  have T2 := Lib.hid (fun W => must_ok (p / q) W)
  rw [wroteV_ok hr] at T1
  rw [fracV_is (p / q)] at T1 T2 ⊢
  rw [fracV_is p, fracV_is q] at T1 ⊢
  obtain ⟨_, _, hr', hb⟩ := three_new w (.cells #[.string (numS p), .string (denS p)] 24) (.cells #[.string (numS q), .string (denS q)] 24) (.cells #[.string { data := #[] }, .string { data := #[] }] 24)
  have HR := Lib.hid hr'
  have HL := Lib.hid hb
  have HE := Lib.hid (hE.below hb)
  clear hr' hb hE hp hq hr
  go_enter Tryz.func115, Tryz.ntmps115
  go_wp2_with fail
  refine (T1.out _ HE.out.tab).mono ?_
  rintro e W1 ⟨rfl, hb⟩
  replace HR := Lib.hid (keep_block HR.out hb)
  replace HL := Lib.hid (HL.out.trans (hb.mono HL.out.size))
  clear hb
  go_wp2_with fail
  refine (T2.out _).mono ?_
  rintro e W2 ⟨rfl, hb⟩
  replace HR := Lib.hid (keep_block HR.out hb)
  replace HL := Lib.hid (HL.out.trans (hb.mono HL.out.size))
  clear hb
  obtain ⟨⟨r0, r1⟩, rf0, rf1⟩ := two_at HR.out
  obtain ⟨nb, e0, e1⟩ := frac_end (x := .string (numS (p / q))) (y := .string (denS (p / q))) HR.out HL.out (by omega)
  go_wp2
  refine bodyPost_ret (v := .agg #[.string (numS (p / q)), .string (denS (p / q))]) (by simp [results, Tryz.results115, go_sem, e0, e1]) rfl ⟨rfl, nb⟩

set_option maxHeartbeats 4000000 in
set_option maxRecDepth 100000 in
theorem y_neg (q : Rat) (w : World) (hq : fits q = true) (hE : Env w) : Calls Tryz.prog 114 #[fracV q] w fun e w' => e = .returned (fracV (-q)) ∧ Below w.heap.size w w' := by
  have T1 := Lib.hid (fun W g => neg_any q W hq g)
  have T2 := Lib.hid (fun W => must_ok (-q) W)
  rw [fracV_is (-q)] at T1 T2 ⊢
  rw [fracV_is q] at T1 ⊢
  obtain ⟨_, hr', hb⟩ := two_new w (.cells #[.string (numS q), .string (denS q)] 24) (.cells #[.string { data := #[] }, .string { data := #[] }] 24)
  have HR := Lib.hid hr'
  have HL := Lib.hid hb
  have HE := Lib.hid (hE.below hb)
  clear hr' hb hE
  go_enter Tryz.func114, Tryz.ntmps114
  go_wp2_with fail
  refine (T1.out _ HE.out.tab).mono ?_
  rintro e W1 ⟨rfl, hb⟩
  replace HR := Lib.hid (keep_block HR.out hb)
  replace HL := Lib.hid (HL.out.trans (hb.mono HL.out.size))
  clear hb
  go_wp2_with fail
  refine (T2.out _).mono ?_
  rintro e W2 ⟨rfl, hb⟩
  replace HR := Lib.hid (keep_block HR.out hb)
  replace HL := Lib.hid (HL.out.trans (hb.mono HL.out.size))
  clear hb
  obtain ⟨⟨r0, r1⟩, rf0, rf1⟩ := two_at HR.out
  obtain ⟨nb, e0, e1⟩ := frac_end (x := .string (numS (-q))) (y := .string (denS (-q))) HR.out HL.out (by omega)
  go_wp2
  refine bodyPost_ret (v := .agg #[.string (numS (-q)), .string (denS (-q))]) (by simp [results, Tryz.results114, go_sem, e0, e1]) rfl ⟨rfl, nb⟩

set_option maxHeartbeats 4000000 in
set_option maxRecDepth 100000 in
theorem y_sign (q : Rat) (w : World) (hq : fits q = true) (hE : Env w) : Calls Tryz.prog 256 #[fracV q] w fun e w' => e = .returned (.int .i64 (cmpR q 0)) ∧ Below w.heap.size w w' := by
  have T1 := Lib.hid (fun W g => of_any 0 W (by decide) (by decide) g)
  have T2 := Lib.hid (fun W => compare_q q 0 W hq fits_zero)
  rw [show ((0 : Int) : Rat) = 0 from rfl, fracV_is 0] at T1
  rw [fracV_is q, fracV_is 0] at T2
  rw [fracV_is q]
  obtain ⟨cc, hcc⟩ : ∃ c, cmpR q 0 = c := ⟨_, rfl⟩
  rw [hcc] at T2 ⊢
  have hb : Below w.heap.size w (w.alloc (.cells #[.string (numS q), .string (denS q)] 24)) := (Below.refl _ _).alloc (Nat.le_refl _) _
  have HX := Lib.hid (drew_block (heap_alloc_new w (.cells #[.string (numS q), .string (denS q)] 24)))
  have HL := Lib.hid hb.drew
  have HE := Lib.hid (hE.below hb.drew)
  obtain ⟨W0, hW0⟩ : ∃ W0, w.alloc (.cells #[.string (numS q), .string (denS q)] 24) = W0 := ⟨_, rfl⟩
  rw [hW0] at HX HL HE
  have HW := Lib.hid hW0
  clear hb hE hq hcc hW0
  go_enter Tryz.func256, Tryz.ntmps256
  go_wp2_with fail
  rw [HW.out]
  go_region_held3 (fun W => W.cell? ⟨w.heap.size, 0, none⟩ = some (.string (numS q)) ∧ W.cell? ⟨w.heap.size, 1, none⟩ = some (.string (denS q)))
    (first | (with_reducible exact cells2 HX.out) | fail)
    ((first | (go_at_call 25; (with_reducible refine (T1.out _ HE.out.tab).mono ?_); rintro e W1 ⟨rfl, hb⟩; replace HX := Lib.hid (keep_block HX.out hb); replace HL := Lib.hid (HL.out.trans (hb.mono HL.out.size)); clear hb) | (go_at_call 49; (with_reducible refine (T2.out _).mono ?_); rintro e W2 ⟨rfl, hb⟩; replace HX := Lib.hid (keep_block HX.out hb); replace HL := Lib.hid (HL.out.trans (hb.mono HL.out.size)); clear hb)))
  all_goals
    go_wp2
    go_ret
    exact ⟨rfl, HL.out⟩

set_option maxHeartbeats 2000000 in
set_option maxRecDepth 100000 in
theorem y_within (n lo hi : Int) (w : World) (h1 : lo ≤ n) (h2 : n ≤ hi) : Calls Tryz.prog 138 #[.int .i64 n, .int .i64 lo, .int .i64 hi] w fun e w' => e = .returned (.tuple #[]) ∧ w' = w := by
  have d1 : decide (n < lo) = false := decide_eq_false (by omega)
  have d2 : decide (hi < n) = false := decide_eq_false (by omega)
  go_enter Tryz.func138, Tryz.ntmps138
  go_wp2_with fail
  go_end0
  exact ⟨rfl, rfl⟩

end Go.Proofs.YtcbolipiaflfbaaGreatDoor.Num.Fy

/- package fmoney: six cells in a block (the terms of a loan); what a function gives at values. No conditions. -/
namespace Go.Proofs.YtcbolipiaflfbaaGreatDoor.Num.Fy
open Go.RowKit Go.Lib Num

def Six (W : World) (b : Nat) (x0 x1 x2 x3 x4 x5 : Value) : Prop :=
  (W.cell? ⟨b, 0, none⟩ = some x0 ∧ W.cell? ⟨b, 1, none⟩ = some x1 ∧ W.cell? ⟨b, 2, none⟩ = some x2 ∧ W.cell? ⟨b, 3, none⟩ = some x3 ∧ W.cell? ⟨b, 4, none⟩ = some x4 ∧ W.cell? ⟨b, 5, none⟩ = some x5) ∧
  W.frozen? ⟨b, 0, none⟩ = false ∧ W.frozen? ⟨b, 1, none⟩ = false ∧ W.frozen? ⟨b, 2, none⟩ = false ∧ W.frozen? ⟨b, 3, none⟩ = false ∧ W.frozen? ⟨b, 4, none⟩ = false ∧ W.frozen? ⟨b, 5, none⟩ = false
theorem six_at {W : World} {b : Nat} {x0 x1 x2 x3 x4 x5 : Value} {T : TypeId} (h : W.heap[b]? = some (.cells #[x0, x1, x2, x3, x4, x5] T (0, 0))) : Six W b x0 x1 x2 x3 x4 x5 :=
  ⟨⟨Lib.cell_of_heap h 0, Lib.cell_of_heap h 1, Lib.cell_of_heap h 2, Lib.cell_of_heap h 3, Lib.cell_of_heap h 4, Lib.cell_of_heap h 5⟩,
   by rw [Lib.frozen_of_heap h 0], by rw [Lib.frozen_of_heap h 1], by rw [Lib.frozen_of_heap h 2], by rw [Lib.frozen_of_heap h 3], by rw [Lib.frozen_of_heap h 4], by rw [Lib.frozen_of_heap h 5]⟩
theorem set6_at {W : World} {b : Nat} {x0 x1 x2 x3 x4 x5 : Value} {T : TypeId} (h : W.heap[b]? = some (.cells #[x0, x1, x2, x3, x4, x5] T (0, 0))) (y0 y1 y2 y3 y4 y5 : Value) :
    ((((((W.setCell ⟨b, 0, none⟩ y0).setCell ⟨b, 1, none⟩ y1).setCell ⟨b, 2, none⟩ y2).setCell ⟨b, 3, none⟩ y3).setCell ⟨b, 4, none⟩ y4).setCell ⟨b, 5, none⟩ y5).heap[b]? = some (.cells #[y0, y1, y2, y3, y4, y5] T (0, 0)) := by
  have := heap_setCell_at (heap_setCell_at (heap_setCell_at (heap_setCell_at (heap_setCell_at (heap_setCell_at h 0 y0) 1 y1) 2 y2) 3 y3) 4 y4) 5 y5
  rw [this]; rfl
theorem set6_other (W : World) (b : Nat) (y0 y1 y2 y3 y4 y5 : Value) {k : Nat} (hk : k ≠ b) : ((((((W.setCell ⟨b, 0, none⟩ y0).setCell ⟨b, 1, none⟩ y1).setCell ⟨b, 2, none⟩ y2).setCell ⟨b, 3, none⟩ y3).setCell ⟨b, 4, none⟩ y4).setCell ⟨b, 5, none⟩ y5).heap[k]? = W.heap[k]? :=
  ((((((Below.heap_setCell _ ⟨b, 5, none⟩ y5 k hk).trans (Below.heap_setCell _ ⟨b, 4, none⟩ y4 k hk)).trans (Below.heap_setCell _ ⟨b, 3, none⟩ y3 k hk)).trans (Below.heap_setCell _ ⟨b, 2, none⟩ y2 k hk)).trans (Below.heap_setCell _ ⟨b, 1, none⟩ y1 k hk)).trans (Below.heap_setCell _ ⟨b, 0, none⟩ y0 k hk))
theorem put6_below {B G : Nat} (h : B ≤ G) (W : World) (y0 y1 y2 y3 y4 y5 : Value) : Below B W ((((((W.setCell ⟨G, 0, none⟩ y0).setCell ⟨G, 1, none⟩ y1).setCell ⟨G, 2, none⟩ y2).setCell ⟨G, 3, none⟩ y3).setCell ⟨G, 4, none⟩ y4).setCell ⟨G, 5, none⟩ y5) :=
  ((((((Below.refl _ _).setCell (p := ⟨G, 0, none⟩) h _).setCell (p := ⟨G, 1, none⟩) h _).setCell (p := ⟨G, 2, none⟩) h _).setCell (p := ⟨G, 3, none⟩) h _).setCell (p := ⟨G, 4, none⟩) h _).setCell (p := ⟨G, 5, none⟩) h _
theorem set45_at {W : World} {b : Nat} {x0 x1 x2 x3 x4 x5 : Value} {T : TypeId} (h : W.heap[b]? = some (.cells #[x0, x1, x2, x3, x4, x5] T (0, 0))) (x y : Value) :
    ((W.setCell ⟨b, 4, none⟩ x).setCell ⟨b, 5, none⟩ y).heap[b]? = some (.cells #[x0, x1, x2, x3, x, y] T (0, 0)) := by
  have := heap_setCell_at (heap_setCell_at h 4 x) 5 y
  rw [this]; rfl
theorem set45_other (W : World) (b : Nat) (x y : Value) {k : Nat} (hk : k ≠ b) : ((W.setCell ⟨b, 4, none⟩ x).setCell ⟨b, 5, none⟩ y).heap[k]? = W.heap[k]? :=
  (Below.heap_setCell _ ⟨b, 5, none⟩ y k hk).trans (Below.heap_setCell _ ⟨b, 4, none⟩ x k hk)
theorem put45_below {B G : Nat} (h : B ≤ G) (W : World) (x y : Value) : Below B W ((W.setCell ⟨G, 4, none⟩ x).setCell ⟨G, 5, none⟩ y) :=
  ((Below.refl _ _).setCell (p := ⟨G, 4, none⟩) h _).setCell (p := ⟨G, 5, none⟩) h _

/-- a block from before, in a region that draws its order -/
theorem old_of {nd : Nat → Nat → Bool} {n : Nat} {ks : List RK} {w : World} {row : Option Nat} {listed : Array Bool} {vs : List Value} {W : World} (hF : Fs nd n ks w row listed vs W) {i g st : Nat} {z f : Array Value} {T : TypeId} (hi : ks[i]? = some (.box (some g) z f T st)) (hn : On n listed i) :
    vs.getD i undef = .pointer (some ⟨g, 0, none⟩) ∧ w.heap.size ≤ g ∧ W.heap[g]? = some (.cells (if listed.getD st false = true then f else z) T (0, 0)) := by
  obtain ⟨G, e, hg, h1, h2⟩ := hF.get i _ hi hn
  have := hg _ rfl
  subst this
  exact ⟨e, h1, h2⟩
theorem eqi {i k : Nat} (h : i < k + 1) (g : k ≤ i) : i = k := Nat.le_antisymm (Nat.le_of_lt_succ h) g
set_option linter.defProp false in
def layL := And.intro @layT_some (And.intro @layT_none (And.intro @layT_nil (And.intro (@List.setIfInBounds_toArray Value) (And.intro (@List.set_cons_zero Value) (@List.set_cons_succ Value)))))
theorem same_one (p : Rat) (W : World) : Calls Tryz.prog 12 #[.agg #[.int .i64 1, .string (numS p), .string (denS p), .string { data := #[] }, .bool false, .int .i64 0, .int .i64 0, .int .i64 0, .slice none 0 0], .agg #[.int .i64 1, .string (numS p), .string (denS p), .string { data := #[] }, .bool false, .int .i64 0, .int .i64 0, .int .i64 0, .slice none 0 0]] W fun e w' => e = .returned (.bool true) ∧ Below W.heap.size W w' := by
  refine (same_num p p W).mono ?_
  rintro e w' ⟨rfl, h⟩
  exact ⟨by rw [decide_eq_true rfl], h⟩
/-- what a function gives at values -/
def Fun1 (f : FuncId) (a v : Value) : Prop := ∀ W, EnvY W → Calls Tryz.prog f #[a] W fun e w' => e = .returned v ∧ Below W.heap.size W w'
def Fun2 (f : FuncId) (a b v : Value) : Prop := ∀ W, EnvY W → Calls Tryz.prog f #[a, b] W fun e w' => e = .returned v ∧ Below W.heap.size W w'
def Fun3 (f : FuncId) (a b c v : Value) : Prop := ∀ W, EnvY W → Calls Tryz.prog f #[a, b, c] W fun e w' => e = .returned v ∧ Below W.heap.size W w'
def Fun6 (f : FuncId) (a b c d g h v : Value) : Prop := ∀ W, EnvY W → Calls Tryz.prog f #[a, b, c, d, g, h] W fun e w' => e = .returned v ∧ Below W.heap.size W w'
end Go.Proofs.YtcbolipiaflfbaaGreatDoor.Num.Fy

/- package fmoney's table of functions: how it lies as a map. No conditions. -/
namespace Go.Proofs.YtcbolipiaflfbaaGreatDoor.Num.Fy
open Go.RowKit Go.Lib Go.MapKept Num

attribute [local go_sem] run_store_func
/-- a function value that wraps the row's function, or is it -/
def RowFn (w : World) (v : Value) (r : Row) : Prop :=
  if r.num then ∃ e, v = .func (.func 252) #[] #[.pointer (some ⟨e, 0, none⟩)] ∧ w.cell? ⟨e, 0, none⟩ = some (.func (.func r.fn) #[] #[])
  else v = .func (.func r.fn) #[] #[]
/-- an entry of the table as it lies in the map -/
def EntryAt (w : World) (x : MapEntry) (r : Row) : Prop := x.key = .string r.name ∧ ∃ v, x.val = .agg #[.int .i64 r.least, .int .i64 r.most, .string r.kinds, v] ∧ RowFn w v r
/-- block b is a map with just these rows -/
def TableAt (w : World) (b : Nat) (l : List Row) : Prop :=
  ∃ es clock, w.heap[b]? = some (.map es clock) ∧ es.size = l.length ∧ ∀ i (h : i < l.length) (h' : i < es.size), EntryAt w es[i] l[i]

theorem RowFn.mono {w w' : World} {v : Value} {r : Row} (h : RowFn w v r) (hc : ∀ (p : Addr) (x : Value), w.cell? p = some x → w'.cell? p = some x) : RowFn w' v r := by
  unfold RowFn at h ⊢
  split
  · rename_i hn
    rw [if_pos hn] at h
    obtain ⟨e, h1, h2⟩ := h
    exact ⟨e, h1, hc _ _ h2⟩
  · rename_i hn
    rw [if_neg hn] at h
    exact h
theorem EntryAt.mono {w w' : World} {x : MapEntry} {r : Row} (h : EntryAt w x r) (hc : ∀ (p : Addr) (x : Value), w.cell? p = some x → w'.cell? p = some x) : EntryAt w' x r :=
  let ⟨hk, v, hv, hr⟩ := h; ⟨hk, v, hv, hr.mono hc⟩
theorem TableAt.below {w w' : World} {b : Nat} {l : List Row} (h : TableAt w b l) (hb : Below w.heap.size w w') : TableAt w' b l := by
  obtain ⟨es, clock, hm, hs, he⟩ := h
  exact ⟨es, clock, keep_block hm hb, hs, fun i hi hi' => (he i hi hi').mono fun p x hp => cell_below hp hb⟩
theorem TableAt.made (w : World) : TableAt (w.alloc (.map #[] 0)) w.heap.size [] := ⟨#[], 0, heap_alloc_new w _, rfl, fun i hi => absurd hi (Nat.not_lt_zero _)⟩
theorem TableAt.store {w : World} {b mt kt et : Nat} {l : List Row} (h : TableAt w b l) (r : Row) (v : Value) (hr : RowFn w v r) (hf : Fresh r.name l) (hm : Tryz.prog.underlying mt = some (.map kt et)) (hk : Tryz.prog.underlying kt = some .string) :
    ∃ w', (Instr.mapUpdate mt (.map (some b)) (.string r.name) (.agg #[.int .i64 r.least, .int .i64 r.most, .string r.kinds, v])).run Tryz.prog w = .ok () w' ∧ TableAt w' b (l ++ [r]) ∧ w.grownBy w' (some b) := by
  obtain ⟨es, clock, hb, hs, he⟩ := h
  have hall : ∀ x ∈ es.toList, ∃ t, x.key = .string t ∧ (r.name == t) = false := by
    intro x hx
    obtain ⟨i, hi, rfl⟩ := List.getElem_of_mem hx
    have hi' : i < es.size := by simpa using hi
    have hil : i < l.length := by omega
    have := (he i hil hi').1
    exact ⟨l[i].name, by simpa using this, hf l[i] (List.getElem_mem hil)⟩
  have hfind := findNow_fresh r.name es.toList 0 hall
  have hc : (Instr.checkKey false 10000 kt (.string r.name)).run Tryz.prog w = .ok () w := MapKept.run_checkKey (k := .string r.name) hk (by simp [IsKey]) false 9999
  refine ⟨putMap w b (.map (es.push { key := .string r.name, val := .agg #[.int .i64 r.least, .int .i64 r.most, .string r.kinds, v], born := clock }) (clock + 1)), ?_, ?_, putMap_grown hb⟩
  · simp [Instr.mapUpdate, run_underlying hm, MapKept.run_getObj_map hb, hc, MapKept.run_findKey hk hfind, MapKept.run_setObj_map _ hb, Result.andThen, putMap]
  · refine ⟨_, _, (heap_set hb).1, by simp [hs], fun i hi hi' => ?_⟩
    by_cases hlt : i < es.size
    · have hil : i < l.length := by omega
      rw [Array.getElem_push_lt hlt, List.getElem_append_left hil]
      exact (he i hil hlt).mono (putMap_cell hb)
    · have : i = es.size := by simp at hi'; omega
      subst this
      rw [Array.getElem_push_eq]
      have hl : (l ++ [r])[es.size] = r := by simp [hs]
      rw [hl]
      exact ⟨rfl, v, rfl, hr.mono (putMap_cell hb)⟩
/-- the row at a name -/
theorem TableAt.look {w : World} {b mt kt et : Nat} {l : List Row} (h : TableAt w b l) (i : Nat) (hi : i < l.length) (hf : ∀ j (hj : j < i), (l[i].name == (l[j]'(by omega)).name) = false) (hm : Tryz.prog.underlying mt = some (.map kt et)) (hk : Tryz.prog.underlying kt = some .string) :
    ∃ v, RowFn w v l[i] ∧ (Instr.lookup mt (.map (some b)) (.string l[i].name) true).run Tryz.prog w = .ok (.tuple #[.agg #[.int .i64 l[i].least, .int .i64 l[i].most, .string l[i].kinds, v], .bool true]) w := by
  obtain ⟨es, clock, hb, hs, he⟩ := h
  have hi' : i < es.size := by omega
  obtain ⟨hkey, v, hv, hr⟩ := he i hi hi'
  refine ⟨v, hr, ?_⟩
  have hat : es.toList[i]? = some es[i] := by simp [hi']
  have hfind := findNow_at l[i].name es.toList i 0 es[i] hat hkey (fun j y hj hy => by
    have hjl : j < l.length := by omega
    have hje : j < es.size := by omega
    have hy' : es[j] = y := by simpa [hje] using hy
    exact ⟨l[j].name, by rw [← hy']; exact (he j hjl hje).1, hf j hj⟩)
  rw [Nat.zero_add, hv] at hfind
  have hc : (Instr.checkKey es.isEmpty 10000 kt (.string l[i].name)).run Tryz.prog w = .ok () w := MapKept.run_checkKey (k := .string l[i].name) hk (by simp [IsKey]) _ 9999
  simp [Instr.lookup, run_underlying hm, MapKept.run_getObj_map hb, hc, MapKept.run_findKey hk hfind, Result.andThen]

section
variable {ops : Array Oper} {rest : List Oper} {o : Oper} {a : Act} {Q : Exit → Act → World → Prop}
theorem wpList_insert_row (w : World) (hg : o.guard = none) (m x u : Operand) (t : TypeId) (hop : o.op = Op.insert t m x u ∨ o.op = Op.mapUpdate t m x u) {b kt et : Nat} {l : List Row} (hm : a.eval m = .map (some b)) (h : TableAt w b l) (r : Row) (v : Value) (hx : a.eval x = .string r.name) (hv : a.eval u = .agg #[.int .i64 r.least, .int .i64 r.most, .string r.kinds, v]) (hr : RowFn w v r) (hf : Fresh r.name l) (ht : Tryz.prog.underlying t = some (.map kt et)) (hk : Tryz.prog.underlying kt = some .string)
    (hK : ∀ w', TableAt w' b (l ++ [r]) → w.grownBy w' (some b) → wpList Tryz.prog ops Q rest (a.put o.dst undef) w') :
    wpList Tryz.prog ops Q (o :: rest) a w := by
  refine wpList_plain hg fun K' hK' => ?_
  obtain ⟨w', hrun, r1, r2⟩ := h.store r v hr hf ht hk
  unfold Oper.wp
  rcases hop with hop | hop
  · simp [execOp, hop, hm, hx, hv, hrun, Result.andThen]
    exact hK' _ _ (hK w' r1 r2)
  · simp [execOp, hop, hm, hx, hv, hrun, Result.andThen]
    exact hK' _ _ (hK w' r1 r2)
end

end Go.Proofs.YtcbolipiaflfbaaGreatDoor.Num.Fy

/- package fmoney's table of functions. No conditions. -/
namespace Go.Proofs.YtcbolipiaflfbaaGreatDoor.Num.Fy
open Go.RowKit Go.Lib Go.MapKept Num

/-- what fmoney.num and fmoney.- leave -/
def RowRet (w : World) (r : Row) (e : Ending) (w' : World) : Prop := ∃ v, e = .returned (.agg #[.int .i64 r.least, .int .i64 r.most, .string r.kinds, v]) ∧ RowFn w' v r ∧ Below w.heap.size w w'
attribute [local go_sem] run_store_func
set_option maxHeartbeats 1000000 in
theorem num_any (least most : Int) (kinds : ByteArray) (F : Value) (w : World) (hF : ∃ f c d, F = .func f c d) :
    Calls Tryz.prog 106 #[.int .i64 least, .int .i64 most, .string kinds, F] w fun e w' => e = .returned (.agg #[.int .i64 least, .int .i64 most, .string kinds, .func (.func 252) #[] #[.pointer (some ⟨w.heap.size, 0, none⟩)]]) ∧ w'.cell? ⟨w.heap.size, 0, none⟩ = some F ∧ Below w.heap.size w w' := by
  obtain ⟨f, c, d, rfl⟩ := hF
  have hmf : ∀ (fn : Fn) (first cap : Array Value) (w : World), (Instr.makeFunc fn first cap).run Tryz.prog w = .ok (.func fn first cap) w := fun _ _ _ _ => rfl
  go_enter Tryz.func106, Tryz.ntmps106
  go_wp2
  have hc : (((w.alloc (.cells #[.func f c d] 106)).alloc (.cells #[.int .i64 least, .int .i64 most, .string kinds, .func (.func 252) #[] #[.pointer (some ⟨w.heap.size, 0, none⟩)]] 98))).cell? ⟨w.heap.size, 0, none⟩ = some (.func f c d) :=
    Lib.cell_of_heap ((Below.heap_alloc _ _ _ (by simp)).trans (heap_alloc_new w _)) 0
  exact bodyPost_ret (v := .agg #[.int .i64 least, .int .i64 most, .string kinds, .func (.func 252) #[] #[.pointer (some ⟨w.heap.size, 0, none⟩)]]) (by simp [results, Tryz.results106, go_sem]) rfl ⟨rfl, hc, ((Below.refl _ _).alloc (Nat.le_refl _) _).alloc (by simp) _⟩
theorem num_row (r : Row) (hr : r.num = true) (w : World) : Calls Tryz.prog 106 #[.int .i64 r.least, .int .i64 r.most, .string r.kinds, .func (.func r.fn) #[] #[]] w (RowRet w r) :=
  (num_any r.least r.most r.kinds _ w ⟨_, _, _, rfl⟩).mono fun e w' ⟨he, hc, hb⟩ => ⟨_, he, by unfold RowFn; rw [if_pos hr]; exact ⟨_, rfl, hc⟩, hb⟩

theorem num_lit (name : ByteArray) (least most : Int) (kinds : ByteArray) (F : FuncId) (w : World) : Calls Tryz.prog 106 #[.int .i64 least, .int .i64 most, .string kinds, .func (.func F) #[] #[]] w fun e w' => ∃ v, e = .returned (.agg #[.int .i64 least, .int .i64 most, .string kinds, v]) ∧ RowFn w' v ⟨name, least, most, kinds, true, F⟩ ∧ Below w.heap.size w w' := num_row ⟨name, least, most, kinds, true, F⟩ rfl w

def allRows : List Row := [⟨{ data := #[70, 86] }, 3, 5, { data := #[115] }, true, 107⟩,
  ⟨{ data := #[80, 86] }, 3, 5, { data := #[115] }, true, 113⟩,
  ⟨{ data := #[80, 77, 84] }, 3, 5, { data := #[115] }, true, 118⟩,
  ⟨{ data := #[73, 80, 77, 84] }, 4, 6, { data := #[115] }, true, 120⟩,
  ⟨{ data := #[80, 80, 77, 84] }, 4, 6, { data := #[115] }, true, 122⟩,
  ⟨{ data := #[67, 85, 77, 73, 80, 77, 84] }, 6, 6, { data := #[115] }, true, 123⟩,
  ⟨{ data := #[67, 85, 77, 80, 82, 73, 78, 67] }, 6, 6, { data := #[115] }, true, 125⟩,
  ⟨{ data := #[78, 80, 86] }, 2, 255, { data := #[115, 97] }, true, 126⟩,
  ⟨{ data := #[73, 82, 82] }, 1, 1, { data := #[97] }, true, 127⟩,
  ⟨{ data := #[70, 86, 83, 67, 72, 69, 68, 85, 76, 69] }, 2, 2, { data := #[115, 97] }, true, 128⟩,
  ⟨{ data := #[69, 70, 70, 69, 67, 84] }, 2, 2, { data := #[115] }, true, 129⟩,
  ⟨{ data := #[83, 76, 78] }, 3, 3, { data := #[115] }, true, 130⟩,
  ⟨{ data := #[83, 89, 68] }, 4, 4, { data := #[115] }, true, 132⟩,
  ⟨{ data := #[68, 68, 66] }, 4, 5, { data := #[115] }, true, 133⟩,
  ⟨{ data := #[68, 79, 76, 76, 65, 82, 68, 69] }, 2, 2, { data := #[115] }, true, 134⟩,
  ⟨{ data := #[68, 79, 76, 76, 65, 82, 70, 82] }, 2, 2, { data := #[115] }, true, 136⟩,
  ⟨{ data := #[73, 83, 80, 77, 84] }, 4, 4, { data := #[115] }, true, 137⟩,
  ⟨{ data := #[80, 76, 65, 78] }, 3, 4, { data := #[115] }, false, 139⟩]
set_option maxHeartbeats 8000000 in
set_option maxRecDepth 100000 in
theorem table_any (w : World) : Calls Tryz.prog 46 #[] w fun e w' => ∃ b, e = .returned (.map (some b)) ∧ TableAt w' b allRows ∧ Below w.heap.size w w' := by
  have hmm := @run_makeMap Tryz.prog
  have TA := Lib.hid (show TableAt (w.alloc (.map #[] 0)) w.heap.size (allRows.take 0) from TableAt.made w)
  have HL := Lib.hid (show Below w.heap.size w (w.alloc (.map #[] 0)) from (Below.refl _ _).alloc (Nat.le_refl _) _)
  go_enter Tryz.func46, Tryz.ntmps46
  go_wp2_with fail
  refine (num_lit { data := #[70, 86] } 3 5 { data := #[115] } 107 _).mono ?_
  rintro e W0 ⟨v, rfl, hr, hb⟩
  have RF := Lib.hid hr
  replace TA := Lib.hid (TA.out.below hb)
  replace HL := Lib.hid (HL.out.trans (hb.mono HL.out.size))
  clear hr hb
  go_wp2_with (first | (refine wpList_insert_row _ rfl _ _ _ _ (.inl rfl) rfl TA.out ⟨{ data := #[70, 86] }, 3, 5, { data := #[115] }, true, 107⟩ v rfl rfl RF.out (fresh_of (by kernel_rfl)) Tryz.underlying69 Tryz.underlying9 ?_; intro V0 ta hg; replace TA := Lib.hid (show TableAt V0 _ (allRows.take 1) from ta); replace HL := Lib.hid (below_map HL.out (Nat.le_refl _) hg); clear ta hg RF))
  go_wp2_with fail
  refine (num_lit { data := #[80, 86] } 3 5 { data := #[115] } 113 _).mono ?_
  rintro e W1 ⟨v, rfl, hr, hb⟩
  have RF := Lib.hid hr
  replace TA := Lib.hid (TA.out.below hb)
  replace HL := Lib.hid (HL.out.trans (hb.mono HL.out.size))
  clear hr hb
  go_wp2_with (first | (refine wpList_insert_row _ rfl _ _ _ _ (.inl rfl) rfl TA.out ⟨{ data := #[80, 86] }, 3, 5, { data := #[115] }, true, 113⟩ v rfl rfl RF.out (fresh_of (by kernel_rfl)) Tryz.underlying69 Tryz.underlying9 ?_; intro V1 ta hg; replace TA := Lib.hid (show TableAt V1 _ (allRows.take 2) from ta); replace HL := Lib.hid (below_map HL.out (Nat.le_refl _) hg); clear ta hg RF))
  go_wp2_with fail
  refine (num_lit { data := #[80, 77, 84] } 3 5 { data := #[115] } 118 _).mono ?_
  rintro e W2 ⟨v, rfl, hr, hb⟩
  have RF := Lib.hid hr
  replace TA := Lib.hid (TA.out.below hb)
  replace HL := Lib.hid (HL.out.trans (hb.mono HL.out.size))
  clear hr hb
  go_wp2_with (first | (refine wpList_insert_row _ rfl _ _ _ _ (.inl rfl) rfl TA.out ⟨{ data := #[80, 77, 84] }, 3, 5, { data := #[115] }, true, 118⟩ v rfl rfl RF.out (fresh_of (by kernel_rfl)) Tryz.underlying69 Tryz.underlying9 ?_; intro V2 ta hg; replace TA := Lib.hid (show TableAt V2 _ (allRows.take 3) from ta); replace HL := Lib.hid (below_map HL.out (Nat.le_refl _) hg); clear ta hg RF))
  go_wp2_with fail
  refine (num_lit { data := #[73, 80, 77, 84] } 4 6 { data := #[115] } 120 _).mono ?_
  rintro e W3 ⟨v, rfl, hr, hb⟩
  have RF := Lib.hid hr
  replace TA := Lib.hid (TA.out.below hb)
  replace HL := Lib.hid (HL.out.trans (hb.mono HL.out.size))
  clear hr hb
  go_wp2_with (first | (refine wpList_insert_row _ rfl _ _ _ _ (.inl rfl) rfl TA.out ⟨{ data := #[73, 80, 77, 84] }, 4, 6, { data := #[115] }, true, 120⟩ v rfl rfl RF.out (fresh_of (by kernel_rfl)) Tryz.underlying69 Tryz.underlying9 ?_; intro V3 ta hg; replace TA := Lib.hid (show TableAt V3 _ (allRows.take 4) from ta); replace HL := Lib.hid (below_map HL.out (Nat.le_refl _) hg); clear ta hg RF))
  go_wp2_with fail
  refine (num_lit { data := #[80, 80, 77, 84] } 4 6 { data := #[115] } 122 _).mono ?_
  rintro e W4 ⟨v, rfl, hr, hb⟩
  have RF := Lib.hid hr
  replace TA := Lib.hid (TA.out.below hb)
  replace HL := Lib.hid (HL.out.trans (hb.mono HL.out.size))
  clear hr hb
  go_wp2_with (first | (refine wpList_insert_row _ rfl _ _ _ _ (.inl rfl) rfl TA.out ⟨{ data := #[80, 80, 77, 84] }, 4, 6, { data := #[115] }, true, 122⟩ v rfl rfl RF.out (fresh_of (by kernel_rfl)) Tryz.underlying69 Tryz.underlying9 ?_; intro V4 ta hg; replace TA := Lib.hid (show TableAt V4 _ (allRows.take 5) from ta); replace HL := Lib.hid (below_map HL.out (Nat.le_refl _) hg); clear ta hg RF))
  go_wp2_with fail
  refine (num_lit { data := #[67, 85, 77, 73, 80, 77, 84] } 6 6 { data := #[115] } 123 _).mono ?_
  rintro e W5 ⟨v, rfl, hr, hb⟩
  have RF := Lib.hid hr
  replace TA := Lib.hid (TA.out.below hb)
  replace HL := Lib.hid (HL.out.trans (hb.mono HL.out.size))
  clear hr hb
  go_wp2_with (first | (refine wpList_insert_row _ rfl _ _ _ _ (.inl rfl) rfl TA.out ⟨{ data := #[67, 85, 77, 73, 80, 77, 84] }, 6, 6, { data := #[115] }, true, 123⟩ v rfl rfl RF.out (fresh_of (by kernel_rfl)) Tryz.underlying69 Tryz.underlying9 ?_; intro V5 ta hg; replace TA := Lib.hid (show TableAt V5 _ (allRows.take 6) from ta); replace HL := Lib.hid (below_map HL.out (Nat.le_refl _) hg); clear ta hg RF))
  go_wp2_with fail
  refine (num_lit { data := #[67, 85, 77, 80, 82, 73, 78, 67] } 6 6 { data := #[115] } 125 _).mono ?_
  rintro e W6 ⟨v, rfl, hr, hb⟩
  have RF := Lib.hid hr
  replace TA := Lib.hid (TA.out.below hb)
  replace HL := Lib.hid (HL.out.trans (hb.mono HL.out.size))
  clear hr hb
  go_wp2_with (first | (refine wpList_insert_row _ rfl _ _ _ _ (.inl rfl) rfl TA.out ⟨{ data := #[67, 85, 77, 80, 82, 73, 78, 67] }, 6, 6, { data := #[115] }, true, 125⟩ v rfl rfl RF.out (fresh_of (by kernel_rfl)) Tryz.underlying69 Tryz.underlying9 ?_; intro V6 ta hg; replace TA := Lib.hid (show TableAt V6 _ (allRows.take 7) from ta); replace HL := Lib.hid (below_map HL.out (Nat.le_refl _) hg); clear ta hg RF))
  go_wp2_with fail
  refine (num_lit { data := #[78, 80, 86] } 2 255 { data := #[115, 97] } 126 _).mono ?_
  rintro e W7 ⟨v, rfl, hr, hb⟩
  have RF := Lib.hid hr
  replace TA := Lib.hid (TA.out.below hb)
  replace HL := Lib.hid (HL.out.trans (hb.mono HL.out.size))
  clear hr hb
  go_wp2_with (first | (refine wpList_insert_row _ rfl _ _ _ _ (.inl rfl) rfl TA.out ⟨{ data := #[78, 80, 86] }, 2, 255, { data := #[115, 97] }, true, 126⟩ v rfl rfl RF.out (fresh_of (by kernel_rfl)) Tryz.underlying69 Tryz.underlying9 ?_; intro V7 ta hg; replace TA := Lib.hid (show TableAt V7 _ (allRows.take 8) from ta); replace HL := Lib.hid (below_map HL.out (Nat.le_refl _) hg); clear ta hg RF))
  go_wp2_with fail
  refine (num_lit { data := #[73, 82, 82] } 1 1 { data := #[97] } 127 _).mono ?_
  rintro e W8 ⟨v, rfl, hr, hb⟩
  have RF := Lib.hid hr
  replace TA := Lib.hid (TA.out.below hb)
  replace HL := Lib.hid (HL.out.trans (hb.mono HL.out.size))
  clear hr hb
  go_wp2_with (first | (refine wpList_insert_row _ rfl _ _ _ _ (.inl rfl) rfl TA.out ⟨{ data := #[73, 82, 82] }, 1, 1, { data := #[97] }, true, 127⟩ v rfl rfl RF.out (fresh_of (by kernel_rfl)) Tryz.underlying69 Tryz.underlying9 ?_; intro V8 ta hg; replace TA := Lib.hid (show TableAt V8 _ (allRows.take 9) from ta); replace HL := Lib.hid (below_map HL.out (Nat.le_refl _) hg); clear ta hg RF))
  go_wp2_with fail
  refine (num_lit { data := #[70, 86, 83, 67, 72, 69, 68, 85, 76, 69] } 2 2 { data := #[115, 97] } 128 _).mono ?_
  rintro e W9 ⟨v, rfl, hr, hb⟩
  have RF := Lib.hid hr
  replace TA := Lib.hid (TA.out.below hb)
  replace HL := Lib.hid (HL.out.trans (hb.mono HL.out.size))
  clear hr hb
  go_wp2_with (first | (refine wpList_insert_row _ rfl _ _ _ _ (.inl rfl) rfl TA.out ⟨{ data := #[70, 86, 83, 67, 72, 69, 68, 85, 76, 69] }, 2, 2, { data := #[115, 97] }, true, 128⟩ v rfl rfl RF.out (fresh_of (by kernel_rfl)) Tryz.underlying69 Tryz.underlying9 ?_; intro V9 ta hg; replace TA := Lib.hid (show TableAt V9 _ (allRows.take 10) from ta); replace HL := Lib.hid (below_map HL.out (Nat.le_refl _) hg); clear ta hg RF))
  go_wp2_with fail
  refine (num_lit { data := #[69, 70, 70, 69, 67, 84] } 2 2 { data := #[115] } 129 _).mono ?_
  rintro e W10 ⟨v, rfl, hr, hb⟩
  have RF := Lib.hid hr
  replace TA := Lib.hid (TA.out.below hb)
  replace HL := Lib.hid (HL.out.trans (hb.mono HL.out.size))
  clear hr hb
  go_wp2_with (first | (refine wpList_insert_row _ rfl _ _ _ _ (.inl rfl) rfl TA.out ⟨{ data := #[69, 70, 70, 69, 67, 84] }, 2, 2, { data := #[115] }, true, 129⟩ v rfl rfl RF.out (fresh_of (by kernel_rfl)) Tryz.underlying69 Tryz.underlying9 ?_; intro V10 ta hg; replace TA := Lib.hid (show TableAt V10 _ (allRows.take 11) from ta); replace HL := Lib.hid (below_map HL.out (Nat.le_refl _) hg); clear ta hg RF))
  go_wp2_with fail
  refine (num_lit { data := #[83, 76, 78] } 3 3 { data := #[115] } 130 _).mono ?_
  rintro e W11 ⟨v, rfl, hr, hb⟩
  have RF := Lib.hid hr
  replace TA := Lib.hid (TA.out.below hb)
  replace HL := Lib.hid (HL.out.trans (hb.mono HL.out.size))
  clear hr hb
  go_wp2_with (first | (refine wpList_insert_row _ rfl _ _ _ _ (.inl rfl) rfl TA.out ⟨{ data := #[83, 76, 78] }, 3, 3, { data := #[115] }, true, 130⟩ v rfl rfl RF.out (fresh_of (by kernel_rfl)) Tryz.underlying69 Tryz.underlying9 ?_; intro V11 ta hg; replace TA := Lib.hid (show TableAt V11 _ (allRows.take 12) from ta); replace HL := Lib.hid (below_map HL.out (Nat.le_refl _) hg); clear ta hg RF))
  go_wp2_with fail
  refine (num_lit { data := #[83, 89, 68] } 4 4 { data := #[115] } 132 _).mono ?_
  rintro e W12 ⟨v, rfl, hr, hb⟩
  have RF := Lib.hid hr
  replace TA := Lib.hid (TA.out.below hb)
  replace HL := Lib.hid (HL.out.trans (hb.mono HL.out.size))
  clear hr hb
  go_wp2_with (first | (refine wpList_insert_row _ rfl _ _ _ _ (.inl rfl) rfl TA.out ⟨{ data := #[83, 89, 68] }, 4, 4, { data := #[115] }, true, 132⟩ v rfl rfl RF.out (fresh_of (by kernel_rfl)) Tryz.underlying69 Tryz.underlying9 ?_; intro V12 ta hg; replace TA := Lib.hid (show TableAt V12 _ (allRows.take 13) from ta); replace HL := Lib.hid (below_map HL.out (Nat.le_refl _) hg); clear ta hg RF))
  go_wp2_with fail
  refine (num_lit { data := #[68, 68, 66] } 4 5 { data := #[115] } 133 _).mono ?_
  rintro e W13 ⟨v, rfl, hr, hb⟩
  have RF := Lib.hid hr
  replace TA := Lib.hid (TA.out.below hb)
  replace HL := Lib.hid (HL.out.trans (hb.mono HL.out.size))
  clear hr hb
  go_wp2_with (first | (refine wpList_insert_row _ rfl _ _ _ _ (.inl rfl) rfl TA.out ⟨{ data := #[68, 68, 66] }, 4, 5, { data := #[115] }, true, 133⟩ v rfl rfl RF.out (fresh_of (by kernel_rfl)) Tryz.underlying69 Tryz.underlying9 ?_; intro V13 ta hg; replace TA := Lib.hid (show TableAt V13 _ (allRows.take 14) from ta); replace HL := Lib.hid (below_map HL.out (Nat.le_refl _) hg); clear ta hg RF))
  go_wp2_with fail
  refine (num_lit { data := #[68, 79, 76, 76, 65, 82, 68, 69] } 2 2 { data := #[115] } 134 _).mono ?_
  rintro e W14 ⟨v, rfl, hr, hb⟩
  have RF := Lib.hid hr
  replace TA := Lib.hid (TA.out.below hb)
  replace HL := Lib.hid (HL.out.trans (hb.mono HL.out.size))
  clear hr hb
  go_wp2_with (first | (refine wpList_insert_row _ rfl _ _ _ _ (.inl rfl) rfl TA.out ⟨{ data := #[68, 79, 76, 76, 65, 82, 68, 69] }, 2, 2, { data := #[115] }, true, 134⟩ v rfl rfl RF.out (fresh_of (by kernel_rfl)) Tryz.underlying69 Tryz.underlying9 ?_; intro V14 ta hg; replace TA := Lib.hid (show TableAt V14 _ (allRows.take 15) from ta); replace HL := Lib.hid (below_map HL.out (Nat.le_refl _) hg); clear ta hg RF))
  go_wp2_with fail
  refine (num_lit { data := #[68, 79, 76, 76, 65, 82, 70, 82] } 2 2 { data := #[115] } 136 _).mono ?_
  rintro e W15 ⟨v, rfl, hr, hb⟩
  have RF := Lib.hid hr
  replace TA := Lib.hid (TA.out.below hb)
  replace HL := Lib.hid (HL.out.trans (hb.mono HL.out.size))
  clear hr hb
  go_wp2_with (first | (refine wpList_insert_row _ rfl _ _ _ _ (.inl rfl) rfl TA.out ⟨{ data := #[68, 79, 76, 76, 65, 82, 70, 82] }, 2, 2, { data := #[115] }, true, 136⟩ v rfl rfl RF.out (fresh_of (by kernel_rfl)) Tryz.underlying69 Tryz.underlying9 ?_; intro V15 ta hg; replace TA := Lib.hid (show TableAt V15 _ (allRows.take 16) from ta); replace HL := Lib.hid (below_map HL.out (Nat.le_refl _) hg); clear ta hg RF))
  go_wp2_with fail
  refine (num_lit { data := #[73, 83, 80, 77, 84] } 4 4 { data := #[115] } 137 _).mono ?_
  rintro e W16 ⟨v, rfl, hr, hb⟩
  have RF := Lib.hid hr
  replace TA := Lib.hid (TA.out.below hb)
  replace HL := Lib.hid (HL.out.trans (hb.mono HL.out.size))
  clear hr hb
  have RG := Lib.hid (show ∀ W, RowFn W (.func (.func 139) #[] #[]) ⟨{ data := #[80, 76, 65, 78] }, 3, 4, { data := #[115] }, false, 139⟩ from fun W => by unfold RowFn; rw [if_neg (by decide)])
  go_wp2_with (first | (refine wpList_insert_row _ rfl _ _ _ _ (.inl rfl) rfl TA.out ⟨{ data := #[73, 83, 80, 77, 84] }, 4, 4, { data := #[115] }, true, 137⟩ v rfl rfl RF.out (fresh_of (by kernel_rfl)) Tryz.underlying69 Tryz.underlying9 ?_; intro V16 ta hg; replace TA := Lib.hid (show TableAt V16 _ (allRows.take 17) from ta); replace HL := Lib.hid (below_map HL.out (Nat.le_refl _) hg); clear ta hg RF) | (refine wpList_insert_row _ rfl _ _ _ _ (.inl rfl) rfl TA.out ⟨{ data := #[80, 76, 65, 78] }, 3, 4, { data := #[115] }, false, 139⟩ (.func (.func 139) #[] #[]) rfl rfl (RG.out _) (fresh_of (by kernel_rfl)) Tryz.underlying69 Tryz.underlying9 ?_; intro V17 ta hg; replace TA := Lib.hid (show TableAt V17 _ (allRows.take 18) from ta); replace HL := Lib.hid (below_map HL.out (Nat.le_refl _) hg); clear ta hg))
  go_wp2
  go_ret
  exact ⟨_, rfl, TA.out, HL.out⟩

end Go.Proofs.YtcbolipiaflfbaaGreatDoor.Num.Fy

/- package value: the closure that Run hands to Lift, at fmoney. Conditions: the tables lie as they are laid. -/
namespace Go.Proofs.YtcbolipiaflfbaaGreatDoor.Num.Fy
open Go.RowKit Go.Lib Go.MapKept Num

set_option maxHeartbeats 4000000 in
set_option maxRecDepth 100000 in
theorem run1_value (pb f e : Nat) (sl : Value) (k : Int) (n d t : ByteArray) (on : Bool) (c : Int) (A : Option Addr) (L C : Nat) (w : World) (hs : ∃ a l c, sl = .slice a l c) (hc : w.cell? ⟨pb, 3, none⟩ = some (.func (.func 252) #[] #[.pointer (some ⟨e, 0, none⟩)])) (hE : Env w)
    (hF : ∀ W, Below w.heap.size w W → Calls Tryz.prog 252 #[sl, .pointer (some ⟨e, 0, none⟩)] W fun e w' => e = .returned (.agg #[.int .i64 k, .string n, .string d, .string t, .bool on, .int .i64 c, .int .i64 0, .int .i64 0, .slice A L C]) ∧ Below W.heap.size W w') :
    Calls Tryz.prog 68 #[sl, .pointer (some ⟨pb, 0, none⟩)] w fun e w' => e = .returned (.agg #[.int .i64 k, .string n, .string d, .string t, .bool on, .int .i64 c, .int .i64 0, .int .i64 0, .slice A L C]) ∧ Below w.heap.size w w' := by
  obtain ⟨sa, slen, sc, rfl⟩ := hs
  have hmf : ∀ (fn : Fn) (first cap : Array Value) (w : World), (Instr.makeFunc fn first cap).run Tryz.prog w = .ok (.func fn first cap) w := fun _ _ _ _ => rfl
  have hb : Below w.heap.size w (w.alloc (.cells #[.int .i64 0, .string { data := #[] }, .string { data := #[] }, .string { data := #[] }, .bool false, .int .i64 0, .int .i64 0, .int .i64 0, .slice none 0 0] 27)) := (Below.refl _ _).alloc (Nat.le_refl _) _
  have HR := Lib.hid (heap_alloc_new w (.cells #[.int .i64 0, .string { data := #[] }, .string { data := #[] }, .string { data := #[] }, .bool false, .int .i64 0, .int .i64 0, .int .i64 0, .slice none 0 0] 27))
  have HX := Lib.hid (cell_below hc hb)
  have HL := Lib.hid hb
  have HE := Lib.hid (hE.below hb)
  have TF := Lib.hid (hF _ hb)
  clear hb hc hE hF
  obtain x3 := HX.out
  go_enter_defers Tryz.func68, Tryz.ntmps68
  go_wp2_with fail
  refine TF.out.mono ?_
  rintro e w1 ⟨rfl, hb⟩
  replace HR := Lib.hid (keep_block HR.out hb)
  replace HE := Lib.hid (HE.out.below hb)
  replace HL := Lib.hid (HL.out.trans (hb.mono HL.out.size))
  clear hb
  obtain ⟨⟨r0, r1, r2, r3, r4, r5, r6, r7, r8⟩, g0, g1, g2, g3, g4, g5, g6, g7, g8⟩ := nine_at HR.out
  have HR2 := Lib.hid (set9_at HR.out (.int .i64 k) (.string n) (.string d) (.string t) (.bool on) (.int .i64 c) (.int .i64 0) (.int .i64 0) (.slice A L C))
  have HL2 := Lib.hid (nine_end (x0 := (.int .i64 k)) (x1 := (.string n)) (x2 := (.string d)) (x3 := (.string t)) (x4 := (.bool on)) (x5 := (.int .i64 c)) (x6 := (.int .i64 0)) (x7 := (.int .i64 0)) (x8 := (.slice A L C)) HR.out HL.out (Nat.le_refl _)).1
  go_wp2_with fail
  obtain ⟨W2, hW2⟩ : ∃ W2, (((((((((w1.setCell ⟨w.heap.size, 0, none⟩ (.int .i64 k)).setCell ⟨w.heap.size, 1, none⟩ (.string n)).setCell ⟨w.heap.size, 2, none⟩ (.string d)).setCell ⟨w.heap.size, 3, none⟩ (.string t)).setCell ⟨w.heap.size, 4, none⟩ (.bool on)).setCell ⟨w.heap.size, 5, none⟩ (.int .i64 c)).setCell ⟨w.heap.size, 6, none⟩ (.int .i64 0)).setCell ⟨w.heap.size, 7, none⟩ (.int .i64 0)).setCell ⟨w.heap.size, 8, none⟩ (.slice A L C)) = W2 := ⟨_, rfl⟩
  rw [hW2] at HR2 HL2 ⊢
  clear hW2 r0 r1 r2 r3 r4 r5 r6 r7 r8 g0 g1 g2 g3 g4 g5 g6 g7 g8
  obtain ⟨⟨r0, r1, r2, r3, r4, r5, r6, r7, r8⟩, g0, g1, g2, g3, g4, g5, g6, g7, g8⟩ := nine_at HR2.out
  go_quiet (fail)
  have HR3 := Lib.hid (show (W2.drewN nq).heap[w.heap.size]? = _ from HR2.out)
  obtain ⟨nb, e0, e1, e2, e3, e4, e5, e6, e7, e8⟩ := nine_end (x0 := (.int .i64 k)) (x1 := (.string n)) (x2 := (.string d)) (x3 := (.string t)) (x4 := (.bool on)) (x5 := (.int .i64 c)) (x6 := (.int .i64 0)) (x7 := (.int .i64 0)) (x8 := (.slice A L C)) HR3.out (below_drewN HL2.out nq) (Nat.le_refl _)
  go_wp2
  refine leaves_cons (f := 69) (args := #[.pointer (some ⟨w.heap.size, 0, none⟩)]) (by simp) (by simp [go_sem]) ?_
  refine (idle_any _ _).mono ?_
  rintro e u' w3 ⟨rfl, rfl, rfl⟩
  exact ⟨_, (by simp [results, Tryz.results68, go_sem, e0, e1, e2, e3, e4, e5, e6, e7, e8]), rfl, nb⟩

set_option maxHeartbeats 4000000 in
set_option maxRecDepth 100000 in
theorem run1_stop (pb e : Nat) (sl : Value) (c : Int) (w : World) (hs : ∃ a l c, sl = .slice a l c) (h1 : 1 ≤ c) (h2 : c ≤ 8) (hc : w.cell? ⟨pb, 3, none⟩ = some (.func (.func 252) #[] #[.pointer (some ⟨e, 0, none⟩)])) (hE : Env w)
    (hF : ∀ W, Below w.heap.size w W → Calls Tryz.prog 252 #[sl, .pointer (some ⟨e, 0, none⟩)] W fun e w' => e = stopped c ∧ Below W.heap.size W w') :
    Calls Tryz.prog 68 #[sl, .pointer (some ⟨pb, 0, none⟩)] w fun e w' => e = .returned (faultVal c) ∧ Below w.heap.size w w' := by
  obtain ⟨sa, slen, sc, rfl⟩ := hs
  have TC := Lib.hid (fun R x0 x1 x2 x3 x4 x5 x6 x7 x8 W g g' => caught_any R c h1 h2 x0 x1 x2 x3 x4 x5 x6 x7 x8 W g g')
  rw [faultVal_is c]
  have hmf : ∀ (fn : Fn) (first cap : Array Value) (w : World), (Instr.makeFunc fn first cap).run Tryz.prog w = .ok (.func fn first cap) w := fun _ _ _ _ => rfl
  have hb : Below w.heap.size w (w.alloc (.cells #[.int .i64 0, .string { data := #[] }, .string { data := #[] }, .string { data := #[] }, .bool false, .int .i64 0, .int .i64 0, .int .i64 0, .slice none 0 0] 27)) := (Below.refl _ _).alloc (Nat.le_refl _) _
  have HR := Lib.hid (heap_alloc_new w (.cells #[.int .i64 0, .string { data := #[] }, .string { data := #[] }, .string { data := #[] }, .bool false, .int .i64 0, .int .i64 0, .int .i64 0, .slice none 0 0] 27))
  have HX := Lib.hid (cell_below hc hb)
  have HL := Lib.hid hb
  have HE := Lib.hid (hE.below hb)
  have TF := Lib.hid (hF _ hb)
  clear hb hc hE hF
  obtain x3 := HX.out
  go_enter_defers Tryz.func68, Tryz.ntmps68
  go_wp2_with fail
  refine TF.out.mono ?_
  rintro e w1 ⟨rfl, hb⟩
  replace HR := Lib.hid (keep_block HR.out hb)
  replace HE := Lib.hid (HE.out.below hb)
  replace HL := Lib.hid (HL.out.trans (hb.mono HL.out.size))
  clear hb
  unfold stopped
  go_wp2
  refine leaves_cons (f := 69) (args := #[.pointer (some ⟨w.heap.size, 0, none⟩)]) (by simp) (by simp [go_sem]) ?_
  refine (TC.out _ _ _ _ _ _ _ _ _ _ _ HR.out HE.out).mono ?_
  rintro e u' w3 ⟨rfl, rfl, hr, hg⟩
  obtain ⟨⟨e0, e1, e2, e3, e4, e5, e6, e7, e8⟩, _⟩ := nine_at hr
  exact ⟨_, (by simp [results, Tryz.results68, go_sem, e0, e1, e2, e3, e4, e5, e6, e7, e8]), rfl, HL.out.trans (below_of_only hg (Nat.le_refl _) HL.out.size)⟩
end Go.Proofs.YtcbolipiaflfbaaGreatDoor.Num.Fy

/- package value: Run at a row of fmoney's table. Conditions: the tables lie as they are laid. -/
namespace Go.Proofs.YtcbolipiaflfbaaGreatDoor.Num.Fy
open Go.RowKit Go.Lib Go.MapKept Num

/-- cell e holds the row's function -/
def FnAt (W : World) (e : Nat) (r : Row) : Prop := W.cell? ⟨e, 0, none⟩ = some (.func (.func r.fn) #[] #[])
theorem rowFn_at {w : World} {v : Value} {r : Row} (h : RowFn w v r) (hn : r.num = true) : ∃ e, v = .func (.func 252) #[] #[.pointer (some ⟨e, 0, none⟩)] ∧ FnAt w e r := by
  unfold RowFn at h
  rw [if_pos hn] at h
  exact h
theorem FnAt.below {w w' : World} {e : Nat} {r : Row} (h : FnAt w e r) (hb : Below w.heap.size w w') : FnAt w' e r := cell_below h hb
attribute [local go_sem] run_store_func

set_option maxHeartbeats 8000000 in
set_option maxRecDepth 100000 in
theorem run_a_val (i : Nat) (r : Row) (hi : i < allRows.length) (hr : allRows[i] = r) (hnum : r.num = true) (hkd : r.kinds = { data := #[97] }) (hfr : ∀ j (hj : j < i), (allRows[i].name == (allRows[j]'(by omega)).name) = false) (vs : List Val) (b ab ao C : Nat) (q : Val) (w : World) (h0 : 0 < vs.length) (h9 : vs.length ≤ 300) (hc1 : r.least ≤ vs.length) (hc2 : (vs.length : Int) ≤ r.most) (hv : ValsAt w ab ao vs) (hE : Env w) (hT : TableAt w b allRows) (hq : q.A = none ∧ q.L = 0 ∧ q.C = 0 ∧ q.r = 0 ∧ q.s = 0)
    (hO : ∀ W, Env W → Calls Tryz.prog 47 #[q.agg] W fun e w' => e = .returned (.int .i64 0) ∧ Below W.heap.size W w') 
    (hC : ∀ v ∈ vs, ∀ W, Below w.heap.size w W → Calls Tryz.prog 47 #[v.agg] W fun e w' => e = .returned (.int .i64 0) ∧ Below W.heap.size W w')
    (hK : ∀ W e g cap, Below w.heap.size w W → Env W → FnAt W e r → ValsAt W g 0 vs → Calls Tryz.prog 252 #[.slice (some ⟨g, 0, none⟩) vs.length cap, .pointer (some ⟨e, 0, none⟩)] W fun e w' => e = .returned q.agg ∧ Below W.heap.size W w') :
    Calls Tryz.prog 44 #[.map (some b), .string r.name, .slice (some ⟨ab, ao, none⟩) vs.length C] w fun e w' => e = .returned (.tuple #[(q).agg, .int .i64 0]) ∧ Below w.heap.size w w' := by
  have hb : Below w.heap.size w (w.alloc (.cells #[.int .i64 0, .string { data := #[] }, .string { data := #[] }, .string { data := #[] }, .bool false, .int .i64 0, .int .i64 0, .int .i64 0, .slice none 0 0] 27)) := (Below.refl _ _).alloc (Nat.le_refl _) _
  have HR := Lib.hid (heap_alloc_new w (.cells #[.int .i64 0, .string { data := #[] }, .string { data := #[] }, .string { data := #[] }, .bool false, .int .i64 0, .int .i64 0, .int .i64 0, .slice none 0 0] 27))
  obtain ⟨v, hrf, hrun⟩ := (hT.below hb).look i hi hfr Tryz.underlying69 Tryz.underlying9
  rw [hr] at hrf hrun
  obtain ⟨e0, rfl, hfn⟩ := rowFn_at hrf hnum
  obtain ⟨name, least, most, kinds, num, F⟩ := r
  simp only at hkd hc1 hc2
  subst hkd
  simp only at hrun ⊢
  have HV := Lib.hid (hv.below hb)
  have HE := Lib.hid (hE.below hb)
  have HL := Lib.hid hb
  have HFN := Lib.hid hfn
  have d1 : decide ((vs.length : Int) < least) = false := decide_eq_false (by omega)
  have d2 : decide (most < (vs.length : Int)) = false := decide_eq_false (by omega)
  have hmf : ∀ (fn : Fn) (first cap : Array Value) (w : World), (Instr.makeFunc fn first cap).run Tryz.prog w = .ok (.func fn first cap) w := fun _ _ _ _ => rfl
  have hb : Below (w.alloc (.cells #[.int .i64 0, .string { data := #[] }, .string { data := #[] }, .string { data := #[] }, .bool false, .int .i64 0, .int .i64 0, .int .i64 0, .slice none 0 0] 27)).heap.size (w.alloc (.cells #[.int .i64 0, .string { data := #[] }, .string { data := #[] }, .string { data := #[] }, .bool false, .int .i64 0, .int .i64 0, .int .i64 0, .slice none 0 0] 27)) ((w.alloc (.cells #[.int .i64 0, .string { data := #[] }, .string { data := #[] }, .string { data := #[] }, .bool false, .int .i64 0, .int .i64 0, .int .i64 0, .slice none 0 0] 27)).alloc (.cells #[.int .i64 least, .int .i64 most, .string { data := #[97] }, .func (.func 252) #[] #[.pointer (some ⟨e0, 0, none⟩)]] 98)) := (Below.refl _ _).alloc (Nat.le_refl _) _
  have HX := Lib.hid (Lib.cell_of_heap (heap_alloc_new (w.alloc (.cells #[.int .i64 0, .string { data := #[] }, .string { data := #[] }, .string { data := #[] }, .bool false, .int .i64 0, .int .i64 0, .int .i64 0, .slice none 0 0] 27)) (.cells #[.int .i64 least, .int .i64 most, .string { data := #[97] }, .func (.func 252) #[] #[.pointer (some ⟨e0, 0, none⟩)]] 98)) 3)
  replace HR := Lib.hid (keep_block HR.out hb)
  replace HV := Lib.hid (HV.out.below hb)
  replace HE := Lib.hid (HE.out.below hb)
  replace HL := Lib.hid (HL.out.trans (hb.mono HL.out.size))
  replace HFN := Lib.hid (HFN.out.below hb)
  have hpos : (w.alloc (.cells #[.int .i64 0, .string { data := #[] }, .string { data := #[] }, .string { data := #[] }, .bool false, .int .i64 0, .int .i64 0, .int .i64 0, .slice none 0 0] 27)).heap.size = w.heap.size + 1 := by simp
  rw [hpos] at HX
  have TL := Lib.hid (lift_a vs ab ao C (w.heap.size + 1) (q) ((w.alloc (.cells #[.int .i64 0, .string { data := #[] }, .string { data := #[] }, .string { data := #[] }, .bool false, .int .i64 0, .int .i64 0, .int .i64 0, .slice none 0 0] 27)).alloc (.cells #[.int .i64 least, .int .i64 most, .string { data := #[97] }, .func (.func 252) #[] #[.pointer (some ⟨e0, 0, none⟩)]] 98)) h0 h9 HV.out HE.out ⟨hq.1, hq.2.1, hq.2.2.1⟩
    (fun v hv W h => hC v hv W (HL.out.trans (h.mono HL.out.size))) (hO)
    (fun W g cap hbw hva => by
      have h := run1_value (w.heap.size + 1) 0 e0 (.slice (some ⟨g, 0, none⟩) vs.length cap) q.k q.n q.d q.t q.on q.c q.A q.L q.C W ⟨_, _, _, rfl⟩ (cell_below HX.out hbw) (HE.out.below hbw) (fun W' hb' => by
        have h2 := hK W' e0 g cap (HL.out.trans ((hbw.trans (hb'.mono hbw.size)).mono HL.out.size)) (HE.out.below (hbw.trans (hb'.mono hbw.size))) (HFN.out.below (hbw.trans (hb'.mono hbw.size))) (hva.below hb')
        unfold Val.agg at h2
        rw [hq.2.2.2.1, hq.2.2.2.2] at h2
        exact h2)
      unfold Val.agg
      rw [hq.2.2.2.1, hq.2.2.2.2]
      exact h))
  obtain ⟨qq, hqq⟩ : ∃ z, (q) = z := ⟨_, rfl⟩
  rw [hqq] at TL ⊢
  clear hqq hb hv hE hT hC hK hrf hfn hpos hfr hr hnum hi h0 h9 hc1 hc2
  go_enter Tryz.func44, Tryz.ntmps44
  unfold Val.agg at TL ⊢
  go_wp2_with fail
  refine TL.out.mono ?_
  rintro e w2 ⟨rfl, hb2⟩
  replace HR := Lib.hid (keep_block HR.out hb2)
  replace HL := Lib.hid (HL.out.trans (hb2.mono HL.out.size))
  clear hb2
  obtain ⟨⟨r0, r1, r2, r3, r4, r5, r6, r7, r8⟩, g0, g1, g2, g3, g4, g5, g6, g7, g8⟩ := nine_at HR.out
  obtain ⟨nb, z0, z1, z2, z3, z4, z5, z6, z7, z8⟩ := nine_end (x0 := (.int .i64 qq.k)) (x1 := (.string qq.n)) (x2 := (.string qq.d)) (x3 := (.string qq.t)) (x4 := (.bool qq.on)) (x5 := (.int .i64 qq.c)) (x6 := (.int .i64 qq.r)) (x7 := (.int .i64 qq.s)) (x8 := (.slice qq.A qq.L qq.C)) HR.out HL.out (Nat.le_refl _)
  go_wp2
  refine bodyPost_ret (v := .tuple #[.agg #[.int .i64 qq.k, .string qq.n, .string qq.d, .string qq.t, .bool qq.on, .int .i64 qq.c, .int .i64 qq.r, .int .i64 qq.s, .slice qq.A qq.L qq.C], .int .i64 0]) (by simp [results, Tryz.results44, go_sem, z0, z1, z2, z3, z4, z5, z6, z7, z8]) rfl ⟨rfl, nb⟩

set_option maxHeartbeats 8000000 in
set_option maxRecDepth 100000 in
theorem run_a_stop (i : Nat) (r : Row) (hi : i < allRows.length) (hr : allRows[i] = r) (hnum : r.num = true) (hkd : r.kinds = { data := #[97] }) (hfr : ∀ j (hj : j < i), (allRows[i].name == (allRows[j]'(by omega)).name) = false) (vs : List Val) (b ab ao C : Nat) (c : Int) (w : World) (h0 : 0 < vs.length) (h9 : vs.length ≤ 300) (hc1 : r.least ≤ vs.length) (hc2 : (vs.length : Int) ≤ r.most) (hv : ValsAt w ab ao vs) (hE : Env w) (hT : TableAt w b allRows) (h1 : 1 ≤ c) (h2 : c ≤ 8) 
    (hC : ∀ v ∈ vs, ∀ W, Below w.heap.size w W → Calls Tryz.prog 47 #[v.agg] W fun e w' => e = .returned (.int .i64 0) ∧ Below W.heap.size W w')
    (hK : ∀ W e g cap, Below w.heap.size w W → Env W → FnAt W e r → ValsAt W g 0 vs → Calls Tryz.prog 252 #[.slice (some ⟨g, 0, none⟩) vs.length cap, .pointer (some ⟨e, 0, none⟩)] W fun e w' => e = stopped c ∧ Below W.heap.size W w') :
    Calls Tryz.prog 44 #[.map (some b), .string r.name, .slice (some ⟨ab, ao, none⟩) vs.length C] w fun e w' => e = .returned (.tuple #[(faultVal' c).agg, .int .i64 0]) ∧ Below w.heap.size w w' := by
  have hb : Below w.heap.size w (w.alloc (.cells #[.int .i64 0, .string { data := #[] }, .string { data := #[] }, .string { data := #[] }, .bool false, .int .i64 0, .int .i64 0, .int .i64 0, .slice none 0 0] 27)) := (Below.refl _ _).alloc (Nat.le_refl _) _
  have HR := Lib.hid (heap_alloc_new w (.cells #[.int .i64 0, .string { data := #[] }, .string { data := #[] }, .string { data := #[] }, .bool false, .int .i64 0, .int .i64 0, .int .i64 0, .slice none 0 0] 27))
  obtain ⟨v, hrf, hrun⟩ := (hT.below hb).look i hi hfr Tryz.underlying69 Tryz.underlying9
  rw [hr] at hrf hrun
  obtain ⟨e0, rfl, hfn⟩ := rowFn_at hrf hnum
  obtain ⟨name, least, most, kinds, num, F⟩ := r
  simp only at hkd hc1 hc2
  subst hkd
  simp only at hrun ⊢
  have HV := Lib.hid (hv.below hb)
  have HE := Lib.hid (hE.below hb)
  have HL := Lib.hid hb
  have HFN := Lib.hid hfn
  have d1 : decide ((vs.length : Int) < least) = false := decide_eq_false (by omega)
  have d2 : decide (most < (vs.length : Int)) = false := decide_eq_false (by omega)
  have hmf : ∀ (fn : Fn) (first cap : Array Value) (w : World), (Instr.makeFunc fn first cap).run Tryz.prog w = .ok (.func fn first cap) w := fun _ _ _ _ => rfl
  have hb : Below (w.alloc (.cells #[.int .i64 0, .string { data := #[] }, .string { data := #[] }, .string { data := #[] }, .bool false, .int .i64 0, .int .i64 0, .int .i64 0, .slice none 0 0] 27)).heap.size (w.alloc (.cells #[.int .i64 0, .string { data := #[] }, .string { data := #[] }, .string { data := #[] }, .bool false, .int .i64 0, .int .i64 0, .int .i64 0, .slice none 0 0] 27)) ((w.alloc (.cells #[.int .i64 0, .string { data := #[] }, .string { data := #[] }, .string { data := #[] }, .bool false, .int .i64 0, .int .i64 0, .int .i64 0, .slice none 0 0] 27)).alloc (.cells #[.int .i64 least, .int .i64 most, .string { data := #[97] }, .func (.func 252) #[] #[.pointer (some ⟨e0, 0, none⟩)]] 98)) := (Below.refl _ _).alloc (Nat.le_refl _) _
  have HX := Lib.hid (Lib.cell_of_heap (heap_alloc_new (w.alloc (.cells #[.int .i64 0, .string { data := #[] }, .string { data := #[] }, .string { data := #[] }, .bool false, .int .i64 0, .int .i64 0, .int .i64 0, .slice none 0 0] 27)) (.cells #[.int .i64 least, .int .i64 most, .string { data := #[97] }, .func (.func 252) #[] #[.pointer (some ⟨e0, 0, none⟩)]] 98)) 3)
  replace HR := Lib.hid (keep_block HR.out hb)
  replace HV := Lib.hid (HV.out.below hb)
  replace HE := Lib.hid (HE.out.below hb)
  replace HL := Lib.hid (HL.out.trans (hb.mono HL.out.size))
  replace HFN := Lib.hid (HFN.out.below hb)
  have hpos : (w.alloc (.cells #[.int .i64 0, .string { data := #[] }, .string { data := #[] }, .string { data := #[] }, .bool false, .int .i64 0, .int .i64 0, .int .i64 0, .slice none 0 0] 27)).heap.size = w.heap.size + 1 := by simp
  rw [hpos] at HX
  have TL := Lib.hid (lift_a vs ab ao C (w.heap.size + 1) (faultVal' c) ((w.alloc (.cells #[.int .i64 0, .string { data := #[] }, .string { data := #[] }, .string { data := #[] }, .bool false, .int .i64 0, .int .i64 0, .int .i64 0, .slice none 0 0] 27)).alloc (.cells #[.int .i64 least, .int .i64 most, .string { data := #[97] }, .func (.func 252) #[] #[.pointer (some ⟨e0, 0, none⟩)]] 98)) h0 h9 HV.out HE.out ⟨rfl, rfl, rfl⟩
    (fun v hv W h => hC v hv W (HL.out.trans (h.mono HL.out.size))) (fun W g => check_fault c W h1 h2 g)
    (fun W g cap hbw hva => run1_stop (w.heap.size + 1) e0 (.slice (some ⟨g, 0, none⟩) vs.length cap) c W ⟨_, _, _, rfl⟩ h1 h2 (cell_below HX.out hbw) (HE.out.below hbw) (fun W' hb' => hK W' e0 g cap (HL.out.trans ((hbw.trans (hb'.mono hbw.size)).mono HL.out.size)) (HE.out.below (hbw.trans (hb'.mono hbw.size))) (HFN.out.below (hbw.trans (hb'.mono hbw.size))) (hva.below hb'))))
  obtain ⟨qq, hqq⟩ : ∃ z, (faultVal' c) = z := ⟨_, rfl⟩
  rw [hqq] at TL ⊢
  clear hqq hb hv hE hT hC hK hrf hfn hpos hfr hr hnum hi h0 h9 hc1 hc2
  go_enter Tryz.func44, Tryz.ntmps44
  unfold Val.agg at TL ⊢
  go_wp2_with fail
  refine TL.out.mono ?_
  rintro e w2 ⟨rfl, hb2⟩
  replace HR := Lib.hid (keep_block HR.out hb2)
  replace HL := Lib.hid (HL.out.trans (hb2.mono HL.out.size))
  clear hb2
  obtain ⟨⟨r0, r1, r2, r3, r4, r5, r6, r7, r8⟩, g0, g1, g2, g3, g4, g5, g6, g7, g8⟩ := nine_at HR.out
  obtain ⟨nb, z0, z1, z2, z3, z4, z5, z6, z7, z8⟩ := nine_end (x0 := (.int .i64 qq.k)) (x1 := (.string qq.n)) (x2 := (.string qq.d)) (x3 := (.string qq.t)) (x4 := (.bool qq.on)) (x5 := (.int .i64 qq.c)) (x6 := (.int .i64 qq.r)) (x7 := (.int .i64 qq.s)) (x8 := (.slice qq.A qq.L qq.C)) HR.out HL.out (Nat.le_refl _)
  go_wp2
  refine bodyPost_ret (v := .tuple #[.agg #[.int .i64 qq.k, .string qq.n, .string qq.d, .string qq.t, .bool qq.on, .int .i64 qq.c, .int .i64 qq.r, .int .i64 qq.s, .slice qq.A qq.L qq.C], .int .i64 0]) (by simp [results, Tryz.results44, go_sem, z0, z1, z2, z3, z4, z5, z6, z7, z8]) rfl ⟨rfl, nb⟩

end Go.Proofs.YtcbolipiaflfbaaGreatDoor.Num.Fy

/- package fmoney's Call, the law's own call, the closures that wrap a function of the table. Conditions: the tables lie as they are laid. -/
namespace Go.Proofs.YtcbolipiaflfbaaGreatDoor.Num.Fy
open Go.RowKit Go.Lib Go.MapKept Num

set_option maxHeartbeats 4000000 in
set_option maxRecDepth 100000 in
theorem call_of (name : ByteArray) (sl : Value) (q : Val) (w : World) (hs : ∃ a l c, sl = .slice a l c)
    (hRun : ∀ W b, Below w.heap.size w W → TableAt W b allRows → Calls Tryz.prog 44 #[.map (some b), .string name, sl] W fun e w' => e = .returned (.tuple #[q.agg, .int .i64 0]) ∧ Below W.heap.size W w') :
    Calls Tryz.prog 29 #[.string name, sl] w fun e w' => e = .returned (.tuple #[q.agg, .int .i64 0]) ∧ Below w.heap.size w w' := by
  obtain ⟨sa, slen, sc, rfl⟩ := hs
  have hb : Below w.heap.size w (w.alloc (.cells #[.int .i64 0, .string { data := #[] }, .string { data := #[] }, .string { data := #[] }, .bool false, .int .i64 0, .int .i64 0, .int .i64 0, .slice none 0 0] 27)) := (Below.refl _ _).alloc (Nat.le_refl _) _
  have HR := Lib.hid (heap_alloc_new w (.cells #[.int .i64 0, .string { data := #[] }, .string { data := #[] }, .string { data := #[] }, .bool false, .int .i64 0, .int .i64 0, .int .i64 0, .slice none 0 0] 27))
  have HL := Lib.hid hb
  have TR := Lib.hid hRun
  unfold Val.agg at TR ⊢
  clear hRun hb
  go_enter Tryz.func29, Tryz.ntmps29
  go_wp2_with fail
  refine (table_any _).mono ?_
  rintro e W1 ⟨b, rfl, ht, hb⟩
  have HT := Lib.hid ht
  clear ht
  replace HR := Lib.hid (keep_block HR.out hb)
  replace HL := Lib.hid (HL.out.trans (hb.mono HL.out.size))
  clear hb
  go_wp2_with fail
  refine (TR.out _ _ HL.out HT.out).mono ?_
  rintro e W2 ⟨rfl, hb⟩
  replace HR := Lib.hid (keep_block HR.out hb)
  replace HL := Lib.hid (HL.out.trans (hb.mono HL.out.size))
  clear hb
  obtain ⟨⟨r0, r1, r2, r3, r4, r5, r6, r7, r8⟩, g0, g1, g2, g3, g4, g5, g6, g7, g8⟩ := nine_at HR.out
  obtain ⟨nb, z0, z1, z2, z3, z4, z5, z6, z7, z8⟩ := nine_end (x0 := (.int .i64 q.k)) (x1 := (.string q.n)) (x2 := (.string q.d)) (x3 := (.string q.t)) (x4 := (.bool q.on)) (x5 := (.int .i64 q.c)) (x6 := (.int .i64 q.r)) (x7 := (.int .i64 q.s)) (x8 := (.slice q.A q.L q.C)) HR.out HL.out (Nat.le_refl _)
  go_wp2
  refine bodyPost_ret (v := .tuple #[.agg #[.int .i64 q.k, .string q.n, .string q.d, .string q.t, .bool q.on, .int .i64 q.c, .int .i64 q.r, .int .i64 q.s, .slice q.A q.L q.C], .int .i64 0]) (by simp [results, Tryz.results29, go_sem, z0, z1, z2, z3, z4, z5, z6, z7, z8]) rfl ⟨rfl, nb⟩

set_option maxHeartbeats 4000000 in
set_option maxRecDepth 100000 in
theorem math_of (name : ByteArray) (sl : Value) (q : Val) (w : World) (hs : ∃ a l c, sl = .slice a l c)
    (hRun : ∀ W b, Below w.heap.size w W → TableAt W b allRows → Calls Tryz.prog 44 #[.map (some b), .string name, sl] W fun e w' => e = .returned (.tuple #[q.agg, .int .i64 0]) ∧ Below W.heap.size W w') :
    Calls Tryz.prog 13 #[.string name, sl] w fun e w' => e = .returned q.agg ∧ Below w.heap.size w w' := by
  have hb : Below w.heap.size w (w.alloc (.cells #[.int .i64 0, .string { data := #[] }, .string { data := #[] }, .string { data := #[] }, .bool false, .int .i64 0, .int .i64 0, .int .i64 0, .slice none 0 0] 27)) := (Below.refl _ _).alloc (Nat.le_refl _) _
  have HR := Lib.hid (heap_alloc_new w (.cells #[.int .i64 0, .string { data := #[] }, .string { data := #[] }, .string { data := #[] }, .bool false, .int .i64 0, .int .i64 0, .int .i64 0, .slice none 0 0] 27))
  have HL := Lib.hid hb
  have TC := Lib.hid (call_of name sl q (w.alloc (.cells #[.int .i64 0, .string { data := #[] }, .string { data := #[] }, .string { data := #[] }, .bool false, .int .i64 0, .int .i64 0, .int .i64 0, .slice none 0 0] 27)) hs (fun W b h => hRun W b (hb.trans (h.mono hb.size))))
  obtain ⟨sa, slen, sc, rfl⟩ := hs
  unfold Val.agg at TC ⊢
  clear hRun hb
  go_enter Tryz.func13, Tryz.ntmps13
  go_wp2_with fail
  refine TC.out.mono ?_
  rintro e W1 ⟨rfl, hb⟩
  replace HR := Lib.hid (keep_block HR.out hb)
  replace HL := Lib.hid (HL.out.trans (hb.mono HL.out.size))
  clear hb
  have hlt := heap_lt HR.out
  obtain ⟨⟨r0, r1, r2, r3, r4, r5, r6, r7, r8⟩, g0, g1, g2, g3, g4, g5, g6, g7, g8⟩ := nine_at HR.out
  have HF1 := Lib.hid (set9_at HR.out (.int .i64 q.k) (.string q.n) (.string q.d) (.string q.t) (.bool q.on) (.int .i64 q.c) (.int .i64 q.r) (.int .i64 q.s) (.slice q.A q.L q.C))
  have HF2 := Lib.hid ((Below.heap_alloc _ (.cells #[.int .i64 q.k, .string q.n, .string q.d, .string q.t, .bool q.on, .int .i64 q.c, .int .i64 q.r, .int .i64 q.s, .slice q.A q.L q.C] 27) _ (heap_lt HF1.out)).trans HF1.out)
  have HB2 := Lib.hid (nine_end (x0 := (.int .i64 q.k)) (x1 := (.string q.n)) (x2 := (.string q.d)) (x3 := (.string q.t)) (x4 := (.bool q.on)) (x5 := (.int .i64 q.c)) (x6 := (.int .i64 q.r)) (x7 := (.int .i64 q.s)) (x8 := (.slice q.A q.L q.C)) HR.out HL.out (Nat.le_refl _)).1
  have HZ2 := Lib.hid (HB2.out.alloc HB2.out.size (.cells #[.int .i64 q.k, .string q.n, .string q.d, .string q.t, .bool q.on, .int .i64 q.c, .int .i64 q.r, .int .i64 q.s, .slice q.A q.L q.C] 27))
  have HA := Lib.hid ((Below.heap_alloc W1 (.cells #[.int .i64 q.k, .string q.n, .string q.d, .string q.t, .bool q.on, .int .i64 q.c, .int .i64 q.r, .int .i64 q.s, .slice q.A q.L q.C] 27) _ hlt).trans HR.out)
  obtain ⟨⟨a0, a1, a2, a3, a4, a5, a6, a7, a8⟩, b0, b1, b2, b3, b4, b5, b6, b7, b8⟩ := nine_at HA.out
  obtain ⟨⟨z0, z1, z2, z3, z4, z5, z6, z7, z8⟩, _⟩ := nine_at HF2.out
  go_wp2
  refine bodyPost_ret (v := .agg #[.int .i64 q.k, .string q.n, .string q.d, .string q.t, .bool q.on, .int .i64 q.c, .int .i64 q.r, .int .i64 q.s, .slice q.A q.L q.C]) (by simp [results, Tryz.results13, go_sem, z0, z1, z2, z3, z4, z5, z6, z7, z8]) rfl ⟨rfl, HZ2.out⟩

set_option maxHeartbeats 4000000 in
set_option maxRecDepth 100000 in
theorem entryn_val (r : Row) (g cap e : Nat) (vs : List Val) (q : Rat) (w : World) (hfn : FnAt w e r) (eF : ∀ args w, (callFunc r.fn args).run Tryz.prog w = .ok (.enter r.fn args) w) (hE : Env w) (hv : ValsAt w g 0 vs) (hq : fits q = true)
    (hF : ∀ W b, Below w.heap.size w W → Env W → Past b → b < W.heap.size → ArgsAt W b (some ⟨g, 0, none⟩) vs.length cap 0 → ValsAt W g 0 vs → g ≠ b → Calls Tryz.prog r.fn #[.pointer (some ⟨b, 0, none⟩)] W fun e w' => e = .returned (fracV q) ∧ W.grownBy w' (some b)) (hv0 : 0 < vs.length) :
    Calls Tryz.prog 252 #[.slice (some ⟨g, 0, none⟩) vs.length cap, .pointer (some ⟨e, 0, none⟩)] w fun e w' => e = .returned (numVal q) ∧ Below w.heap.size w w' := by
  unfold FnAt at hfn
  have he := hfn
  obtain ⟨hR, hB, hb⟩ := two_new w (.cells #[.int .i64 0, .string { data := #[] }, .string { data := #[] }, .string { data := #[] }, .bool false, .int .i64 0, .int .i64 0, .int .i64 0, .slice none 0 0] 27) (.cells #[.slice (some ⟨g, 0, none⟩) vs.length cap, .int .i64 0] 123)
  have HR := Lib.hid hR
  have HL := Lib.hid hb
  have HX := Lib.hid (cell_below he ((Below.refl w.heap.size w).alloc (Nat.le_refl _) (.cells #[.int .i64 0, .string { data := #[] }, .string { data := #[] }, .string { data := #[] }, .bool false, .int .i64 0, .int .i64 0, .int .i64 0, .slice none 0 0] 27)))
  have HE := Lib.hid (hE.below hb)
  have hgl : g < w.heap.size := cell_lt (hv.at 0 hv0).1
  have TN := Lib.hid ((fun W h => hF W (w.heap.size + 1) (hb.trans (h.mono hb.size)) ((hE.below hb).below h) (hE.past (Nat.le_succ _)) (by have := h.size; simp at this; omega) (keep_block hB h) ((hv.below hb).below h) (by omega)) _ (Below.refl _ _))
  have hqf := hq
  have HP := Lib.hid (hE.past (Nat.le_succ _) (b := w.heap.size + 1))
  have TV := Lib.hid (fun W g => number_any q W hqf g)
  rw [numVal_is q] at TV ⊢
  rw [fracV_is q] at TV TN
  clear hR hB hb he hF hE hv hgl hqf hq
  obtain x0 := HX.out
  go_enter Tryz.func252, Tryz.ntmps252
  go_wp2_with fail
  refine TN.out.mono ?_
  rintro e W1 ⟨rfl, hg⟩
  replace HR := Lib.hid (kept_block HR.out hg (by omega))
  have HG := Lib.hid (below_map HL.out (Nat.le_succ _) hg)
  replace HE := Lib.hid (HE.out.kept hg HP.out)
  clear hg x0 HX
  go_wp2_with fail
  refine (TV.out _ HE.out).mono ?_
  rintro e W2 ⟨rfl, hb⟩
  replace HR := Lib.hid (keep_block HR.out hb)
  replace HG := Lib.hid (HG.out.trans (hb.mono HG.out.size))
  clear hb
  obtain ⟨⟨r0, r1, r2, r3, r4, r5, r6, r7, r8⟩, g0, g1, g2, g3, g4, g5, g6, g7, g8⟩ := nine_at HR.out
  obtain ⟨nb, z0, z1, z2, z3, z4, z5, z6, z7, z8⟩ := nine_end (x0 := (.int .i64 1)) (x1 := (.string (numS q))) (x2 := (.string (denS q))) (x3 := (.string { data := #[] })) (x4 := (.bool false)) (x5 := (.int .i64 0)) (x6 := (.int .i64 0)) (x7 := (.int .i64 0)) (x8 := (.slice none 0 0)) HR.out HG.out (Nat.le_refl _)
  go_wp2
  refine bodyPost_ret (v := .agg #[.int .i64 1, .string (numS q), .string (denS q), .string { data := #[] }, .bool false, .int .i64 0, .int .i64 0, .int .i64 0, .slice none 0 0]) (by simp [results, Tryz.results252, go_sem, z0, z1, z2, z3, z4, z5, z6, z7, z8]) rfl ⟨rfl, nb⟩

end Go.Proofs.YtcbolipiaflfbaaGreatDoor.Num.Fy

/- the law's call of fmoney at a function of numbers. Conditions: the tables lie as they are laid. -/
namespace Go.Proofs.YtcbolipiaflfbaaGreatDoor.Num.Fy
open Go.RowKit Go.Lib Go.MapKept Num

end Go.Proofs.YtcbolipiaflfbaaGreatDoor.Num.Fy

/- the law's call of fmoney at a function of any values. Conditions: the tables lie as they are laid. -/
namespace Go.Proofs.YtcbolipiaflfbaaGreatDoor.Num.Fy
open Go.RowKit Go.Lib Go.MapKept Num

theorem call_na (i : Nat) (r : Row) (hi : i < allRows.length) (hr : allRows[i] = r) (hkd : r.kinds = { data := #[97] }) (hfr : ∀ j (hj : j < i), (allRows[i].name == (allRows[j]'(by omega)).name) = false) (hnum : r.num = true) (eF : ∀ args w, (callFunc r.fn args).run Tryz.prog w = .ok (.enter r.fn args) w) (vs : List Val) (ab ao C : Nat) (q : Rat) (w : World) (h0 : 0 < vs.length) (h9 : vs.length ≤ 300) (hc1 : r.least ≤ vs.length) (hc2 : (vs.length : Int) ≤ r.most)  (hv : ValsAt w ab ao vs) (hE : EnvY w) (hck : ∀ v ∈ vs, ∀ W, Below w.heap.size w W → Calls Tryz.prog 47 #[v.agg] W fun e w' => e = .returned (.int .i64 0) ∧ Below W.heap.size W w') (hq : fits q = true)
    (hF : ∀ W b g cap, Below w.heap.size w W → EnvY W → Past b → b < W.heap.size → g < W.heap.size → ArgsAt W b (some ⟨g, 0, none⟩) vs.length cap 0 → ValsAt W g 0 vs → g ≠ b → Calls Tryz.prog r.fn #[.pointer (some ⟨b, 0, none⟩)] W fun e w' => e = .returned (fracV q) ∧ W.grownBy w' (some b)) :
    Calls Tryz.prog 13 #[.string r.name, .slice (some ⟨ab, ao, none⟩) vs.length C] w fun e w' => e = .returned (numVal q) ∧ Below w.heap.size w w' :=
  math_of r.name (.slice (some ⟨ab, ao, none⟩) vs.length C) (numVal' q) w ⟨_, _, _, rfl⟩ (fun W b hb hT =>
    run_a_val i r hi hr hnum hkd hfr vs b ab ao C (numVal' q) W h0 h9 hc1 hc2 (hv.below hb) (hE.e.below hb) hT ⟨rfl, rfl, rfl, rfl, rfl⟩ (fun W g => check_num q W hq g)
      (fun v hv' W' h => hck v hv' W' (hb.trans (h.mono hb.size)))
      (fun W' e g cap hb' hE' hfn hva => entryn_val r g cap e vs q W' hfn eF hE' hva hq (fun W'' b' hb'' hE'' hP hlt ha hva' hne =>
        have hbb := hb.trans ((hb'.trans (hb''.mono hb'.size)).mono hb.size)
        hF W'' b' g cap hbb (hE.of hbb hE'') hP hlt (cell_lt (hva'.at 0 h0).1) ha hva' hne) h0))

end Go.Proofs.YtcbolipiaflfbaaGreatDoor.Num.Fy

/- the law's call of fmoney at a function of any values that stops. Conditions: the tables lie as they are laid. -/
namespace Go.Proofs.YtcbolipiaflfbaaGreatDoor.Num.Fy
open Go.RowKit Go.Lib Go.MapKept Num

set_option linter.unusedSimpArgs false in
set_option linter.unusedVariables false in
set_option maxHeartbeats 4000000 in
set_option maxRecDepth 100000 in
theorem entryn_stop (r : Row) (g cap e : Nat) (vs : List Val) (c : Int) (w : World) (hfn : FnAt w e r) (eF : ∀ args w, (callFunc r.fn args).run Tryz.prog w = .ok (.enter r.fn args) w) (hE : Env w) (hv : ValsAt w g 0 vs)
    (hF : ∀ W b, Below w.heap.size w W → Env W → Past b → b < W.heap.size → ArgsAt W b (some ⟨g, 0, none⟩) vs.length cap 0 → ValsAt W g 0 vs → g ≠ b → Calls Tryz.prog r.fn #[.pointer (some ⟨b, 0, none⟩)] W fun e w' => e = stopped c ∧ W.grownBy w' (some b)) (hv0 : 0 < vs.length) :
    Calls Tryz.prog 252 #[.slice (some ⟨g, 0, none⟩) vs.length cap, .pointer (some ⟨e, 0, none⟩)] w fun e w' => e = stopped c ∧ Below w.heap.size w w' := by
  unfold FnAt at hfn
  have he := hfn
  obtain ⟨hR, hB, hb⟩ := two_new w (.cells #[.int .i64 0, .string { data := #[] }, .string { data := #[] }, .string { data := #[] }, .bool false, .int .i64 0, .int .i64 0, .int .i64 0, .slice none 0 0] 27) (.cells #[.slice (some ⟨g, 0, none⟩) vs.length cap, .int .i64 0] 123)
  have HL := Lib.hid hb
  have HX := Lib.hid (cell_below he ((Below.refl w.heap.size w).alloc (Nat.le_refl _) (.cells #[.int .i64 0, .string { data := #[] }, .string { data := #[] }, .string { data := #[] }, .bool false, .int .i64 0, .int .i64 0, .int .i64 0, .slice none 0 0] 27)))
  have hgl : g < w.heap.size := cell_lt (hv.at 0 hv0).1
  have TN := Lib.hid ((fun W h => hF W (w.heap.size + 1) (hb.trans (h.mono hb.size)) ((hE.below hb).below h) (hE.past (Nat.le_succ _)) (by have := h.size; simp at this; omega) (keep_block hB h) ((hv.below hb).below h) (by omega)) _ (Below.refl _ _))
  clear hR hB hb he hF hE hv hgl
  obtain x0 := HX.out
  go_enter Tryz.func252, Tryz.ntmps252
  go_wp2_with fail
  refine TN.out.mono ?_
  rintro e W1 ⟨rfl, hg⟩
  have HG := Lib.hid (below_map HL.out (Nat.le_succ _) hg)
  clear hg
  unfold stopped
  go_wp2
  exact ⟨rfl, rfl, HG.out⟩

theorem call_na_stop (i : Nat) (r : Row) (hi : i < allRows.length) (hr : allRows[i] = r) (hkd : r.kinds = { data := #[97] }) (hfr : ∀ j (hj : j < i), (allRows[i].name == (allRows[j]'(by omega)).name) = false) (hnum : r.num = true) (eF : ∀ args w, (callFunc r.fn args).run Tryz.prog w = .ok (.enter r.fn args) w) (vs : List Val) (ab ao C : Nat) (c : Int) (w : World) (h0 : 0 < vs.length) (h9 : vs.length ≤ 300) (hc1 : r.least ≤ vs.length) (hc2 : (vs.length : Int) ≤ r.most) (hv : ValsAt w ab ao vs) (hE : EnvY w) (hck : ∀ v ∈ vs, ∀ W, Below w.heap.size w W → Calls Tryz.prog 47 #[v.agg] W fun e w' => e = .returned (.int .i64 0) ∧ Below W.heap.size W w') (h1 : 1 ≤ c) (h2 : c ≤ 8)
    (hF : ∀ W b g cap, Below w.heap.size w W → EnvY W → Past b → b < W.heap.size → g < W.heap.size → ArgsAt W b (some ⟨g, 0, none⟩) vs.length cap 0 → ValsAt W g 0 vs → g ≠ b → Calls Tryz.prog r.fn #[.pointer (some ⟨b, 0, none⟩)] W fun e w' => e = stopped c ∧ W.grownBy w' (some b)) :
    Calls Tryz.prog 13 #[.string r.name, .slice (some ⟨ab, ao, none⟩) vs.length C] w fun e w' => e = .returned (faultVal c) ∧ Below w.heap.size w w' :=
  math_of r.name (.slice (some ⟨ab, ao, none⟩) vs.length C) (faultVal' c) w ⟨_, _, _, rfl⟩ (fun W b hb hT =>
    run_a_stop i r hi hr hnum hkd hfr vs b ab ao C c W h0 h9 hc1 hc2 (hv.below hb) (hE.e.below hb) hT h1 h2
      (fun v hv' W' h => hck v hv' W' (hb.trans (h.mono hb.size)))
      (fun W' e g cap hb' hE' hfn hva => entryn_stop r g cap e vs c W' hfn eF hE' hva (fun W'' b' hb'' hE'' hP hlt ha hva' hne =>
        have hbb := hb.trans ((hb'.trans (hb''.mono hb'.size)).mono hb.size)
        hF W'' b' g cap hbb (hE.of hbb hE'') hP hlt (cell_lt (hva'.at 0 h0).1) ha hva' hne) h0))
end Go.Proofs.YtcbolipiaflfbaaGreatDoor.Num.Fy

/- package fmoney at loans of at most 24 periods: loan, future, payment, part. Conditions: rates of -9 to 30 hundredths; the tables lie as they are laid. -/
namespace Go.Proofs.YtcbolipiaflfbaaGreatDoor.Num.Fy
open Go.RowKit Go.Lib Num

/-- the variable one, as it is read -/
def oneV : Value := .agg #[.string { data := #[49] }, .string { data := #[49] }]
/-- the terms of a loan as a value -/
def termsV (r g s : Rat) : Value := .agg #[.string (numS r), .string (denS r), .string (numS g), .string (denS g), .string (numS s), .string (denS s)]
theorem f1 : fits (1 : Rat) = true := fits_int 1 (by decide)
theorem f0 : fits (0 : Rat) = true := fits_int 0 (by decide)
theorem c_add {p q r : Rat} (hp : fits p = true) (hq : fits q = true) (hr : fits r = true) (e : p + q = r) : Fun2 116 (fracV p) (fracV q) (fracV r) := fun W g => by
  subst e; exact y_add p q W hp hq hr g.e
theorem c_sub {p q r : Rat} (hp : fits p = true) (hq : fits q = true) (hr : fits r = true) (e : p - q = r) : Fun2 131 (fracV p) (fracV q) (fracV r) := fun W g => by
  subst e; exact y_sub p q W hp hq hr g.e
theorem c_mul {p q r : Rat} (hp : fits p = true) (hq : fits q = true) (hr : fits r = true) (e : p * q = r) : Fun2 117 (fracV p) (fracV q) (fracV r) := fun W g => by
  subst e; exact y_mul p q W hp hq hr g.e
theorem c_div {p q r : Rat} (hp : fits p = true) (hq : fits q = true) (h0 : q ≠ 0) (hr : fits r = true) (e : p / q = r) : Fun2 115 (fracV p) (fracV q) (fracV r) := fun W g => by
  subst e; exact y_div p q W hp hq h0 hr g.e
theorem c_neg {q r : Rat} (hq : fits q = true) (e : -q = r) : Fun1 114 (fracV q) (fracV r) := fun W g => by
  subst e; exact y_neg q W hq g.e
theorem c_add1 {q : Rat} (hq : fits q = true) (hr : fits (1 + q) = true) : Fun2 116 oneV (fracV q) (fracV (1 + q)) := fun W g => by
  have T := y_add 1 q W f1 hq hr g.e
  rw [one_is] at T
  exact T
theorem c_sub1 {q : Rat} (hq : fits q = true) (hr : fits (q - 1) = true) : Fun2 131 (fracV q) oneV (fracV (q - 1)) := fun W g => by
  have T := y_sub q 1 W hq f1 hr g.e
  rw [one_is] at T
  exact T
theorem c_sign {q : Rat} (hq : fits q = true) : Fun1 256 (fracV q) (.int .i64 (cmpR q 0)) := fun W g => y_sign q W hq g.e
theorem c_of {n : Int} (h : n.natAbs ≤ 1000000000) : Fun1 25 (.int .i64 n) (fracV ((n : Int) : Rat)) := fun W g => of_any n W (by omega) (by omega) g.e.tab
theorem cmp_zero {q : Rat} (h : q = 0) : cmpR q 0 = 0 := by unfold cmpR; rw [if_pos h]
theorem cmp_ne {q : Rat} (h : q ≠ 0) : cmpR q 0 ≠ 0 := by unfold cmpR; rw [if_neg h]; split <;> decide

end Go.Proofs.YtcbolipiaflfbaaGreatDoor.Num.Fy

/- the law's money at FV, PV, PMT, IPMT, PPMT, CUMPRINC. Conditions: rates of -9 to 30 hundredths, at most 24 periods; the tables lie as they are laid. -/
namespace Go.Proofs.YtcbolipiaflfbaaGreatDoor.Num.Fy
open Go.RowKit Go.Lib Go.MapKept Num

theorem fr_of (i : Nat) (hi : i < allRows.length) (h : freshB allRows[i].name (allRows.take i) = true) : ∀ j (hj : j < i), (allRows[i].name == (allRows[j]'(by omega)).name) = false := by
  intro j hj
  have := fresh_of h (allRows[j]'(by omega)) (by
    rw [List.mem_take_iff_getElem]
    exact ⟨j, by omega, rfl⟩)
  exact this
/-- what money gives at values that lie in a block; at a row -/
def MoneyRow (nm : ByteArray) (cs : Array Value) (n : Nat) (v : Value) : Prop := ∀ (W : World) (G : Nat), W.heap[G]? = some (.cells cs 27 (0, 0)) → EnvY W → Calls Tryz.prog 13 #[.string nm, .slice (some ⟨G, 0, none⟩) n n] W fun e w' => e = .returned v ∧ Below W.heap.size W w'
theorem at_row {nm : ByteArray} {cs : Array Value} {n : Nat} {v : Value} (T : MoneyRow nm cs n v) (W : World) (g : EnvY W) :
    Calls Tryz.prog 13 #[.string nm, .slice (some ⟨W.heap.size, 0, none⟩) n n] (W.alloc (.cells cs 27)) fun e w' => e = .returned v ∧ Below W.heap.size W w' := by
  have hb : Below W.heap.size W (W.alloc (.cells cs 27)) := (Below.refl _ _).alloc (Nat.le_refl _) _
  refine (T _ _ (heap_alloc_new W _) (g.below hb)).mono ?_
  rintro e w' ⟨rfl, h⟩
  exact ⟨rfl, hb.trans (h.mono hb.size)⟩
def RowV (nm : ByteArray) (vs : List Val) (v : Value) : Prop := ∀ (W : World) (G : Nat), ValsAt W G 0 vs → EnvY W → Calls Tryz.prog 13 #[.string nm, .slice (some ⟨G, 0, none⟩) vs.length vs.length] W fun e w' => e = .returned v ∧ Below W.heap.size W w'
theorem RowV.row {nm : ByteArray} {vs : List Val} {v : Value} (h : RowV nm vs v) : MoneyRow nm (flat vs).toArray vs.length v := fun W G hb g => h W G (vals_of_block hb (by simp)) g
theorem fz {z : Int} (h : z.natAbs ≤ 1000000000000000000) : fits ((z : Int) : Rat) = true := fits_int z h
theorem flz (z : Int) : ((z : Int) : Rat).floor = z := Rat.floor_intCast z

end Go.Proofs.YtcbolipiaflfbaaGreatDoor.Num.Fy
