/- Numbers as texts of digits, fractions, values and the functions of fmath: contracts of the program's functions, joined from smaller texts. Conditions stand at each theorem. -/
import Derived.Test.YtcgglmoeneiokaaGreatDoorDvsA
import Derived.Test.YtcgglmoeneiokaaGreatDoorDivA

/- The law FmathDivides' own walk. Conditions: the tables lie as they are laid. -/
namespace Go.Proofs.YtcgglmoeneiokaaGreatDoor.Num
open Go.RowKit Go.Lib

/-- what math gives at two numbers in a block -/
def Math2 (nm : ByteArray) (p q : Rat) (v : Value) : Prop := ∀ (W : World) (B C : Nat), ValsAt W B 0 (numVals [p, q]) → Env W → Calls Tryz.prog 10 #[.string nm, .slice (some ⟨B, 0, none⟩) 2 C] W fun e w' => e = .returned v ∧ Below W.heap.size W w'

set_option maxHeartbeats 8000000 in
set_option maxRecDepth 100000 in
theorem divides_zero (p q : Rat) (x y : Int) (w : World) (hE : Env w) (hn : ((numS q).toList == [48]) = true)
    (hx : ∀ W, Env W → Calls Tryz.prog 14 #[.int .i64 x] W fun e w' => e = .returned (numVal p) ∧ Below W.heap.size W w')
    (hy : ∀ W, Env W → Calls Tryz.prog 14 #[.int .i64 y] W fun e w' => e = .returned (numVal q) ∧ Below W.heap.size W w')
    (tq : Math2 { data := #[81, 85, 79, 84, 73, 69, 78, 84] } p q (.agg #[.int .i64 4, .string { data := #[] }, .string { data := #[] }, .string { data := #[] }, .bool false, .int .i64 1, .int .i64 0, .int .i64 0, .slice none 0 0])) (tm : Math2 { data := #[77, 79, 68] } p q (.agg #[.int .i64 4, .string { data := #[] }, .string { data := #[] }, .string { data := #[] }, .bool false, .int .i64 1, .int .i64 0, .int .i64 0, .slice none 0 0])) :
    Calls Tryz.prog 6 #[.int .i64 x, .int .i64 y] w fun e w' => e = .returned (.bool true) ∧ Below w.heap.size w w' := by
  have TX := Lib.hid hx
  have TY := Lib.hid hy
  have TQ := Lib.hid tq
  have TM := Lib.hid tm
  unfold Math2 at TQ TM
  rw [numVal_is] at TX TY
  have HE := Lib.hid hE
  have HL := Lib.hid (Below.refl w.heap.size w)
  clear hE hx hy tq tm
  go_enter Tryz.func6, Tryz.ntmps6
  go_wp2_with fail
  refine (TX.out _ HE.out).mono ?_
  rintro e w1 ⟨rfl, hq⟩
  replace HE := Lib.hid (HE.out.below hq)
  replace HL := Lib.hid (HL.out.trans (hq.mono HL.out.size))
  clear hq
  go_wp2_with fail
  refine (TY.out _ HE.out).mono ?_
  rintro e w2 ⟨rfl, hq⟩
  replace HE := Lib.hid (HE.out.below hq)
  replace HL := Lib.hid (HL.out.trans (hq.mono HL.out.size))
  clear hq
  have hq : Below w2.heap.size w2 ((w2.alloc (.cells #[.int .i64 1, .string (numS p), .string (denS p), .string { data := #[] }, .bool false, .int .i64 0, .int .i64 0, .int .i64 0, .slice none 0 0] 27)).alloc (.cells #[.int .i64 1, .string (numS q), .string (denS q), .string { data := #[] }, .bool false, .int .i64 0, .int .i64 0, .int .i64 0, .slice none 0 0] 27)) := ((Below.refl _ _).alloc (Nat.le_refl _) _).alloc (by simp) _
  replace HE := Lib.hid (HE.out.below hq)
  replace HL := Lib.hid (HL.out.trans (hq.mono HL.out.size))
  obtain ⟨hx, hy, _⟩ := two_new w2 (.cells #[.int .i64 1, .string (numS p), .string (denS p), .string { data := #[] }, .bool false, .int .i64 0, .int .i64 0, .int .i64 0, .slice none 0 0] 27) (.cells #[.int .i64 1, .string (numS q), .string (denS q), .string { data := #[] }, .bool false, .int .i64 0, .int .i64 0, .int .i64 0, .slice none 0 0] 27)
  have HX := Lib.hid hx
  have HY := Lib.hid hy
  clear hq hx hy
  obtain ⟨WA, hWA⟩ : ∃ Z, (w2.alloc (.cells #[.int .i64 1, .string (numS p), .string (denS p), .string { data := #[] }, .bool false, .int .i64 0, .int .i64 0, .int .i64 0, .slice none 0 0] 27)).alloc (.cells #[.int .i64 1, .string (numS q), .string (denS q), .string { data := #[] }, .bool false, .int .i64 0, .int .i64 0, .int .i64 0, .slice none 0 0] 27) = Z := ⟨_, rfl⟩
  rw [hWA] at HE HL HX HY
  have EWA := Lib.hid hWA
  clear hWA
  go_wp2_with fail
  rw [EWA.out]
  have HL0 := Lib.hid HL.out.size
  have HP0 := Lib.hid HE.out.room
  have HX0 := HX
  have HY0 := HY
  refine wp_region_by [17, 18, 19, 20, 21, 22, 23, 24, 7, 8] (fun listed vs W => ∃ (s17 : Value) (s18 : Value) (s19 : Value) (s20 : Value) (s21 : Value) (s22 : Value) (s23 : Value) (s24 : Value) (s7 : Value) (s8 : Value), vs = [s17, s18, s19, s20, s21, s22, s23, s24, s7, s8] ∧ Env W ∧ Below w.heap.size w W ∧ WA.heap.size ≤ W.heap.size ∧ W.heap[w2.heap.size]? = some (.cells #[.int .i64 1, .string (numS p), .string (denS p), .string { data := #[] }, .bool false, .int .i64 0, .int .i64 0, .int .i64 0, .slice none 0 0] 27 (0, 0)) ∧ W.heap[w2.heap.size + 1]? = some (.cells #[.int .i64 1, .string (numS q), .string (denS q), .string { data := #[] }, .bool false, .int .i64 0, .int .i64 0, .int .i64 0, .slice none 0 0] 27 (0, 0)) ∧ (listed.getD 0 false = true → s17 = .agg #[.int .i64 1, .string (numS p), .string (denS p), .string { data := #[] }, .bool false, .int .i64 0, .int .i64 0, .int .i64 0, .slice none 0 0]) ∧ (listed.getD 1 false = true → s18 = .agg #[.int .i64 1, .string (numS q), .string (denS q), .string { data := #[] }, .bool false, .int .i64 0, .int .i64 0, .int .i64 0, .slice none 0 0]) ∧ (listed.getD 2 false = true → ¬ listed.getD 3 false = true → ∃ G, s19 = .slice (some ⟨G, 0, none⟩) 2 2 ∧ W.heap[G]? = some (.cells #[.int .i64 1, .string (numS p), .string (denS p), .string { data := #[] }, .bool false, .int .i64 0, .int .i64 0, .int .i64 0, .slice none 0 0, .int .i64 1, .string (numS q), .string (denS q), .string { data := #[] }, .bool false, .int .i64 0, .int .i64 0, .int .i64 0, .slice none 0 0] 27 (0, 0))) ∧ (listed.getD 3 false = true → s20 = .agg #[.int .i64 4, .string { data := #[] }, .string { data := #[] }, .string { data := #[] }, .bool false, .int .i64 1, .int .i64 0, .int .i64 0, .slice none 0 0]) ∧ (listed.getD 4 false = true → s21 = .agg #[.int .i64 1, .string (numS p), .string (denS p), .string { data := #[] }, .bool false, .int .i64 0, .int .i64 0, .int .i64 0, .slice none 0 0]) ∧ (listed.getD 5 false = true → s22 = .agg #[.int .i64 1, .string (numS q), .string (denS q), .string { data := #[] }, .bool false, .int .i64 0, .int .i64 0, .int .i64 0, .slice none 0 0]) ∧ (listed.getD 6 false = true → ¬ listed.getD 7 false = true → ∃ G, s23 = .slice (some ⟨G, 0, none⟩) 2 2 ∧ W.heap[G]? = some (.cells #[.int .i64 1, .string (numS p), .string (denS p), .string { data := #[] }, .bool false, .int .i64 0, .int .i64 0, .int .i64 0, .slice none 0 0, .int .i64 1, .string (numS q), .string (denS q), .string { data := #[] }, .bool false, .int .i64 0, .int .i64 0, .int .i64 0, .slice none 0 0] 27 (0, 0))) ∧ (listed.getD 7 false = true → s24 = .agg #[.int .i64 4, .string { data := #[] }, .string { data := #[] }, .string { data := #[] }, .bool false, .int .i64 1, .int .i64 0, .int .i64 0, .slice none 0 0]) ∧ (listed.getD 8 false = true → ∃ G, s7 = .pointer (some ⟨G, 0, none⟩) ∧ WA.heap.size ≤ G ∧ W.heap[G]? = some (.cells (if listed.getD 10 false then #[.int .i64 4, .string { data := #[] }, .string { data := #[] }, .string { data := #[] }, .bool false, .int .i64 1, .int .i64 0, .int .i64 0, .slice none 0 0] else #[.int .i64 0, .string { data := #[] }, .string { data := #[] }, .string { data := #[] }, .bool false, .int .i64 0, .int .i64 0, .int .i64 0, .slice none 0 0]) 27 (0, 0))) ∧ (listed.getD 9 false = true → ∃ G, s8 = .pointer (some ⟨G, 0, none⟩) ∧ WA.heap.size ≤ G ∧ W.heap[G]? = some (.cells (if listed.getD 11 false then #[.int .i64 4, .string { data := #[] }, .string { data := #[] }, .string { data := #[] }, .bool false, .int .i64 1, .int .i64 0, .int .i64 0, .slice none 0 0] else #[.int .i64 0, .string { data := #[] }, .string { data := #[] }, .string { data := #[] }, .bool false, .int .i64 0, .int .i64 0, .int .i64 0, .slice none 0 0]) 27 (0, 0))) ∧ (listed.getD 10 false = true → listed.getD 8 false = true) ∧ (listed.getD 11 false = true → listed.getD 9 false = true) ∧ (listed.getD 8 false = true → listed.getD 9 false = true → s7 ≠ s8)) (by kernel_rfl) (by kernel_rfl) [undef, undef, undef, undef, undef, undef, undef, undef, undef, undef] ?h00 ?h0 ?hs ?hd
  case h00 => simp only [putAll, List.zip_cons_cons, List.zip_nil_right, List.foldl_cons, List.foldl_nil, List.setIfInBounds_toArray, List.set_cons_zero, List.set_cons_succ]
  · exact ⟨_, _, _, _, _, _, _, _, _, _, rfl, HE.out.below (Below.refl _ _).drew, HL.out.drew, Nat.le_refl _, drew_block HX.out, drew_block HY.out, fun h => absurd h bit_none, fun h => absurd h bit_none, fun h => absurd h bit_none, fun h => absurd h bit_none, fun h => absurd h bit_none, fun h => absurd h bit_none, fun h => absurd h bit_none, fun h => absurd h bit_none, fun h => absurd h bit_none, fun h => absurd h bit_none, fun h => absurd h bit_none, fun h => absurd h bit_none, fun h => absurd h bit_none⟩
  · rintro listed vs W ⟨s17, s18, s19, s20, s21, s22, s23, s24, s7, s8, rfl, hb⟩ i hi hun hpre
    have HB := Lib.hid hb
    have hi : i < 12 := hi
    clear hb
    rcases (by omega : i = 0 ∨ i = 1 ∨ i = 2 ∨ i = 3 ∨ i = 4 ∨ i = 5 ∨ i = 6 ∨ i = 7 ∨ i = 8 ∨ i = 9 ∨ i = 10 ∨ i = 11) with rfl | rfl | rfl | rfl | rfl | rfl | rfl | rfl | rfl | rfl | rfl | rfl
    · skip
      obtain ⟨⟨cHX0, cHX1, cHX2, cHX3, cHX4, cHX5, cHX6, cHX7, cHX8⟩, _⟩ := nine_at HB.out.2.2.2.1
      refine step_of ⟨some 17, _, _, _, _, _⟩ rfl (fun K' hK => ?_)
      simp only [putAll, List.zip_cons_cons, List.zip_nil_right, List.foldl_cons, List.foldl_nil, List.setIfInBounds_toArray, List.set_cons_zero, List.set_cons_succ]
      go_simp
      refine hK.out _ _ ⟨_, ⟨.agg #[.int .i64 1, .string (numS p), .string (denS p), .string { data := #[] }, .bool false, .int .i64 0, .int .i64 0, .int .i64 0, .slice none 0 0], s18, s19, s20, s21, s22, s23, s24, s7, s8, rfl, ?_, ?_, ?_, ?_, ?_, ?_, ?_, ?_, ?_, ?_, ?_, ?_, ?_, ?_, ?_, ?_, ?_, ?_⟩, ?fr⟩
      case fr => simp only [putAll, List.zip_cons_cons, List.zip_nil_right, List.foldl_cons, List.foldl_nil, List.setIfInBounds_toArray, List.set_cons_zero, List.set_cons_succ]
      · exact HB.out.1
      · exact HB.out.2.1
      · exact HB.out.2.2.1
      · exact HB.out.2.2.2.1
      · exact HB.out.2.2.2.2.1
      · exact fun _ => rfl
      · exact fun h => HB.out.2.2.2.2.2.2.1 ((bit_set h).resolve_left (by decide))
      · exact fun h h2 => HB.out.2.2.2.2.2.2.2.1 ((bit_set h).resolve_left (by decide)) (fun c => h2 (bit_mono c))
      · exact fun h => HB.out.2.2.2.2.2.2.2.2.1 ((bit_set h).resolve_left (by decide))
      · exact fun h => HB.out.2.2.2.2.2.2.2.2.2.1 ((bit_set h).resolve_left (by decide))
      · exact fun h => HB.out.2.2.2.2.2.2.2.2.2.2.1 ((bit_set h).resolve_left (by decide))
      · exact fun h h2 => HB.out.2.2.2.2.2.2.2.2.2.2.2.1 ((bit_set h).resolve_left (by decide)) (fun c => h2 (bit_mono c))
      · exact fun h => HB.out.2.2.2.2.2.2.2.2.2.2.2.2.1 ((bit_set h).resolve_left (by decide))
      · exact (fun h => by
            obtain ⟨G2, e2, l2, k2⟩ := HB.out.2.2.2.2.2.2.2.2.2.2.2.2.2.1 ((bit_set h).resolve_left (by decide))
            exact ⟨G2, e2, l2, by rw [bit_if (by decide)]; exact k2⟩)
      · exact (fun h => by
            obtain ⟨G2, e2, l2, k2⟩ := HB.out.2.2.2.2.2.2.2.2.2.2.2.2.2.2.1 ((bit_set h).resolve_left (by decide))
            exact ⟨G2, e2, l2, by rw [bit_if (by decide)]; exact k2⟩)
      · exact fun h => bit_mono (HB.out.2.2.2.2.2.2.2.2.2.2.2.2.2.2.2.1 ((bit_set h).resolve_left (by decide)))
      · exact fun h => bit_mono (HB.out.2.2.2.2.2.2.2.2.2.2.2.2.2.2.2.2.1 ((bit_set h).resolve_left (by decide)))
      · exact fun h h2 => HB.out.2.2.2.2.2.2.2.2.2.2.2.2.2.2.2.2.2 ((bit_set h).resolve_left (by decide)) ((bit_set h2).resolve_left (by decide))
    · skip
      obtain ⟨⟨cHY0, cHY1, cHY2, cHY3, cHY4, cHY5, cHY6, cHY7, cHY8⟩, _⟩ := nine_at HB.out.2.2.2.2.1
      refine step_of ⟨some 18, _, _, _, _, _⟩ rfl (fun K' hK => ?_)
      simp only [putAll, List.zip_cons_cons, List.zip_nil_right, List.foldl_cons, List.foldl_nil, List.setIfInBounds_toArray, List.set_cons_zero, List.set_cons_succ]
      go_simp
      refine hK.out _ _ ⟨_, ⟨s17, .agg #[.int .i64 1, .string (numS q), .string (denS q), .string { data := #[] }, .bool false, .int .i64 0, .int .i64 0, .int .i64 0, .slice none 0 0], s19, s20, s21, s22, s23, s24, s7, s8, rfl, ?_, ?_, ?_, ?_, ?_, ?_, ?_, ?_, ?_, ?_, ?_, ?_, ?_, ?_, ?_, ?_, ?_, ?_⟩, ?fr⟩
      case fr => simp only [putAll, List.zip_cons_cons, List.zip_nil_right, List.foldl_cons, List.foldl_nil, List.setIfInBounds_toArray, List.set_cons_zero, List.set_cons_succ]
      · exact HB.out.1
      · exact HB.out.2.1
      · exact HB.out.2.2.1
      · exact HB.out.2.2.2.1
      · exact HB.out.2.2.2.2.1
      · exact fun h => HB.out.2.2.2.2.2.1 ((bit_set h).resolve_left (by decide))
      · exact fun _ => rfl
      · exact fun h h2 => HB.out.2.2.2.2.2.2.2.1 ((bit_set h).resolve_left (by decide)) (fun c => h2 (bit_mono c))
      · exact fun h => HB.out.2.2.2.2.2.2.2.2.1 ((bit_set h).resolve_left (by decide))
      · exact fun h => HB.out.2.2.2.2.2.2.2.2.2.1 ((bit_set h).resolve_left (by decide))
      · exact fun h => HB.out.2.2.2.2.2.2.2.2.2.2.1 ((bit_set h).resolve_left (by decide))
      · exact fun h h2 => HB.out.2.2.2.2.2.2.2.2.2.2.2.1 ((bit_set h).resolve_left (by decide)) (fun c => h2 (bit_mono c))
      · exact fun h => HB.out.2.2.2.2.2.2.2.2.2.2.2.2.1 ((bit_set h).resolve_left (by decide))
      · exact (fun h => by
            obtain ⟨G2, e2, l2, k2⟩ := HB.out.2.2.2.2.2.2.2.2.2.2.2.2.2.1 ((bit_set h).resolve_left (by decide))
            exact ⟨G2, e2, l2, by rw [bit_if (by decide)]; exact k2⟩)
      · exact (fun h => by
            obtain ⟨G2, e2, l2, k2⟩ := HB.out.2.2.2.2.2.2.2.2.2.2.2.2.2.2.1 ((bit_set h).resolve_left (by decide))
            exact ⟨G2, e2, l2, by rw [bit_if (by decide)]; exact k2⟩)
      · exact fun h => bit_mono (HB.out.2.2.2.2.2.2.2.2.2.2.2.2.2.2.2.1 ((bit_set h).resolve_left (by decide)))
      · exact fun h => bit_mono (HB.out.2.2.2.2.2.2.2.2.2.2.2.2.2.2.2.2.1 ((bit_set h).resolve_left (by decide)))
      · exact fun h h2 => HB.out.2.2.2.2.2.2.2.2.2.2.2.2.2.2.2.2.2 ((bit_set h).resolve_left (by decide)) ((bit_set h2).resolve_left (by decide))
    · skip
      have p0 := hpre 0 (by kernel_rfl)
      have e0 := HB.out.2.2.2.2.2.1 p0
      subst e0
      have p1 := hpre 1 (by kernel_rfl)
      have e1 := HB.out.2.2.2.2.2.2.1 p1
      subst e1
      refine step_of ⟨some 19, _, _, _, _, _⟩ rfl (fun K' hK => ?_)
      simp only [putAll, List.zip_cons_cons, List.zip_nil_right, List.foldl_cons, List.foldl_nil, List.setIfInBounds_toArray, List.set_cons_zero, List.set_cons_succ]
      go_simp
      have hq : Below W.heap.size W (W.alloc (.cells #[.int .i64 1, .string (numS p), .string (denS p), .string { data := #[] }, .bool false, .int .i64 0, .int .i64 0, .int .i64 0, .slice none 0 0, .int .i64 1, .string (numS q), .string (denS q), .string { data := #[] }, .bool false, .int .i64 0, .int .i64 0, .int .i64 0, .slice none 0 0] 27)) := (Below.refl _ _).alloc (Nat.le_refl _) _
      refine hK.out _ _ ⟨_, ⟨.agg #[.int .i64 1, .string (numS p), .string (denS p), .string { data := #[] }, .bool false, .int .i64 0, .int .i64 0, .int .i64 0, .slice none 0 0], .agg #[.int .i64 1, .string (numS q), .string (denS q), .string { data := #[] }, .bool false, .int .i64 0, .int .i64 0, .int .i64 0, .slice none 0 0], .slice (some ⟨W.heap.size, 0, none⟩) 2 2, s20, s21, s22, s23, s24, s7, s8, rfl, ?_, ?_, ?_, ?_, ?_, ?_, ?_, ?_, ?_, ?_, ?_, ?_, ?_, ?_, ?_, ?_, ?_, ?_⟩, ?fr⟩
      case fr => simp only [putAll, List.zip_cons_cons, List.zip_nil_right, List.foldl_cons, List.foldl_nil, List.setIfInBounds_toArray, List.set_cons_zero, List.set_cons_succ]
      · exact (HB.out.1).below hq
      · exact (HB.out.2.1).trans (hq.mono (HB.out.2.1).size)
      · exact Nat.le_trans (HB.out.2.2.1) hq.size
      · exact keep_block (HB.out.2.2.2.1) hq
      · exact keep_block (HB.out.2.2.2.2.1) hq
      · exact fun h => HB.out.2.2.2.2.2.1 ((bit_set h).resolve_left (by decide))
      · exact fun h => HB.out.2.2.2.2.2.2.1 ((bit_set h).resolve_left (by decide))
      · exact fun _ _ => ⟨W.heap.size, rfl, heap_alloc_new W _⟩
      · exact fun h => HB.out.2.2.2.2.2.2.2.2.1 ((bit_set h).resolve_left (by decide))
      · exact fun h => HB.out.2.2.2.2.2.2.2.2.2.1 ((bit_set h).resolve_left (by decide))
      · exact fun h => HB.out.2.2.2.2.2.2.2.2.2.2.1 ((bit_set h).resolve_left (by decide))
      · exact (fun h h2 => by
            obtain ⟨G2, e2, k2⟩ := HB.out.2.2.2.2.2.2.2.2.2.2.2.1 ((bit_set h).resolve_left (by decide)) (fun c => h2 (bit_mono c))
            exact ⟨G2, e2, keep_block k2 hq⟩)
      · exact fun h => HB.out.2.2.2.2.2.2.2.2.2.2.2.2.1 ((bit_set h).resolve_left (by decide))
      · exact (fun h => by
            obtain ⟨G2, e2, l2, k2⟩ := HB.out.2.2.2.2.2.2.2.2.2.2.2.2.2.1 ((bit_set h).resolve_left (by decide))
            exact ⟨G2, e2, l2, by rw [bit_if (by decide)]; exact keep_block k2 hq⟩)
      · exact (fun h => by
            obtain ⟨G2, e2, l2, k2⟩ := HB.out.2.2.2.2.2.2.2.2.2.2.2.2.2.2.1 ((bit_set h).resolve_left (by decide))
            exact ⟨G2, e2, l2, by rw [bit_if (by decide)]; exact keep_block k2 hq⟩)
      · exact fun h => bit_mono (HB.out.2.2.2.2.2.2.2.2.2.2.2.2.2.2.2.1 ((bit_set h).resolve_left (by decide)))
      · exact fun h => bit_mono (HB.out.2.2.2.2.2.2.2.2.2.2.2.2.2.2.2.2.1 ((bit_set h).resolve_left (by decide)))
      · exact fun h h2 => HB.out.2.2.2.2.2.2.2.2.2.2.2.2.2.2.2.2.2 ((bit_set h).resolve_left (by decide)) ((bit_set h2).resolve_left (by decide))
    · skip
      have p2 := hpre 2 (by kernel_rfl)
      obtain ⟨G, hG, hGB⟩ := HB.out.2.2.2.2.2.2.2.1 p2 (bit_off hun)
      subst hG
      refine step_of ⟨some 20, _, _, _, _, _⟩ rfl (fun K' hK => ?_)
      simp only [putAll, List.zip_cons_cons, List.zip_nil_right, List.foldl_cons, List.foldl_nil, List.setIfInBounds_toArray, List.set_cons_zero, List.set_cons_succ]
      go_simp
      go_at_call 10
      (with_reducible refine (TQ.out _ G 2 (vals_of_block hGB rfl) HB.out.1).mono ?_)
      rintro e W2 ⟨rfl, hq⟩
      refine hK.out _ _ ⟨_, ⟨s17, s18, .slice (some ⟨G, 0, none⟩) 2 2, .agg #[.int .i64 4, .string { data := #[] }, .string { data := #[] }, .string { data := #[] }, .bool false, .int .i64 1, .int .i64 0, .int .i64 0, .slice none 0 0], s21, s22, s23, s24, s7, s8, rfl, ?_, ?_, ?_, ?_, ?_, ?_, ?_, ?_, ?_, ?_, ?_, ?_, ?_, ?_, ?_, ?_, ?_, ?_⟩, ?fr⟩
      case fr => simp only [putAll, List.zip_cons_cons, List.zip_nil_right, List.foldl_cons, List.foldl_nil, List.setIfInBounds_toArray, List.set_cons_zero, List.set_cons_succ]
      · exact (HB.out.1).below hq
      · exact (HB.out.2.1).trans (hq.mono (HB.out.2.1).size)
      · exact Nat.le_trans (HB.out.2.2.1) hq.size
      · exact keep_block (HB.out.2.2.2.1) hq
      · exact keep_block (HB.out.2.2.2.2.1) hq
      · exact fun h => HB.out.2.2.2.2.2.1 ((bit_set h).resolve_left (by decide))
      · exact fun h => HB.out.2.2.2.2.2.2.1 ((bit_set h).resolve_left (by decide))
      · exact fun h h2 => absurd (bit_self hun) h2
      · exact fun _ => rfl
      · exact fun h => HB.out.2.2.2.2.2.2.2.2.2.1 ((bit_set h).resolve_left (by decide))
      · exact fun h => HB.out.2.2.2.2.2.2.2.2.2.2.1 ((bit_set h).resolve_left (by decide))
      · exact (fun h h2 => by
            obtain ⟨G2, e2, k2⟩ := HB.out.2.2.2.2.2.2.2.2.2.2.2.1 ((bit_set h).resolve_left (by decide)) (fun c => h2 (bit_mono c))
            exact ⟨G2, e2, keep_block k2 hq⟩)
      · exact fun h => HB.out.2.2.2.2.2.2.2.2.2.2.2.2.1 ((bit_set h).resolve_left (by decide))
      · exact (fun h => by
            obtain ⟨G2, e2, l2, k2⟩ := HB.out.2.2.2.2.2.2.2.2.2.2.2.2.2.1 ((bit_set h).resolve_left (by decide))
            exact ⟨G2, e2, l2, by rw [bit_if (by decide)]; exact keep_block k2 hq⟩)
      · exact (fun h => by
            obtain ⟨G2, e2, l2, k2⟩ := HB.out.2.2.2.2.2.2.2.2.2.2.2.2.2.2.1 ((bit_set h).resolve_left (by decide))
            exact ⟨G2, e2, l2, by rw [bit_if (by decide)]; exact keep_block k2 hq⟩)
      · exact fun h => bit_mono (HB.out.2.2.2.2.2.2.2.2.2.2.2.2.2.2.2.1 ((bit_set h).resolve_left (by decide)))
      · exact fun h => bit_mono (HB.out.2.2.2.2.2.2.2.2.2.2.2.2.2.2.2.2.1 ((bit_set h).resolve_left (by decide)))
      · exact fun h h2 => HB.out.2.2.2.2.2.2.2.2.2.2.2.2.2.2.2.2.2 ((bit_set h).resolve_left (by decide)) ((bit_set h2).resolve_left (by decide))
    · skip
      obtain ⟨⟨cHX0, cHX1, cHX2, cHX3, cHX4, cHX5, cHX6, cHX7, cHX8⟩, _⟩ := nine_at HB.out.2.2.2.1
      refine step_of ⟨some 21, _, _, _, _, _⟩ rfl (fun K' hK => ?_)
      simp only [putAll, List.zip_cons_cons, List.zip_nil_right, List.foldl_cons, List.foldl_nil, List.setIfInBounds_toArray, List.set_cons_zero, List.set_cons_succ]
      go_simp
      refine hK.out _ _ ⟨_, ⟨s17, s18, s19, s20, .agg #[.int .i64 1, .string (numS p), .string (denS p), .string { data := #[] }, .bool false, .int .i64 0, .int .i64 0, .int .i64 0, .slice none 0 0], s22, s23, s24, s7, s8, rfl, ?_, ?_, ?_, ?_, ?_, ?_, ?_, ?_, ?_, ?_, ?_, ?_, ?_, ?_, ?_, ?_, ?_, ?_⟩, ?fr⟩
      case fr => simp only [putAll, List.zip_cons_cons, List.zip_nil_right, List.foldl_cons, List.foldl_nil, List.setIfInBounds_toArray, List.set_cons_zero, List.set_cons_succ]
      · exact HB.out.1
      · exact HB.out.2.1
      · exact HB.out.2.2.1
      · exact HB.out.2.2.2.1
      · exact HB.out.2.2.2.2.1
      · exact fun h => HB.out.2.2.2.2.2.1 ((bit_set h).resolve_left (by decide))
      · exact fun h => HB.out.2.2.2.2.2.2.1 ((bit_set h).resolve_left (by decide))
      · exact fun h h2 => HB.out.2.2.2.2.2.2.2.1 ((bit_set h).resolve_left (by decide)) (fun c => h2 (bit_mono c))
      · exact fun h => HB.out.2.2.2.2.2.2.2.2.1 ((bit_set h).resolve_left (by decide))
      · exact fun _ => rfl
      · exact fun h => HB.out.2.2.2.2.2.2.2.2.2.2.1 ((bit_set h).resolve_left (by decide))
      · exact fun h h2 => HB.out.2.2.2.2.2.2.2.2.2.2.2.1 ((bit_set h).resolve_left (by decide)) (fun c => h2 (bit_mono c))
      · exact fun h => HB.out.2.2.2.2.2.2.2.2.2.2.2.2.1 ((bit_set h).resolve_left (by decide))
      · exact (fun h => by
            obtain ⟨G2, e2, l2, k2⟩ := HB.out.2.2.2.2.2.2.2.2.2.2.2.2.2.1 ((bit_set h).resolve_left (by decide))
            exact ⟨G2, e2, l2, by rw [bit_if (by decide)]; exact k2⟩)
      · exact (fun h => by
            obtain ⟨G2, e2, l2, k2⟩ := HB.out.2.2.2.2.2.2.2.2.2.2.2.2.2.2.1 ((bit_set h).resolve_left (by decide))
            exact ⟨G2, e2, l2, by rw [bit_if (by decide)]; exact k2⟩)
      · exact fun h => bit_mono (HB.out.2.2.2.2.2.2.2.2.2.2.2.2.2.2.2.1 ((bit_set h).resolve_left (by decide)))
      · exact fun h => bit_mono (HB.out.2.2.2.2.2.2.2.2.2.2.2.2.2.2.2.2.1 ((bit_set h).resolve_left (by decide)))
      · exact fun h h2 => HB.out.2.2.2.2.2.2.2.2.2.2.2.2.2.2.2.2.2 ((bit_set h).resolve_left (by decide)) ((bit_set h2).resolve_left (by decide))
    · skip
      obtain ⟨⟨cHY0, cHY1, cHY2, cHY3, cHY4, cHY5, cHY6, cHY7, cHY8⟩, _⟩ := nine_at HB.out.2.2.2.2.1
      refine step_of ⟨some 22, _, _, _, _, _⟩ rfl (fun K' hK => ?_)
      simp only [putAll, List.zip_cons_cons, List.zip_nil_right, List.foldl_cons, List.foldl_nil, List.setIfInBounds_toArray, List.set_cons_zero, List.set_cons_succ]
      go_simp
      refine hK.out _ _ ⟨_, ⟨s17, s18, s19, s20, s21, .agg #[.int .i64 1, .string (numS q), .string (denS q), .string { data := #[] }, .bool false, .int .i64 0, .int .i64 0, .int .i64 0, .slice none 0 0], s23, s24, s7, s8, rfl, ?_, ?_, ?_, ?_, ?_, ?_, ?_, ?_, ?_, ?_, ?_, ?_, ?_, ?_, ?_, ?_, ?_, ?_⟩, ?fr⟩
      case fr => simp only [putAll, List.zip_cons_cons, List.zip_nil_right, List.foldl_cons, List.foldl_nil, List.setIfInBounds_toArray, List.set_cons_zero, List.set_cons_succ]
      · exact HB.out.1
      · exact HB.out.2.1
      · exact HB.out.2.2.1
      · exact HB.out.2.2.2.1
      · exact HB.out.2.2.2.2.1
      · exact fun h => HB.out.2.2.2.2.2.1 ((bit_set h).resolve_left (by decide))
      · exact fun h => HB.out.2.2.2.2.2.2.1 ((bit_set h).resolve_left (by decide))
      · exact fun h h2 => HB.out.2.2.2.2.2.2.2.1 ((bit_set h).resolve_left (by decide)) (fun c => h2 (bit_mono c))
      · exact fun h => HB.out.2.2.2.2.2.2.2.2.1 ((bit_set h).resolve_left (by decide))
      · exact fun h => HB.out.2.2.2.2.2.2.2.2.2.1 ((bit_set h).resolve_left (by decide))
      · exact fun _ => rfl
      · exact fun h h2 => HB.out.2.2.2.2.2.2.2.2.2.2.2.1 ((bit_set h).resolve_left (by decide)) (fun c => h2 (bit_mono c))
      · exact fun h => HB.out.2.2.2.2.2.2.2.2.2.2.2.2.1 ((bit_set h).resolve_left (by decide))
      · exact (fun h => by
            obtain ⟨G2, e2, l2, k2⟩ := HB.out.2.2.2.2.2.2.2.2.2.2.2.2.2.1 ((bit_set h).resolve_left (by decide))
            exact ⟨G2, e2, l2, by rw [bit_if (by decide)]; exact k2⟩)
      · exact (fun h => by
            obtain ⟨G2, e2, l2, k2⟩ := HB.out.2.2.2.2.2.2.2.2.2.2.2.2.2.2.1 ((bit_set h).resolve_left (by decide))
            exact ⟨G2, e2, l2, by rw [bit_if (by decide)]; exact k2⟩)
      · exact fun h => bit_mono (HB.out.2.2.2.2.2.2.2.2.2.2.2.2.2.2.2.1 ((bit_set h).resolve_left (by decide)))
      · exact fun h => bit_mono (HB.out.2.2.2.2.2.2.2.2.2.2.2.2.2.2.2.2.1 ((bit_set h).resolve_left (by decide)))
      · exact fun h h2 => HB.out.2.2.2.2.2.2.2.2.2.2.2.2.2.2.2.2.2 ((bit_set h).resolve_left (by decide)) ((bit_set h2).resolve_left (by decide))
    · skip
      have p4 := hpre 4 (by kernel_rfl)
      have e4 := HB.out.2.2.2.2.2.2.2.2.2.1 p4
      subst e4
      have p5 := hpre 5 (by kernel_rfl)
      have e5 := HB.out.2.2.2.2.2.2.2.2.2.2.1 p5
      subst e5
      refine step_of ⟨some 23, _, _, _, _, _⟩ rfl (fun K' hK => ?_)
      simp only [putAll, List.zip_cons_cons, List.zip_nil_right, List.foldl_cons, List.foldl_nil, List.setIfInBounds_toArray, List.set_cons_zero, List.set_cons_succ]
      go_simp
      have hq : Below W.heap.size W (W.alloc (.cells #[.int .i64 1, .string (numS p), .string (denS p), .string { data := #[] }, .bool false, .int .i64 0, .int .i64 0, .int .i64 0, .slice none 0 0, .int .i64 1, .string (numS q), .string (denS q), .string { data := #[] }, .bool false, .int .i64 0, .int .i64 0, .int .i64 0, .slice none 0 0] 27)) := (Below.refl _ _).alloc (Nat.le_refl _) _
      refine hK.out _ _ ⟨_, ⟨s17, s18, s19, s20, .agg #[.int .i64 1, .string (numS p), .string (denS p), .string { data := #[] }, .bool false, .int .i64 0, .int .i64 0, .int .i64 0, .slice none 0 0], .agg #[.int .i64 1, .string (numS q), .string (denS q), .string { data := #[] }, .bool false, .int .i64 0, .int .i64 0, .int .i64 0, .slice none 0 0], .slice (some ⟨W.heap.size, 0, none⟩) 2 2, s24, s7, s8, rfl, ?_, ?_, ?_, ?_, ?_, ?_, ?_, ?_, ?_, ?_, ?_, ?_, ?_, ?_, ?_, ?_, ?_, ?_⟩, ?fr⟩
      case fr => simp only [putAll, List.zip_cons_cons, List.zip_nil_right, List.foldl_cons, List.foldl_nil, List.setIfInBounds_toArray, List.set_cons_zero, List.set_cons_succ]
      · exact (HB.out.1).below hq
      · exact (HB.out.2.1).trans (hq.mono (HB.out.2.1).size)
      · exact Nat.le_trans (HB.out.2.2.1) hq.size
      · exact keep_block (HB.out.2.2.2.1) hq
      · exact keep_block (HB.out.2.2.2.2.1) hq
      · exact fun h => HB.out.2.2.2.2.2.1 ((bit_set h).resolve_left (by decide))
      · exact fun h => HB.out.2.2.2.2.2.2.1 ((bit_set h).resolve_left (by decide))
      · exact (fun h h2 => by
            obtain ⟨G2, e2, k2⟩ := HB.out.2.2.2.2.2.2.2.1 ((bit_set h).resolve_left (by decide)) (fun c => h2 (bit_mono c))
            exact ⟨G2, e2, keep_block k2 hq⟩)
      · exact fun h => HB.out.2.2.2.2.2.2.2.2.1 ((bit_set h).resolve_left (by decide))
      · exact fun h => HB.out.2.2.2.2.2.2.2.2.2.1 ((bit_set h).resolve_left (by decide))
      · exact fun h => HB.out.2.2.2.2.2.2.2.2.2.2.1 ((bit_set h).resolve_left (by decide))
      · exact fun _ _ => ⟨W.heap.size, rfl, heap_alloc_new W _⟩
      · exact fun h => HB.out.2.2.2.2.2.2.2.2.2.2.2.2.1 ((bit_set h).resolve_left (by decide))
      · exact (fun h => by
            obtain ⟨G2, e2, l2, k2⟩ := HB.out.2.2.2.2.2.2.2.2.2.2.2.2.2.1 ((bit_set h).resolve_left (by decide))
            exact ⟨G2, e2, l2, by rw [bit_if (by decide)]; exact keep_block k2 hq⟩)
      · exact (fun h => by
            obtain ⟨G2, e2, l2, k2⟩ := HB.out.2.2.2.2.2.2.2.2.2.2.2.2.2.2.1 ((bit_set h).resolve_left (by decide))
            exact ⟨G2, e2, l2, by rw [bit_if (by decide)]; exact keep_block k2 hq⟩)
      · exact fun h => bit_mono (HB.out.2.2.2.2.2.2.2.2.2.2.2.2.2.2.2.1 ((bit_set h).resolve_left (by decide)))
      · exact fun h => bit_mono (HB.out.2.2.2.2.2.2.2.2.2.2.2.2.2.2.2.2.1 ((bit_set h).resolve_left (by decide)))
      · exact fun h h2 => HB.out.2.2.2.2.2.2.2.2.2.2.2.2.2.2.2.2.2 ((bit_set h).resolve_left (by decide)) ((bit_set h2).resolve_left (by decide))
    · skip
      have p6 := hpre 6 (by kernel_rfl)
      obtain ⟨G, hG, hGB⟩ := HB.out.2.2.2.2.2.2.2.2.2.2.2.1 p6 (bit_off hun)
      subst hG
      refine step_of ⟨some 24, _, _, _, _, _⟩ rfl (fun K' hK => ?_)
      simp only [putAll, List.zip_cons_cons, List.zip_nil_right, List.foldl_cons, List.foldl_nil, List.setIfInBounds_toArray, List.set_cons_zero, List.set_cons_succ]
      go_simp
      go_at_call 10
      (with_reducible refine (TM.out _ G 2 (vals_of_block hGB rfl) HB.out.1).mono ?_)
      rintro e W2 ⟨rfl, hq⟩
      refine hK.out _ _ ⟨_, ⟨s17, s18, s19, s20, s21, s22, .slice (some ⟨G, 0, none⟩) 2 2, .agg #[.int .i64 4, .string { data := #[] }, .string { data := #[] }, .string { data := #[] }, .bool false, .int .i64 1, .int .i64 0, .int .i64 0, .slice none 0 0], s7, s8, rfl, ?_, ?_, ?_, ?_, ?_, ?_, ?_, ?_, ?_, ?_, ?_, ?_, ?_, ?_, ?_, ?_, ?_, ?_⟩, ?fr⟩
      case fr => simp only [putAll, List.zip_cons_cons, List.zip_nil_right, List.foldl_cons, List.foldl_nil, List.setIfInBounds_toArray, List.set_cons_zero, List.set_cons_succ]
      · exact (HB.out.1).below hq
      · exact (HB.out.2.1).trans (hq.mono (HB.out.2.1).size)
      · exact Nat.le_trans (HB.out.2.2.1) hq.size
      · exact keep_block (HB.out.2.2.2.1) hq
      · exact keep_block (HB.out.2.2.2.2.1) hq
      · exact fun h => HB.out.2.2.2.2.2.1 ((bit_set h).resolve_left (by decide))
      · exact fun h => HB.out.2.2.2.2.2.2.1 ((bit_set h).resolve_left (by decide))
      · exact (fun h h2 => by
            obtain ⟨G2, e2, k2⟩ := HB.out.2.2.2.2.2.2.2.1 ((bit_set h).resolve_left (by decide)) (fun c => h2 (bit_mono c))
            exact ⟨G2, e2, keep_block k2 hq⟩)
      · exact fun h => HB.out.2.2.2.2.2.2.2.2.1 ((bit_set h).resolve_left (by decide))
      · exact fun h => HB.out.2.2.2.2.2.2.2.2.2.1 ((bit_set h).resolve_left (by decide))
      · exact fun h => HB.out.2.2.2.2.2.2.2.2.2.2.1 ((bit_set h).resolve_left (by decide))
      · exact fun h h2 => absurd (bit_self hun) h2
      · exact fun _ => rfl
      · exact (fun h => by
            obtain ⟨G2, e2, l2, k2⟩ := HB.out.2.2.2.2.2.2.2.2.2.2.2.2.2.1 ((bit_set h).resolve_left (by decide))
            exact ⟨G2, e2, l2, by rw [bit_if (by decide)]; exact keep_block k2 hq⟩)
      · exact (fun h => by
            obtain ⟨G2, e2, l2, k2⟩ := HB.out.2.2.2.2.2.2.2.2.2.2.2.2.2.2.1 ((bit_set h).resolve_left (by decide))
            exact ⟨G2, e2, l2, by rw [bit_if (by decide)]; exact keep_block k2 hq⟩)
      · exact fun h => bit_mono (HB.out.2.2.2.2.2.2.2.2.2.2.2.2.2.2.2.1 ((bit_set h).resolve_left (by decide)))
      · exact fun h => bit_mono (HB.out.2.2.2.2.2.2.2.2.2.2.2.2.2.2.2.2.1 ((bit_set h).resolve_left (by decide)))
      · exact fun h h2 => HB.out.2.2.2.2.2.2.2.2.2.2.2.2.2.2.2.2.2 ((bit_set h).resolve_left (by decide)) ((bit_set h2).resolve_left (by decide))
    · skip
      refine step_of ⟨some 7, _, _, _, _, _⟩ rfl (fun K' hK => ?_)
      simp only [putAll, List.zip_cons_cons, List.zip_nil_right, List.foldl_cons, List.foldl_nil, List.setIfInBounds_toArray, List.set_cons_zero, List.set_cons_succ]
      go_simp
      have hq : Below W.heap.size W (W.alloc (.cells #[.int .i64 0, .string { data := #[] }, .string { data := #[] }, .string { data := #[] }, .bool false, .int .i64 0, .int .i64 0, .int .i64 0, .slice none 0 0] 27)) := (Below.refl _ _).alloc (Nat.le_refl _) _
      refine hK.out _ _ ⟨_, ⟨s17, s18, s19, s20, s21, s22, s23, s24, .pointer (some ⟨W.heap.size, 0, none⟩), s8, rfl, ?_, ?_, ?_, ?_, ?_, ?_, ?_, ?_, ?_, ?_, ?_, ?_, ?_, ?_, ?_, ?_, ?_, ?_⟩, ?fr⟩
      case fr => simp only [putAll, List.zip_cons_cons, List.zip_nil_right, List.foldl_cons, List.foldl_nil, List.setIfInBounds_toArray, List.set_cons_zero, List.set_cons_succ]
      · exact (HB.out.1).below hq
      · exact (HB.out.2.1).trans (hq.mono (HB.out.2.1).size)
      · exact Nat.le_trans (HB.out.2.2.1) hq.size
      · exact keep_block (HB.out.2.2.2.1) hq
      · exact keep_block (HB.out.2.2.2.2.1) hq
      · exact fun h => HB.out.2.2.2.2.2.1 ((bit_set h).resolve_left (by decide))
      · exact fun h => HB.out.2.2.2.2.2.2.1 ((bit_set h).resolve_left (by decide))
      · exact (fun h h2 => by
            obtain ⟨G2, e2, k2⟩ := HB.out.2.2.2.2.2.2.2.1 ((bit_set h).resolve_left (by decide)) (fun c => h2 (bit_mono c))
            exact ⟨G2, e2, keep_block k2 hq⟩)
      · exact fun h => HB.out.2.2.2.2.2.2.2.2.1 ((bit_set h).resolve_left (by decide))
      · exact fun h => HB.out.2.2.2.2.2.2.2.2.2.1 ((bit_set h).resolve_left (by decide))
      · exact fun h => HB.out.2.2.2.2.2.2.2.2.2.2.1 ((bit_set h).resolve_left (by decide))
      · exact (fun h h2 => by
            obtain ⟨G2, e2, k2⟩ := HB.out.2.2.2.2.2.2.2.2.2.2.2.1 ((bit_set h).resolve_left (by decide)) (fun c => h2 (bit_mono c))
            exact ⟨G2, e2, keep_block k2 hq⟩)
      · exact fun h => HB.out.2.2.2.2.2.2.2.2.2.2.2.2.1 ((bit_set h).resolve_left (by decide))
      · exact (fun _ => ⟨W.heap.size, rfl, HB.out.2.2.1, by
            rw [bit_if (by decide), if_neg (fun c => bit_off hun (HB.out.2.2.2.2.2.2.2.2.2.2.2.2.2.2.2.1 c))]
            exact heap_alloc_new W _⟩)
      · exact (fun h => by
            obtain ⟨G2, e2, l2, k2⟩ := HB.out.2.2.2.2.2.2.2.2.2.2.2.2.2.2.1 ((bit_set h).resolve_left (by decide))
            exact ⟨G2, e2, l2, by rw [bit_if (by decide)]; exact keep_block k2 hq⟩)
      · exact fun h => bit_mono (HB.out.2.2.2.2.2.2.2.2.2.2.2.2.2.2.2.1 ((bit_set h).resolve_left (by decide)))
      · exact fun h => bit_mono (HB.out.2.2.2.2.2.2.2.2.2.2.2.2.2.2.2.2.1 ((bit_set h).resolve_left (by decide)))
      · exact (fun h h2 => by
            obtain ⟨G2, e2, _, k2⟩ := HB.out.2.2.2.2.2.2.2.2.2.2.2.2.2.2.1 ((bit_set h2).resolve_left (by decide))
            subst e2
            have := heap_lt k2
            intro hh
            injection hh with hh
            injection hh with hh
            injection hh with hh
            omega)
    · skip
      refine step_of ⟨some 8, _, _, _, _, _⟩ rfl (fun K' hK => ?_)
      simp only [putAll, List.zip_cons_cons, List.zip_nil_right, List.foldl_cons, List.foldl_nil, List.setIfInBounds_toArray, List.set_cons_zero, List.set_cons_succ]
      go_simp
      have hq : Below W.heap.size W (W.alloc (.cells #[.int .i64 0, .string { data := #[] }, .string { data := #[] }, .string { data := #[] }, .bool false, .int .i64 0, .int .i64 0, .int .i64 0, .slice none 0 0] 27)) := (Below.refl _ _).alloc (Nat.le_refl _) _
      refine hK.out _ _ ⟨_, ⟨s17, s18, s19, s20, s21, s22, s23, s24, s7, .pointer (some ⟨W.heap.size, 0, none⟩), rfl, ?_, ?_, ?_, ?_, ?_, ?_, ?_, ?_, ?_, ?_, ?_, ?_, ?_, ?_, ?_, ?_, ?_, ?_⟩, ?fr⟩
      case fr => simp only [putAll, List.zip_cons_cons, List.zip_nil_right, List.foldl_cons, List.foldl_nil, List.setIfInBounds_toArray, List.set_cons_zero, List.set_cons_succ]
      · exact (HB.out.1).below hq
      · exact (HB.out.2.1).trans (hq.mono (HB.out.2.1).size)
      · exact Nat.le_trans (HB.out.2.2.1) hq.size
      · exact keep_block (HB.out.2.2.2.1) hq
      · exact keep_block (HB.out.2.2.2.2.1) hq
      · exact fun h => HB.out.2.2.2.2.2.1 ((bit_set h).resolve_left (by decide))
      · exact fun h => HB.out.2.2.2.2.2.2.1 ((bit_set h).resolve_left (by decide))
      · exact (fun h h2 => by
            obtain ⟨G2, e2, k2⟩ := HB.out.2.2.2.2.2.2.2.1 ((bit_set h).resolve_left (by decide)) (fun c => h2 (bit_mono c))
            exact ⟨G2, e2, keep_block k2 hq⟩)
      · exact fun h => HB.out.2.2.2.2.2.2.2.2.1 ((bit_set h).resolve_left (by decide))
      · exact fun h => HB.out.2.2.2.2.2.2.2.2.2.1 ((bit_set h).resolve_left (by decide))
      · exact fun h => HB.out.2.2.2.2.2.2.2.2.2.2.1 ((bit_set h).resolve_left (by decide))
      · exact (fun h h2 => by
            obtain ⟨G2, e2, k2⟩ := HB.out.2.2.2.2.2.2.2.2.2.2.2.1 ((bit_set h).resolve_left (by decide)) (fun c => h2 (bit_mono c))
            exact ⟨G2, e2, keep_block k2 hq⟩)
      · exact fun h => HB.out.2.2.2.2.2.2.2.2.2.2.2.2.1 ((bit_set h).resolve_left (by decide))
      · exact (fun h => by
            obtain ⟨G2, e2, l2, k2⟩ := HB.out.2.2.2.2.2.2.2.2.2.2.2.2.2.1 ((bit_set h).resolve_left (by decide))
            exact ⟨G2, e2, l2, by rw [bit_if (by decide)]; exact keep_block k2 hq⟩)
      · exact (fun _ => ⟨W.heap.size, rfl, HB.out.2.2.1, by
            rw [bit_if (by decide), if_neg (fun c => bit_off hun (HB.out.2.2.2.2.2.2.2.2.2.2.2.2.2.2.2.2.1 c))]
            exact heap_alloc_new W _⟩)
      · exact fun h => bit_mono (HB.out.2.2.2.2.2.2.2.2.2.2.2.2.2.2.2.1 ((bit_set h).resolve_left (by decide)))
      · exact fun h => bit_mono (HB.out.2.2.2.2.2.2.2.2.2.2.2.2.2.2.2.2.1 ((bit_set h).resolve_left (by decide)))
      · exact (fun h h2 => by
            obtain ⟨G2, e2, _, k2⟩ := HB.out.2.2.2.2.2.2.2.2.2.2.2.2.2.1 ((bit_set h).resolve_left (by decide))
            subst e2
            have := heap_lt k2
            intro hh
            injection hh with hh
            injection hh with hh
            injection hh with hh
            omega)
    · skip
      have p8 := hpre 8 (by kernel_rfl)
      obtain ⟨G, hG, hGl, hGB⟩ := HB.out.2.2.2.2.2.2.2.2.2.2.2.2.2.1 p8
      subst hG
      rw [if_neg (bit_off hun)] at hGB
      have HGB := Lib.hid hGB
      clear hGB
      have p3 := hpre 3 (by kernel_rfl)
      have e3 := HB.out.2.2.2.2.2.2.2.2.1 p3
      subst e3
      obtain ⟨⟨y0, y1, y2, y3, y4, y5, y6, y7, y8⟩, g0, g1, g2, g3, g4, g5, g6, g7, g8⟩ := nine_at HGB.out
      have HGL := Lib.hid hGl
      clear hGl
      refine step_of ⟨none, _, _, _, _, _⟩ rfl (fun K' hK => ?_)
      simp only [putAll, List.zip_cons_cons, List.zip_nil_right, List.foldl_cons, List.foldl_nil, List.setIfInBounds_toArray, List.set_cons_zero, List.set_cons_succ]
      go_simp
      have hbs : w.heap.size ≤ WA.heap.size := HL0.out
      have hLn := (nine_end (x0 := (.int .i64 4)) (x1 := (.string { data := #[] })) (x2 := (.string { data := #[] })) (x3 := (.string { data := #[] })) (x4 := (.bool false)) (x5 := (.int .i64 1)) (x6 := (.int .i64 0)) (x7 := (.int .i64 0)) (x8 := (.slice none 0 0)) HGB.out (HB.out.2.1) (Nat.le_trans hbs HGL.out)).1
      have hoth := fun (k : Nat) (hk : k ≠ G) => set9_other W G (.int .i64 4) (.string { data := #[] }) (.string { data := #[] }) (.string { data := #[] }) (.bool false) (.int .i64 1) (.int .i64 0) (.int .i64 0) (.slice none 0 0) hk
      have hnew := set9_at HGB.out (.int .i64 4) (.string { data := #[] }) (.string { data := #[] }) (.string { data := #[] }) (.bool false) (.int .i64 1) (.int .i64 0) (.int .i64 0) (.slice none 0 0)
      refine hK.out _ _ ⟨_, ⟨s17, s18, s19, .agg #[.int .i64 4, .string { data := #[] }, .string { data := #[] }, .string { data := #[] }, .bool false, .int .i64 1, .int .i64 0, .int .i64 0, .slice none 0 0], s21, s22, s23, s24, .pointer (some ⟨G, 0, none⟩), s8, rfl, ?_, ?_, ?_, ?_, ?_, ?_, ?_, ?_, ?_, ?_, ?_, ?_, ?_, ?_, ?_, ?_, ?_, ?_⟩, ?fr⟩
      case fr => simp only [putAll, List.zip_cons_cons, List.zip_nil_right, List.foldl_cons, List.foldl_nil, List.setIfInBounds_toArray, List.set_cons_zero, List.set_cons_succ]
      · exact (HB.out.1).but hoth (by simp [size_setCell]) ⟨Nat.lt_of_lt_of_le HP0.out.1 HGL.out, Nat.lt_of_lt_of_le HP0.out.2 HGL.out⟩
      · exact hLn
      · exact (by simp only [size_setCell]; exact HB.out.2.2.1)
      · exact (hoth _ (Nat.ne_of_lt (Nat.lt_of_lt_of_le (heap_lt HX0.out) HGL.out))).trans (HB.out.2.2.2.1)
      · exact (hoth _ (Nat.ne_of_lt (Nat.lt_of_lt_of_le (heap_lt HY0.out) HGL.out))).trans (HB.out.2.2.2.2.1)
      · exact fun h => HB.out.2.2.2.2.2.1 ((bit_set h).resolve_left (by decide))
      · exact fun h => HB.out.2.2.2.2.2.2.1 ((bit_set h).resolve_left (by decide))
      · exact fun h h2 => absurd (bit_mono (hpre 3 (by kernel_rfl))) h2
      · exact fun h => HB.out.2.2.2.2.2.2.2.2.1 ((bit_set h).resolve_left (by decide))
      · exact fun h => HB.out.2.2.2.2.2.2.2.2.2.1 ((bit_set h).resolve_left (by decide))
      · exact fun h => HB.out.2.2.2.2.2.2.2.2.2.2.1 ((bit_set h).resolve_left (by decide))
      · exact fun h h2 => absurd (bit_mono (hpre 7 (by kernel_rfl))) h2
      · exact fun h => HB.out.2.2.2.2.2.2.2.2.2.2.2.2.1 ((bit_set h).resolve_left (by decide))
      · exact fun h => ⟨G, rfl, HGL.out, by rw [if_pos (bit_self hun)]; exact hnew⟩
      · exact (fun h => by
            obtain ⟨G2, e2, l2, k2⟩ := HB.out.2.2.2.2.2.2.2.2.2.2.2.2.2.2.1 ((bit_set h).resolve_left (by decide))
            refine ⟨G2, e2, l2, ?_⟩
            rw [bit_if (by decide)]
            have hne : G2 ≠ G := by
              intro hh
              subst hh
              exact HB.out.2.2.2.2.2.2.2.2.2.2.2.2.2.2.2.2.2 p8 ((bit_set h).resolve_left (by decide)) e2.symm
            exact (hoth _ hne).trans k2)
      · exact fun _ => bit_mono p8
      · exact fun h => bit_mono (HB.out.2.2.2.2.2.2.2.2.2.2.2.2.2.2.2.2.1 ((bit_set h).resolve_left (by decide)))
      · exact fun h h2 => HB.out.2.2.2.2.2.2.2.2.2.2.2.2.2.2.2.2.2 ((bit_set h).resolve_left (by decide)) ((bit_set h2).resolve_left (by decide))
    · skip
      have p9 := hpre 9 (by kernel_rfl)
      obtain ⟨G, hG, hGl, hGB⟩ := HB.out.2.2.2.2.2.2.2.2.2.2.2.2.2.2.1 p9
      subst hG
      rw [if_neg (bit_off hun)] at hGB
      have HGB := Lib.hid hGB
      clear hGB
      have p7 := hpre 7 (by kernel_rfl)
      have e7 := HB.out.2.2.2.2.2.2.2.2.2.2.2.2.1 p7
      subst e7
      obtain ⟨⟨y0, y1, y2, y3, y4, y5, y6, y7, y8⟩, g0, g1, g2, g3, g4, g5, g6, g7, g8⟩ := nine_at HGB.out
      have HGL := Lib.hid hGl
      clear hGl
      refine step_of ⟨none, _, _, _, _, _⟩ rfl (fun K' hK => ?_)
      simp only [putAll, List.zip_cons_cons, List.zip_nil_right, List.foldl_cons, List.foldl_nil, List.setIfInBounds_toArray, List.set_cons_zero, List.set_cons_succ]
      go_simp
      have hbs : w.heap.size ≤ WA.heap.size := HL0.out
      have hLn := (nine_end (x0 := (.int .i64 4)) (x1 := (.string { data := #[] })) (x2 := (.string { data := #[] })) (x3 := (.string { data := #[] })) (x4 := (.bool false)) (x5 := (.int .i64 1)) (x6 := (.int .i64 0)) (x7 := (.int .i64 0)) (x8 := (.slice none 0 0)) HGB.out (HB.out.2.1) (Nat.le_trans hbs HGL.out)).1
      have hoth := fun (k : Nat) (hk : k ≠ G) => set9_other W G (.int .i64 4) (.string { data := #[] }) (.string { data := #[] }) (.string { data := #[] }) (.bool false) (.int .i64 1) (.int .i64 0) (.int .i64 0) (.slice none 0 0) hk
      have hnew := set9_at HGB.out (.int .i64 4) (.string { data := #[] }) (.string { data := #[] }) (.string { data := #[] }) (.bool false) (.int .i64 1) (.int .i64 0) (.int .i64 0) (.slice none 0 0)
      refine hK.out _ _ ⟨_, ⟨s17, s18, s19, s20, s21, s22, s23, .agg #[.int .i64 4, .string { data := #[] }, .string { data := #[] }, .string { data := #[] }, .bool false, .int .i64 1, .int .i64 0, .int .i64 0, .slice none 0 0], s7, .pointer (some ⟨G, 0, none⟩), rfl, ?_, ?_, ?_, ?_, ?_, ?_, ?_, ?_, ?_, ?_, ?_, ?_, ?_, ?_, ?_, ?_, ?_, ?_⟩, ?fr⟩
      case fr => simp only [putAll, List.zip_cons_cons, List.zip_nil_right, List.foldl_cons, List.foldl_nil, List.setIfInBounds_toArray, List.set_cons_zero, List.set_cons_succ]
      · exact (HB.out.1).but hoth (by simp [size_setCell]) ⟨Nat.lt_of_lt_of_le HP0.out.1 HGL.out, Nat.lt_of_lt_of_le HP0.out.2 HGL.out⟩
      · exact hLn
      · exact (by simp only [size_setCell]; exact HB.out.2.2.1)
      · exact (hoth _ (Nat.ne_of_lt (Nat.lt_of_lt_of_le (heap_lt HX0.out) HGL.out))).trans (HB.out.2.2.2.1)
      · exact (hoth _ (Nat.ne_of_lt (Nat.lt_of_lt_of_le (heap_lt HY0.out) HGL.out))).trans (HB.out.2.2.2.2.1)
      · exact fun h => HB.out.2.2.2.2.2.1 ((bit_set h).resolve_left (by decide))
      · exact fun h => HB.out.2.2.2.2.2.2.1 ((bit_set h).resolve_left (by decide))
      · exact fun h h2 => absurd (bit_mono (hpre 3 (by kernel_rfl))) h2
      · exact fun h => HB.out.2.2.2.2.2.2.2.2.1 ((bit_set h).resolve_left (by decide))
      · exact fun h => HB.out.2.2.2.2.2.2.2.2.2.1 ((bit_set h).resolve_left (by decide))
      · exact fun h => HB.out.2.2.2.2.2.2.2.2.2.2.1 ((bit_set h).resolve_left (by decide))
      · exact fun h h2 => absurd (bit_mono (hpre 7 (by kernel_rfl))) h2
      · exact fun h => HB.out.2.2.2.2.2.2.2.2.2.2.2.2.1 ((bit_set h).resolve_left (by decide))
      · exact (fun h => by
            obtain ⟨G2, e2, l2, k2⟩ := HB.out.2.2.2.2.2.2.2.2.2.2.2.2.2.1 ((bit_set h).resolve_left (by decide))
            refine ⟨G2, e2, l2, ?_⟩
            rw [bit_if (by decide)]
            have hne : G2 ≠ G := by
              intro hh
              subst hh
              exact HB.out.2.2.2.2.2.2.2.2.2.2.2.2.2.2.2.2.2 ((bit_set h).resolve_left (by decide)) p9 e2
            exact (hoth _ hne).trans k2)
      · exact fun h => ⟨G, rfl, HGL.out, by rw [if_pos (bit_self hun)]; exact hnew⟩
      · exact fun h => bit_mono (HB.out.2.2.2.2.2.2.2.2.2.2.2.2.2.2.2.1 ((bit_set h).resolve_left (by decide)))
      · exact fun _ => bit_mono p9
      · exact fun h h2 => HB.out.2.2.2.2.2.2.2.2.2.2.2.2.2.2.2.2.2 ((bit_set h).resolve_left (by decide)) ((bit_set h2).resolve_left (by decide))
  · rintro listed vs WC ⟨s17, s18, s19, s20, s21, s22, s23, s24, s7, s8, rfl, hb⟩ hall
    have e0 := hb.2.2.2.2.2.1 (hall 0 (by show 0 < 12; decide))
    subst e0
    have e1 := hb.2.2.2.2.2.2.1 (hall 1 (by show 1 < 12; decide))
    subst e1
    have e3 := hb.2.2.2.2.2.2.2.2.1 (hall 3 (by show 3 < 12; decide))
    subst e3
    have e4 := hb.2.2.2.2.2.2.2.2.2.1 (hall 4 (by show 4 < 12; decide))
    subst e4
    have e5 := hb.2.2.2.2.2.2.2.2.2.2.1 (hall 5 (by show 5 < 12; decide))
    subst e5
    have e7 := hb.2.2.2.2.2.2.2.2.2.2.2.2.1 (hall 7 (by show 7 < 12; decide))
    subst e7
    obtain ⟨bHQ, e8, _, k8⟩ := hb.2.2.2.2.2.2.2.2.2.2.2.2.2.1 (hall 8 (by show 8 < 12; decide))
    subst e8
    rw [if_pos (hall 10 (by show 10 < 12; decide))] at k8
    have HQ := Lib.hid k8
    clear k8
    obtain ⟨bHM, e9, _, k9⟩ := hb.2.2.2.2.2.2.2.2.2.2.2.2.2.2.1 (hall 9 (by show 9 < 12; decide))
    subst e9
    rw [if_pos (hall 11 (by show 11 < 12; decide))] at k9
    have HM := Lib.hid k9
    clear k9
    replace HE := Lib.hid (hb.1)
    replace HL := Lib.hid (hb.2.1)
    replace HX := Lib.hid (hb.2.2.2.1)
    replace HY := Lib.hid (hb.2.2.2.2.1)
    clear hb hall
    simp only [putAll, List.zip_cons_cons, List.zip_nil_right, List.foldl_cons, List.foldl_nil, List.setIfInBounds_toArray, List.set_cons_zero, List.set_cons_succ]
    obtain ⟨⟨yy0, yy1, yy2, yy3, yy4, yy5, yy6, yy7, yy8⟩, _⟩ := nine_at HY.out
    obtain ⟨⟨qq0, qq1, qq2, qq3, qq4, qq5, qq6, qq7, qq8⟩, _⟩ := nine_at HQ.out
    obtain ⟨⟨mm0, mm1, mm2, mm3, mm4, mm5, mm6, mm7, mm8⟩, _⟩ := nine_at HM.out
    go_wp2
    go_ret
    exact ⟨rfl, HL.out⟩

set_option maxHeartbeats 8000000 in
set_option maxRecDepth 100000 in
theorem divides_some (p q c m f r d : Rat) (x y : Int) (w : World) (hE : Env w) (hn : ((numS q).toList == [48]) = false)
    (hx : ∀ W, Env W → Calls Tryz.prog 14 #[.int .i64 x] W fun e w' => e = .returned (numVal p) ∧ Below W.heap.size W w')
    (hy : ∀ W, Env W → Calls Tryz.prog 14 #[.int .i64 y] W fun e w' => e = .returned (numVal q) ∧ Below W.heap.size W w')
    (tq : Math2 { data := #[81, 85, 79, 84, 73, 69, 78, 84] } p q (.agg #[.int .i64 1, .string (numS c), .string { data := #[49] }, .string { data := #[] }, .bool false, .int .i64 0, .int .i64 0, .int .i64 0, .slice none 0 0])) (tm : Math2 { data := #[77, 79, 68] } p q (.agg #[.int .i64 1, .string (numS m), .string (denS m), .string { data := #[] }, .bool false, .int .i64 0, .int .i64 0, .int .i64 0, .slice none 0 0]))
    (td : ∀ W, Env W → Calls Tryz.prog 15 #[fracV p, fracV q] W fun e w' => e = .returned (.tuple #[fracV r, .int .i64 0]) ∧ Below W.heap.size W w')
    (tf : ∀ W, Env W → Calls Tryz.prog 16 #[fracV r] W fun e w' => e = .returned (.tuple #[fracV f, .int .i64 0]) ∧ Below W.heap.size W w')
    (tn : ∀ W, Env W → Calls Tryz.prog 17 #[fracV f] W fun e w' => e = .returned (numVal f) ∧ Below W.heap.size W w')
    (tp : Math2 { data := #[80, 82, 79, 68, 85, 67, 84] } f q (.agg #[.int .i64 1, .string (numS d), .string (denS d), .string { data := #[] }, .bool false, .int .i64 0, .int .i64 0, .int .i64 0, .slice none 0 0]))
    (ts : ∀ W, Env W → Calls Tryz.prog 13 #[numVal d, numVal m] W fun e w' => e = .returned (numVal p) ∧ Below W.heap.size W w') :
    Calls Tryz.prog 6 #[.int .i64 x, .int .i64 y] w fun e w' => e = .returned (.bool true) ∧ Below w.heap.size w w' := by
  have TX := Lib.hid hx
  have TY := Lib.hid hy
  have TQ := Lib.hid tq
  have TM := Lib.hid tm
  unfold Math2 at TQ TM
  rw [numVal_is] at TX TY
  have HE := Lib.hid hE
  have HL := Lib.hid (Below.refl w.heap.size w)
  have TD := Lib.hid td
  have TF := Lib.hid tf
  have TN := Lib.hid tn
  have RP := Lib.hid (fun (W : World) g => math2 tp W g)
  have TS := Lib.hid ts
  have RS := Lib.hid same_self
  rw [fracV_is p, fracV_is q, fracV_is r] at TD
  rw [fracV_is r, fracV_is f] at TF
  rw [fracV_is f, numVal_is f] at TN
  rw [numVal_is d, numVal_is m, numVal_is p] at TS
  clear td tf tn tp ts
  clear hE hx hy tq tm
  go_enter Tryz.func6, Tryz.ntmps6
  go_wp2_with fail
  refine (TX.out _ HE.out).mono ?_
  rintro e w1 ⟨rfl, hq⟩
  replace HE := Lib.hid (HE.out.below hq)
  replace HL := Lib.hid (HL.out.trans (hq.mono HL.out.size))
  clear hq
  go_wp2_with fail
  refine (TY.out _ HE.out).mono ?_
  rintro e w2 ⟨rfl, hq⟩
  replace HE := Lib.hid (HE.out.below hq)
  replace HL := Lib.hid (HL.out.trans (hq.mono HL.out.size))
  clear hq
  have hq : Below w2.heap.size w2 ((w2.alloc (.cells #[.int .i64 1, .string (numS p), .string (denS p), .string { data := #[] }, .bool false, .int .i64 0, .int .i64 0, .int .i64 0, .slice none 0 0] 27)).alloc (.cells #[.int .i64 1, .string (numS q), .string (denS q), .string { data := #[] }, .bool false, .int .i64 0, .int .i64 0, .int .i64 0, .slice none 0 0] 27)) := ((Below.refl _ _).alloc (Nat.le_refl _) _).alloc (by simp) _
  replace HE := Lib.hid (HE.out.below hq)
  replace HL := Lib.hid (HL.out.trans (hq.mono HL.out.size))
  obtain ⟨hx, hy, _⟩ := two_new w2 (.cells #[.int .i64 1, .string (numS p), .string (denS p), .string { data := #[] }, .bool false, .int .i64 0, .int .i64 0, .int .i64 0, .slice none 0 0] 27) (.cells #[.int .i64 1, .string (numS q), .string (denS q), .string { data := #[] }, .bool false, .int .i64 0, .int .i64 0, .int .i64 0, .slice none 0 0] 27)
  have HX := Lib.hid hx
  have HY := Lib.hid hy
  clear hq hx hy
  obtain ⟨WA, hWA⟩ : ∃ Z, (w2.alloc (.cells #[.int .i64 1, .string (numS p), .string (denS p), .string { data := #[] }, .bool false, .int .i64 0, .int .i64 0, .int .i64 0, .slice none 0 0] 27)).alloc (.cells #[.int .i64 1, .string (numS q), .string (denS q), .string { data := #[] }, .bool false, .int .i64 0, .int .i64 0, .int .i64 0, .slice none 0 0] 27) = Z := ⟨_, rfl⟩
  rw [hWA] at HE HL HX HY
  have EWA := Lib.hid hWA
  clear hWA
  go_wp2_with fail
  rw [EWA.out]
  have HL0 := Lib.hid HL.out.size
  have HP0 := Lib.hid HE.out.room
  have HX0 := HX
  have HY0 := HY
  refine wp_region_by [17, 18, 19, 20, 21, 22, 23, 24, 7, 8] (fun listed vs W => ∃ (s17 : Value) (s18 : Value) (s19 : Value) (s20 : Value) (s21 : Value) (s22 : Value) (s23 : Value) (s24 : Value) (s7 : Value) (s8 : Value), vs = [s17, s18, s19, s20, s21, s22, s23, s24, s7, s8] ∧ Env W ∧ Below w.heap.size w W ∧ WA.heap.size ≤ W.heap.size ∧ W.heap[w2.heap.size]? = some (.cells #[.int .i64 1, .string (numS p), .string (denS p), .string { data := #[] }, .bool false, .int .i64 0, .int .i64 0, .int .i64 0, .slice none 0 0] 27 (0, 0)) ∧ W.heap[w2.heap.size + 1]? = some (.cells #[.int .i64 1, .string (numS q), .string (denS q), .string { data := #[] }, .bool false, .int .i64 0, .int .i64 0, .int .i64 0, .slice none 0 0] 27 (0, 0)) ∧ (listed.getD 0 false = true → s17 = .agg #[.int .i64 1, .string (numS p), .string (denS p), .string { data := #[] }, .bool false, .int .i64 0, .int .i64 0, .int .i64 0, .slice none 0 0]) ∧ (listed.getD 1 false = true → s18 = .agg #[.int .i64 1, .string (numS q), .string (denS q), .string { data := #[] }, .bool false, .int .i64 0, .int .i64 0, .int .i64 0, .slice none 0 0]) ∧ (listed.getD 2 false = true → ¬ listed.getD 3 false = true → ∃ G, s19 = .slice (some ⟨G, 0, none⟩) 2 2 ∧ W.heap[G]? = some (.cells #[.int .i64 1, .string (numS p), .string (denS p), .string { data := #[] }, .bool false, .int .i64 0, .int .i64 0, .int .i64 0, .slice none 0 0, .int .i64 1, .string (numS q), .string (denS q), .string { data := #[] }, .bool false, .int .i64 0, .int .i64 0, .int .i64 0, .slice none 0 0] 27 (0, 0))) ∧ (listed.getD 3 false = true → s20 = .agg #[.int .i64 1, .string (numS c), .string { data := #[49] }, .string { data := #[] }, .bool false, .int .i64 0, .int .i64 0, .int .i64 0, .slice none 0 0]) ∧ (listed.getD 4 false = true → s21 = .agg #[.int .i64 1, .string (numS p), .string (denS p), .string { data := #[] }, .bool false, .int .i64 0, .int .i64 0, .int .i64 0, .slice none 0 0]) ∧ (listed.getD 5 false = true → s22 = .agg #[.int .i64 1, .string (numS q), .string (denS q), .string { data := #[] }, .bool false, .int .i64 0, .int .i64 0, .int .i64 0, .slice none 0 0]) ∧ (listed.getD 6 false = true → ¬ listed.getD 7 false = true → ∃ G, s23 = .slice (some ⟨G, 0, none⟩) 2 2 ∧ W.heap[G]? = some (.cells #[.int .i64 1, .string (numS p), .string (denS p), .string { data := #[] }, .bool false, .int .i64 0, .int .i64 0, .int .i64 0, .slice none 0 0, .int .i64 1, .string (numS q), .string (denS q), .string { data := #[] }, .bool false, .int .i64 0, .int .i64 0, .int .i64 0, .slice none 0 0] 27 (0, 0))) ∧ (listed.getD 7 false = true → s24 = .agg #[.int .i64 1, .string (numS m), .string (denS m), .string { data := #[] }, .bool false, .int .i64 0, .int .i64 0, .int .i64 0, .slice none 0 0]) ∧ (listed.getD 8 false = true → ∃ G, s7 = .pointer (some ⟨G, 0, none⟩) ∧ WA.heap.size ≤ G ∧ W.heap[G]? = some (.cells (if listed.getD 10 false then #[.int .i64 1, .string (numS c), .string { data := #[49] }, .string { data := #[] }, .bool false, .int .i64 0, .int .i64 0, .int .i64 0, .slice none 0 0] else #[.int .i64 0, .string { data := #[] }, .string { data := #[] }, .string { data := #[] }, .bool false, .int .i64 0, .int .i64 0, .int .i64 0, .slice none 0 0]) 27 (0, 0))) ∧ (listed.getD 9 false = true → ∃ G, s8 = .pointer (some ⟨G, 0, none⟩) ∧ WA.heap.size ≤ G ∧ W.heap[G]? = some (.cells (if listed.getD 11 false then #[.int .i64 1, .string (numS m), .string (denS m), .string { data := #[] }, .bool false, .int .i64 0, .int .i64 0, .int .i64 0, .slice none 0 0] else #[.int .i64 0, .string { data := #[] }, .string { data := #[] }, .string { data := #[] }, .bool false, .int .i64 0, .int .i64 0, .int .i64 0, .slice none 0 0]) 27 (0, 0))) ∧ (listed.getD 10 false = true → listed.getD 8 false = true) ∧ (listed.getD 11 false = true → listed.getD 9 false = true) ∧ (listed.getD 8 false = true → listed.getD 9 false = true → s7 ≠ s8)) (by kernel_rfl) (by kernel_rfl) [undef, undef, undef, undef, undef, undef, undef, undef, undef, undef] ?h00 ?h0 ?hs ?hd
  case h00 => simp only [putAll, List.zip_cons_cons, List.zip_nil_right, List.foldl_cons, List.foldl_nil, List.setIfInBounds_toArray, List.set_cons_zero, List.set_cons_succ]
  · exact ⟨_, _, _, _, _, _, _, _, _, _, rfl, HE.out.below (Below.refl _ _).drew, HL.out.drew, Nat.le_refl _, drew_block HX.out, drew_block HY.out, fun h => absurd h bit_none, fun h => absurd h bit_none, fun h => absurd h bit_none, fun h => absurd h bit_none, fun h => absurd h bit_none, fun h => absurd h bit_none, fun h => absurd h bit_none, fun h => absurd h bit_none, fun h => absurd h bit_none, fun h => absurd h bit_none, fun h => absurd h bit_none, fun h => absurd h bit_none, fun h => absurd h bit_none⟩
  · rintro listed vs W ⟨s17, s18, s19, s20, s21, s22, s23, s24, s7, s8, rfl, hb⟩ i hi hun hpre
    have HB := Lib.hid hb
    have hi : i < 12 := hi
    clear hb
    rcases (by omega : i = 0 ∨ i = 1 ∨ i = 2 ∨ i = 3 ∨ i = 4 ∨ i = 5 ∨ i = 6 ∨ i = 7 ∨ i = 8 ∨ i = 9 ∨ i = 10 ∨ i = 11) with rfl | rfl | rfl | rfl | rfl | rfl | rfl | rfl | rfl | rfl | rfl | rfl
    · skip
      obtain ⟨⟨cHX0, cHX1, cHX2, cHX3, cHX4, cHX5, cHX6, cHX7, cHX8⟩, _⟩ := nine_at HB.out.2.2.2.1
      refine step_of ⟨some 17, _, _, _, _, _⟩ rfl (fun K' hK => ?_)
      simp only [putAll, List.zip_cons_cons, List.zip_nil_right, List.foldl_cons, List.foldl_nil, List.setIfInBounds_toArray, List.set_cons_zero, List.set_cons_succ]
      go_simp
      refine hK.out _ _ ⟨_, ⟨.agg #[.int .i64 1, .string (numS p), .string (denS p), .string { data := #[] }, .bool false, .int .i64 0, .int .i64 0, .int .i64 0, .slice none 0 0], s18, s19, s20, s21, s22, s23, s24, s7, s8, rfl, ?_, ?_, ?_, ?_, ?_, ?_, ?_, ?_, ?_, ?_, ?_, ?_, ?_, ?_, ?_, ?_, ?_, ?_⟩, ?fr⟩
      case fr => simp only [putAll, List.zip_cons_cons, List.zip_nil_right, List.foldl_cons, List.foldl_nil, List.setIfInBounds_toArray, List.set_cons_zero, List.set_cons_succ]
      · exact HB.out.1
      · exact HB.out.2.1
      · exact HB.out.2.2.1
      · exact HB.out.2.2.2.1
      · exact HB.out.2.2.2.2.1
      · exact fun _ => rfl
      · exact fun h => HB.out.2.2.2.2.2.2.1 ((bit_set h).resolve_left (by decide))
      · exact fun h h2 => HB.out.2.2.2.2.2.2.2.1 ((bit_set h).resolve_left (by decide)) (fun c => h2 (bit_mono c))
      · exact fun h => HB.out.2.2.2.2.2.2.2.2.1 ((bit_set h).resolve_left (by decide))
      · exact fun h => HB.out.2.2.2.2.2.2.2.2.2.1 ((bit_set h).resolve_left (by decide))
      · exact fun h => HB.out.2.2.2.2.2.2.2.2.2.2.1 ((bit_set h).resolve_left (by decide))
      · exact fun h h2 => HB.out.2.2.2.2.2.2.2.2.2.2.2.1 ((bit_set h).resolve_left (by decide)) (fun c => h2 (bit_mono c))
      · exact fun h => HB.out.2.2.2.2.2.2.2.2.2.2.2.2.1 ((bit_set h).resolve_left (by decide))
      · exact (fun h => by
            obtain ⟨G2, e2, l2, k2⟩ := HB.out.2.2.2.2.2.2.2.2.2.2.2.2.2.1 ((bit_set h).resolve_left (by decide))
            exact ⟨G2, e2, l2, by rw [bit_if (by decide)]; exact k2⟩)
      · exact (fun h => by
            obtain ⟨G2, e2, l2, k2⟩ := HB.out.2.2.2.2.2.2.2.2.2.2.2.2.2.2.1 ((bit_set h).resolve_left (by decide))
            exact ⟨G2, e2, l2, by rw [bit_if (by decide)]; exact k2⟩)
      · exact fun h => bit_mono (HB.out.2.2.2.2.2.2.2.2.2.2.2.2.2.2.2.1 ((bit_set h).resolve_left (by decide)))
      · exact fun h => bit_mono (HB.out.2.2.2.2.2.2.2.2.2.2.2.2.2.2.2.2.1 ((bit_set h).resolve_left (by decide)))
      · exact fun h h2 => HB.out.2.2.2.2.2.2.2.2.2.2.2.2.2.2.2.2.2 ((bit_set h).resolve_left (by decide)) ((bit_set h2).resolve_left (by decide))
    · skip
      obtain ⟨⟨cHY0, cHY1, cHY2, cHY3, cHY4, cHY5, cHY6, cHY7, cHY8⟩, _⟩ := nine_at HB.out.2.2.2.2.1
      refine step_of ⟨some 18, _, _, _, _, _⟩ rfl (fun K' hK => ?_)
      simp only [putAll, List.zip_cons_cons, List.zip_nil_right, List.foldl_cons, List.foldl_nil, List.setIfInBounds_toArray, List.set_cons_zero, List.set_cons_succ]
      go_simp
      refine hK.out _ _ ⟨_, ⟨s17, .agg #[.int .i64 1, .string (numS q), .string (denS q), .string { data := #[] }, .bool false, .int .i64 0, .int .i64 0, .int .i64 0, .slice none 0 0], s19, s20, s21, s22, s23, s24, s7, s8, rfl, ?_, ?_, ?_, ?_, ?_, ?_, ?_, ?_, ?_, ?_, ?_, ?_, ?_, ?_, ?_, ?_, ?_, ?_⟩, ?fr⟩
      case fr => simp only [putAll, List.zip_cons_cons, List.zip_nil_right, List.foldl_cons, List.foldl_nil, List.setIfInBounds_toArray, List.set_cons_zero, List.set_cons_succ]
      · exact HB.out.1
      · exact HB.out.2.1
      · exact HB.out.2.2.1
      · exact HB.out.2.2.2.1
      · exact HB.out.2.2.2.2.1
      · exact fun h => HB.out.2.2.2.2.2.1 ((bit_set h).resolve_left (by decide))
      · exact fun _ => rfl
      · exact fun h h2 => HB.out.2.2.2.2.2.2.2.1 ((bit_set h).resolve_left (by decide)) (fun c => h2 (bit_mono c))
      · exact fun h => HB.out.2.2.2.2.2.2.2.2.1 ((bit_set h).resolve_left (by decide))
      · exact fun h => HB.out.2.2.2.2.2.2.2.2.2.1 ((bit_set h).resolve_left (by decide))
      · exact fun h => HB.out.2.2.2.2.2.2.2.2.2.2.1 ((bit_set h).resolve_left (by decide))
      · exact fun h h2 => HB.out.2.2.2.2.2.2.2.2.2.2.2.1 ((bit_set h).resolve_left (by decide)) (fun c => h2 (bit_mono c))
      · exact fun h => HB.out.2.2.2.2.2.2.2.2.2.2.2.2.1 ((bit_set h).resolve_left (by decide))
      · exact (fun h => by
            obtain ⟨G2, e2, l2, k2⟩ := HB.out.2.2.2.2.2.2.2.2.2.2.2.2.2.1 ((bit_set h).resolve_left (by decide))
            exact ⟨G2, e2, l2, by rw [bit_if (by decide)]; exact k2⟩)
      · exact (fun h => by
            obtain ⟨G2, e2, l2, k2⟩ := HB.out.2.2.2.2.2.2.2.2.2.2.2.2.2.2.1 ((bit_set h).resolve_left (by decide))
            exact ⟨G2, e2, l2, by rw [bit_if (by decide)]; exact k2⟩)
      · exact fun h => bit_mono (HB.out.2.2.2.2.2.2.2.2.2.2.2.2.2.2.2.1 ((bit_set h).resolve_left (by decide)))
      · exact fun h => bit_mono (HB.out.2.2.2.2.2.2.2.2.2.2.2.2.2.2.2.2.1 ((bit_set h).resolve_left (by decide)))
      · exact fun h h2 => HB.out.2.2.2.2.2.2.2.2.2.2.2.2.2.2.2.2.2 ((bit_set h).resolve_left (by decide)) ((bit_set h2).resolve_left (by decide))
    · skip
      have p0 := hpre 0 (by kernel_rfl)
      have e0 := HB.out.2.2.2.2.2.1 p0
      subst e0
      have p1 := hpre 1 (by kernel_rfl)
      have e1 := HB.out.2.2.2.2.2.2.1 p1
      subst e1
      refine step_of ⟨some 19, _, _, _, _, _⟩ rfl (fun K' hK => ?_)
      simp only [putAll, List.zip_cons_cons, List.zip_nil_right, List.foldl_cons, List.foldl_nil, List.setIfInBounds_toArray, List.set_cons_zero, List.set_cons_succ]
      go_simp
      have hq : Below W.heap.size W (W.alloc (.cells #[.int .i64 1, .string (numS p), .string (denS p), .string { data := #[] }, .bool false, .int .i64 0, .int .i64 0, .int .i64 0, .slice none 0 0, .int .i64 1, .string (numS q), .string (denS q), .string { data := #[] }, .bool false, .int .i64 0, .int .i64 0, .int .i64 0, .slice none 0 0] 27)) := (Below.refl _ _).alloc (Nat.le_refl _) _
      refine hK.out _ _ ⟨_, ⟨.agg #[.int .i64 1, .string (numS p), .string (denS p), .string { data := #[] }, .bool false, .int .i64 0, .int .i64 0, .int .i64 0, .slice none 0 0], .agg #[.int .i64 1, .string (numS q), .string (denS q), .string { data := #[] }, .bool false, .int .i64 0, .int .i64 0, .int .i64 0, .slice none 0 0], .slice (some ⟨W.heap.size, 0, none⟩) 2 2, s20, s21, s22, s23, s24, s7, s8, rfl, ?_, ?_, ?_, ?_, ?_, ?_, ?_, ?_, ?_, ?_, ?_, ?_, ?_, ?_, ?_, ?_, ?_, ?_⟩, ?fr⟩
      case fr => simp only [putAll, List.zip_cons_cons, List.zip_nil_right, List.foldl_cons, List.foldl_nil, List.setIfInBounds_toArray, List.set_cons_zero, List.set_cons_succ]
      · exact (HB.out.1).below hq
      · exact (HB.out.2.1).trans (hq.mono (HB.out.2.1).size)
      · exact Nat.le_trans (HB.out.2.2.1) hq.size
      · exact keep_block (HB.out.2.2.2.1) hq
      · exact keep_block (HB.out.2.2.2.2.1) hq
      · exact fun h => HB.out.2.2.2.2.2.1 ((bit_set h).resolve_left (by decide))
      · exact fun h => HB.out.2.2.2.2.2.2.1 ((bit_set h).resolve_left (by decide))
      · exact fun _ _ => ⟨W.heap.size, rfl, heap_alloc_new W _⟩
      · exact fun h => HB.out.2.2.2.2.2.2.2.2.1 ((bit_set h).resolve_left (by decide))
      · exact fun h => HB.out.2.2.2.2.2.2.2.2.2.1 ((bit_set h).resolve_left (by decide))
      · exact fun h => HB.out.2.2.2.2.2.2.2.2.2.2.1 ((bit_set h).resolve_left (by decide))
      · exact (fun h h2 => by
            obtain ⟨G2, e2, k2⟩ := HB.out.2.2.2.2.2.2.2.2.2.2.2.1 ((bit_set h).resolve_left (by decide)) (fun c => h2 (bit_mono c))
            exact ⟨G2, e2, keep_block k2 hq⟩)
      · exact fun h => HB.out.2.2.2.2.2.2.2.2.2.2.2.2.1 ((bit_set h).resolve_left (by decide))
      · exact (fun h => by
            obtain ⟨G2, e2, l2, k2⟩ := HB.out.2.2.2.2.2.2.2.2.2.2.2.2.2.1 ((bit_set h).resolve_left (by decide))
            exact ⟨G2, e2, l2, by rw [bit_if (by decide)]; exact keep_block k2 hq⟩)
      · exact (fun h => by
            obtain ⟨G2, e2, l2, k2⟩ := HB.out.2.2.2.2.2.2.2.2.2.2.2.2.2.2.1 ((bit_set h).resolve_left (by decide))
            exact ⟨G2, e2, l2, by rw [bit_if (by decide)]; exact keep_block k2 hq⟩)
      · exact fun h => bit_mono (HB.out.2.2.2.2.2.2.2.2.2.2.2.2.2.2.2.1 ((bit_set h).resolve_left (by decide)))
      · exact fun h => bit_mono (HB.out.2.2.2.2.2.2.2.2.2.2.2.2.2.2.2.2.1 ((bit_set h).resolve_left (by decide)))
      · exact fun h h2 => HB.out.2.2.2.2.2.2.2.2.2.2.2.2.2.2.2.2.2 ((bit_set h).resolve_left (by decide)) ((bit_set h2).resolve_left (by decide))
    · skip
      have p2 := hpre 2 (by kernel_rfl)
      obtain ⟨G, hG, hGB⟩ := HB.out.2.2.2.2.2.2.2.1 p2 (bit_off hun)
      subst hG
      refine step_of ⟨some 20, _, _, _, _, _⟩ rfl (fun K' hK => ?_)
      simp only [putAll, List.zip_cons_cons, List.zip_nil_right, List.foldl_cons, List.foldl_nil, List.setIfInBounds_toArray, List.set_cons_zero, List.set_cons_succ]
      go_simp
      go_at_call 10
      (with_reducible refine (TQ.out _ G 2 (vals_of_block hGB rfl) HB.out.1).mono ?_)
      rintro e W2 ⟨rfl, hq⟩
      refine hK.out _ _ ⟨_, ⟨s17, s18, .slice (some ⟨G, 0, none⟩) 2 2, .agg #[.int .i64 1, .string (numS c), .string { data := #[49] }, .string { data := #[] }, .bool false, .int .i64 0, .int .i64 0, .int .i64 0, .slice none 0 0], s21, s22, s23, s24, s7, s8, rfl, ?_, ?_, ?_, ?_, ?_, ?_, ?_, ?_, ?_, ?_, ?_, ?_, ?_, ?_, ?_, ?_, ?_, ?_⟩, ?fr⟩
      case fr => simp only [putAll, List.zip_cons_cons, List.zip_nil_right, List.foldl_cons, List.foldl_nil, List.setIfInBounds_toArray, List.set_cons_zero, List.set_cons_succ]
      · exact (HB.out.1).below hq
      · exact (HB.out.2.1).trans (hq.mono (HB.out.2.1).size)
      · exact Nat.le_trans (HB.out.2.2.1) hq.size
      · exact keep_block (HB.out.2.2.2.1) hq
      · exact keep_block (HB.out.2.2.2.2.1) hq
      · exact fun h => HB.out.2.2.2.2.2.1 ((bit_set h).resolve_left (by decide))
      · exact fun h => HB.out.2.2.2.2.2.2.1 ((bit_set h).resolve_left (by decide))
      · exact fun h h2 => absurd (bit_self hun) h2
      · exact fun _ => rfl
      · exact fun h => HB.out.2.2.2.2.2.2.2.2.2.1 ((bit_set h).resolve_left (by decide))
      · exact fun h => HB.out.2.2.2.2.2.2.2.2.2.2.1 ((bit_set h).resolve_left (by decide))
      · exact (fun h h2 => by
            obtain ⟨G2, e2, k2⟩ := HB.out.2.2.2.2.2.2.2.2.2.2.2.1 ((bit_set h).resolve_left (by decide)) (fun c => h2 (bit_mono c))
            exact ⟨G2, e2, keep_block k2 hq⟩)
      · exact fun h => HB.out.2.2.2.2.2.2.2.2.2.2.2.2.1 ((bit_set h).resolve_left (by decide))
      · exact (fun h => by
            obtain ⟨G2, e2, l2, k2⟩ := HB.out.2.2.2.2.2.2.2.2.2.2.2.2.2.1 ((bit_set h).resolve_left (by decide))
            exact ⟨G2, e2, l2, by rw [bit_if (by decide)]; exact keep_block k2 hq⟩)
      · exact (fun h => by
            obtain ⟨G2, e2, l2, k2⟩ := HB.out.2.2.2.2.2.2.2.2.2.2.2.2.2.2.1 ((bit_set h).resolve_left (by decide))
            exact ⟨G2, e2, l2, by rw [bit_if (by decide)]; exact keep_block k2 hq⟩)
      · exact fun h => bit_mono (HB.out.2.2.2.2.2.2.2.2.2.2.2.2.2.2.2.1 ((bit_set h).resolve_left (by decide)))
      · exact fun h => bit_mono (HB.out.2.2.2.2.2.2.2.2.2.2.2.2.2.2.2.2.1 ((bit_set h).resolve_left (by decide)))
      · exact fun h h2 => HB.out.2.2.2.2.2.2.2.2.2.2.2.2.2.2.2.2.2 ((bit_set h).resolve_left (by decide)) ((bit_set h2).resolve_left (by decide))
    · skip
      obtain ⟨⟨cHX0, cHX1, cHX2, cHX3, cHX4, cHX5, cHX6, cHX7, cHX8⟩, _⟩ := nine_at HB.out.2.2.2.1
      refine step_of ⟨some 21, _, _, _, _, _⟩ rfl (fun K' hK => ?_)
      simp only [putAll, List.zip_cons_cons, List.zip_nil_right, List.foldl_cons, List.foldl_nil, List.setIfInBounds_toArray, List.set_cons_zero, List.set_cons_succ]
      go_simp
      refine hK.out _ _ ⟨_, ⟨s17, s18, s19, s20, .agg #[.int .i64 1, .string (numS p), .string (denS p), .string { data := #[] }, .bool false, .int .i64 0, .int .i64 0, .int .i64 0, .slice none 0 0], s22, s23, s24, s7, s8, rfl, ?_, ?_, ?_, ?_, ?_, ?_, ?_, ?_, ?_, ?_, ?_, ?_, ?_, ?_, ?_, ?_, ?_, ?_⟩, ?fr⟩
      case fr => simp only [putAll, List.zip_cons_cons, List.zip_nil_right, List.foldl_cons, List.foldl_nil, List.setIfInBounds_toArray, List.set_cons_zero, List.set_cons_succ]
      · exact HB.out.1
      · exact HB.out.2.1
      · exact HB.out.2.2.1
      · exact HB.out.2.2.2.1
      · exact HB.out.2.2.2.2.1
      · exact fun h => HB.out.2.2.2.2.2.1 ((bit_set h).resolve_left (by decide))
      · exact fun h => HB.out.2.2.2.2.2.2.1 ((bit_set h).resolve_left (by decide))
      · exact fun h h2 => HB.out.2.2.2.2.2.2.2.1 ((bit_set h).resolve_left (by decide)) (fun c => h2 (bit_mono c))
      · exact fun h => HB.out.2.2.2.2.2.2.2.2.1 ((bit_set h).resolve_left (by decide))
      · exact fun _ => rfl
      · exact fun h => HB.out.2.2.2.2.2.2.2.2.2.2.1 ((bit_set h).resolve_left (by decide))
      · exact fun h h2 => HB.out.2.2.2.2.2.2.2.2.2.2.2.1 ((bit_set h).resolve_left (by decide)) (fun c => h2 (bit_mono c))
      · exact fun h => HB.out.2.2.2.2.2.2.2.2.2.2.2.2.1 ((bit_set h).resolve_left (by decide))
      · exact (fun h => by
            obtain ⟨G2, e2, l2, k2⟩ := HB.out.2.2.2.2.2.2.2.2.2.2.2.2.2.1 ((bit_set h).resolve_left (by decide))
            exact ⟨G2, e2, l2, by rw [bit_if (by decide)]; exact k2⟩)
      · exact (fun h => by
            obtain ⟨G2, e2, l2, k2⟩ := HB.out.2.2.2.2.2.2.2.2.2.2.2.2.2.2.1 ((bit_set h).resolve_left (by decide))
            exact ⟨G2, e2, l2, by rw [bit_if (by decide)]; exact k2⟩)
      · exact fun h => bit_mono (HB.out.2.2.2.2.2.2.2.2.2.2.2.2.2.2.2.1 ((bit_set h).resolve_left (by decide)))
      · exact fun h => bit_mono (HB.out.2.2.2.2.2.2.2.2.2.2.2.2.2.2.2.2.1 ((bit_set h).resolve_left (by decide)))
      · exact fun h h2 => HB.out.2.2.2.2.2.2.2.2.2.2.2.2.2.2.2.2.2 ((bit_set h).resolve_left (by decide)) ((bit_set h2).resolve_left (by decide))
    · skip
      obtain ⟨⟨cHY0, cHY1, cHY2, cHY3, cHY4, cHY5, cHY6, cHY7, cHY8⟩, _⟩ := nine_at HB.out.2.2.2.2.1
      refine step_of ⟨some 22, _, _, _, _, _⟩ rfl (fun K' hK => ?_)
      simp only [putAll, List.zip_cons_cons, List.zip_nil_right, List.foldl_cons, List.foldl_nil, List.setIfInBounds_toArray, List.set_cons_zero, List.set_cons_succ]
      go_simp
      refine hK.out _ _ ⟨_, ⟨s17, s18, s19, s20, s21, .agg #[.int .i64 1, .string (numS q), .string (denS q), .string { data := #[] }, .bool false, .int .i64 0, .int .i64 0, .int .i64 0, .slice none 0 0], s23, s24, s7, s8, rfl, ?_, ?_, ?_, ?_, ?_, ?_, ?_, ?_, ?_, ?_, ?_, ?_, ?_, ?_, ?_, ?_, ?_, ?_⟩, ?fr⟩
      case fr => simp only [putAll, List.zip_cons_cons, List.zip_nil_right, List.foldl_cons, List.foldl_nil, List.setIfInBounds_toArray, List.set_cons_zero, List.set_cons_succ]
      · exact HB.out.1
      · exact HB.out.2.1
      · exact HB.out.2.2.1
      · exact HB.out.2.2.2.1
      · exact HB.out.2.2.2.2.1
      · exact fun h => HB.out.2.2.2.2.2.1 ((bit_set h).resolve_left (by decide))
      · exact fun h => HB.out.2.2.2.2.2.2.1 ((bit_set h).resolve_left (by decide))
      · exact fun h h2 => HB.out.2.2.2.2.2.2.2.1 ((bit_set h).resolve_left (by decide)) (fun c => h2 (bit_mono c))
      · exact fun h => HB.out.2.2.2.2.2.2.2.2.1 ((bit_set h).resolve_left (by decide))
      · exact fun h => HB.out.2.2.2.2.2.2.2.2.2.1 ((bit_set h).resolve_left (by decide))
      · exact fun _ => rfl
      · exact fun h h2 => HB.out.2.2.2.2.2.2.2.2.2.2.2.1 ((bit_set h).resolve_left (by decide)) (fun c => h2 (bit_mono c))
      · exact fun h => HB.out.2.2.2.2.2.2.2.2.2.2.2.2.1 ((bit_set h).resolve_left (by decide))
      · exact (fun h => by
            obtain ⟨G2, e2, l2, k2⟩ := HB.out.2.2.2.2.2.2.2.2.2.2.2.2.2.1 ((bit_set h).resolve_left (by decide))
            exact ⟨G2, e2, l2, by rw [bit_if (by decide)]; exact k2⟩)
      · exact (fun h => by
            obtain ⟨G2, e2, l2, k2⟩ := HB.out.2.2.2.2.2.2.2.2.2.2.2.2.2.2.1 ((bit_set h).resolve_left (by decide))
            exact ⟨G2, e2, l2, by rw [bit_if (by decide)]; exact k2⟩)
      · exact fun h => bit_mono (HB.out.2.2.2.2.2.2.2.2.2.2.2.2.2.2.2.1 ((bit_set h).resolve_left (by decide)))
      · exact fun h => bit_mono (HB.out.2.2.2.2.2.2.2.2.2.2.2.2.2.2.2.2.1 ((bit_set h).resolve_left (by decide)))
      · exact fun h h2 => HB.out.2.2.2.2.2.2.2.2.2.2.2.2.2.2.2.2.2 ((bit_set h).resolve_left (by decide)) ((bit_set h2).resolve_left (by decide))
    · skip
      have p4 := hpre 4 (by kernel_rfl)
      have e4 := HB.out.2.2.2.2.2.2.2.2.2.1 p4
      subst e4
      have p5 := hpre 5 (by kernel_rfl)
      have e5 := HB.out.2.2.2.2.2.2.2.2.2.2.1 p5
      subst e5
      refine step_of ⟨some 23, _, _, _, _, _⟩ rfl (fun K' hK => ?_)
      simp only [putAll, List.zip_cons_cons, List.zip_nil_right, List.foldl_cons, List.foldl_nil, List.setIfInBounds_toArray, List.set_cons_zero, List.set_cons_succ]
      go_simp
      have hq : Below W.heap.size W (W.alloc (.cells #[.int .i64 1, .string (numS p), .string (denS p), .string { data := #[] }, .bool false, .int .i64 0, .int .i64 0, .int .i64 0, .slice none 0 0, .int .i64 1, .string (numS q), .string (denS q), .string { data := #[] }, .bool false, .int .i64 0, .int .i64 0, .int .i64 0, .slice none 0 0] 27)) := (Below.refl _ _).alloc (Nat.le_refl _) _
      refine hK.out _ _ ⟨_, ⟨s17, s18, s19, s20, .agg #[.int .i64 1, .string (numS p), .string (denS p), .string { data := #[] }, .bool false, .int .i64 0, .int .i64 0, .int .i64 0, .slice none 0 0], .agg #[.int .i64 1, .string (numS q), .string (denS q), .string { data := #[] }, .bool false, .int .i64 0, .int .i64 0, .int .i64 0, .slice none 0 0], .slice (some ⟨W.heap.size, 0, none⟩) 2 2, s24, s7, s8, rfl, ?_, ?_, ?_, ?_, ?_, ?_, ?_, ?_, ?_, ?_, ?_, ?_, ?_, ?_, ?_, ?_, ?_, ?_⟩, ?fr⟩
      case fr => simp only [putAll, List.zip_cons_cons, List.zip_nil_right, List.foldl_cons, List.foldl_nil, List.setIfInBounds_toArray, List.set_cons_zero, List.set_cons_succ]
      · exact (HB.out.1).below hq
      · exact (HB.out.2.1).trans (hq.mono (HB.out.2.1).size)
      · exact Nat.le_trans (HB.out.2.2.1) hq.size
      · exact keep_block (HB.out.2.2.2.1) hq
      · exact keep_block (HB.out.2.2.2.2.1) hq
      · exact fun h => HB.out.2.2.2.2.2.1 ((bit_set h).resolve_left (by decide))
      · exact fun h => HB.out.2.2.2.2.2.2.1 ((bit_set h).resolve_left (by decide))
      · exact (fun h h2 => by
            obtain ⟨G2, e2, k2⟩ := HB.out.2.2.2.2.2.2.2.1 ((bit_set h).resolve_left (by decide)) (fun c => h2 (bit_mono c))
            exact ⟨G2, e2, keep_block k2 hq⟩)
      · exact fun h => HB.out.2.2.2.2.2.2.2.2.1 ((bit_set h).resolve_left (by decide))
      · exact fun h => HB.out.2.2.2.2.2.2.2.2.2.1 ((bit_set h).resolve_left (by decide))
      · exact fun h => HB.out.2.2.2.2.2.2.2.2.2.2.1 ((bit_set h).resolve_left (by decide))
      · exact fun _ _ => ⟨W.heap.size, rfl, heap_alloc_new W _⟩
      · exact fun h => HB.out.2.2.2.2.2.2.2.2.2.2.2.2.1 ((bit_set h).resolve_left (by decide))
      · exact (fun h => by
            obtain ⟨G2, e2, l2, k2⟩ := HB.out.2.2.2.2.2.2.2.2.2.2.2.2.2.1 ((bit_set h).resolve_left (by decide))
            exact ⟨G2, e2, l2, by rw [bit_if (by decide)]; exact keep_block k2 hq⟩)
      · exact (fun h => by
            obtain ⟨G2, e2, l2, k2⟩ := HB.out.2.2.2.2.2.2.2.2.2.2.2.2.2.2.1 ((bit_set h).resolve_left (by decide))
            exact ⟨G2, e2, l2, by rw [bit_if (by decide)]; exact keep_block k2 hq⟩)
      · exact fun h => bit_mono (HB.out.2.2.2.2.2.2.2.2.2.2.2.2.2.2.2.1 ((bit_set h).resolve_left (by decide)))
      · exact fun h => bit_mono (HB.out.2.2.2.2.2.2.2.2.2.2.2.2.2.2.2.2.1 ((bit_set h).resolve_left (by decide)))
      · exact fun h h2 => HB.out.2.2.2.2.2.2.2.2.2.2.2.2.2.2.2.2.2 ((bit_set h).resolve_left (by decide)) ((bit_set h2).resolve_left (by decide))
    · skip
      have p6 := hpre 6 (by kernel_rfl)
      obtain ⟨G, hG, hGB⟩ := HB.out.2.2.2.2.2.2.2.2.2.2.2.1 p6 (bit_off hun)
      subst hG
      refine step_of ⟨some 24, _, _, _, _, _⟩ rfl (fun K' hK => ?_)
      simp only [putAll, List.zip_cons_cons, List.zip_nil_right, List.foldl_cons, List.foldl_nil, List.setIfInBounds_toArray, List.set_cons_zero, List.set_cons_succ]
      go_simp
      go_at_call 10
      (with_reducible refine (TM.out _ G 2 (vals_of_block hGB rfl) HB.out.1).mono ?_)
      rintro e W2 ⟨rfl, hq⟩
      refine hK.out _ _ ⟨_, ⟨s17, s18, s19, s20, s21, s22, .slice (some ⟨G, 0, none⟩) 2 2, .agg #[.int .i64 1, .string (numS m), .string (denS m), .string { data := #[] }, .bool false, .int .i64 0, .int .i64 0, .int .i64 0, .slice none 0 0], s7, s8, rfl, ?_, ?_, ?_, ?_, ?_, ?_, ?_, ?_, ?_, ?_, ?_, ?_, ?_, ?_, ?_, ?_, ?_, ?_⟩, ?fr⟩
      case fr => simp only [putAll, List.zip_cons_cons, List.zip_nil_right, List.foldl_cons, List.foldl_nil, List.setIfInBounds_toArray, List.set_cons_zero, List.set_cons_succ]
      · exact (HB.out.1).below hq
      · exact (HB.out.2.1).trans (hq.mono (HB.out.2.1).size)
      · exact Nat.le_trans (HB.out.2.2.1) hq.size
      · exact keep_block (HB.out.2.2.2.1) hq
      · exact keep_block (HB.out.2.2.2.2.1) hq
      · exact fun h => HB.out.2.2.2.2.2.1 ((bit_set h).resolve_left (by decide))
      · exact fun h => HB.out.2.2.2.2.2.2.1 ((bit_set h).resolve_left (by decide))
      · exact (fun h h2 => by
            obtain ⟨G2, e2, k2⟩ := HB.out.2.2.2.2.2.2.2.1 ((bit_set h).resolve_left (by decide)) (fun c => h2 (bit_mono c))
            exact ⟨G2, e2, keep_block k2 hq⟩)
      · exact fun h => HB.out.2.2.2.2.2.2.2.2.1 ((bit_set h).resolve_left (by decide))
      · exact fun h => HB.out.2.2.2.2.2.2.2.2.2.1 ((bit_set h).resolve_left (by decide))
      · exact fun h => HB.out.2.2.2.2.2.2.2.2.2.2.1 ((bit_set h).resolve_left (by decide))
      · exact fun h h2 => absurd (bit_self hun) h2
      · exact fun _ => rfl
      · exact (fun h => by
            obtain ⟨G2, e2, l2, k2⟩ := HB.out.2.2.2.2.2.2.2.2.2.2.2.2.2.1 ((bit_set h).resolve_left (by decide))
            exact ⟨G2, e2, l2, by rw [bit_if (by decide)]; exact keep_block k2 hq⟩)
      · exact (fun h => by
            obtain ⟨G2, e2, l2, k2⟩ := HB.out.2.2.2.2.2.2.2.2.2.2.2.2.2.2.1 ((bit_set h).resolve_left (by decide))
            exact ⟨G2, e2, l2, by rw [bit_if (by decide)]; exact keep_block k2 hq⟩)
      · exact fun h => bit_mono (HB.out.2.2.2.2.2.2.2.2.2.2.2.2.2.2.2.1 ((bit_set h).resolve_left (by decide)))
      · exact fun h => bit_mono (HB.out.2.2.2.2.2.2.2.2.2.2.2.2.2.2.2.2.1 ((bit_set h).resolve_left (by decide)))
      · exact fun h h2 => HB.out.2.2.2.2.2.2.2.2.2.2.2.2.2.2.2.2.2 ((bit_set h).resolve_left (by decide)) ((bit_set h2).resolve_left (by decide))
    · skip
      refine step_of ⟨some 7, _, _, _, _, _⟩ rfl (fun K' hK => ?_)
      simp only [putAll, List.zip_cons_cons, List.zip_nil_right, List.foldl_cons, List.foldl_nil, List.setIfInBounds_toArray, List.set_cons_zero, List.set_cons_succ]
      go_simp
      have hq : Below W.heap.size W (W.alloc (.cells #[.int .i64 0, .string { data := #[] }, .string { data := #[] }, .string { data := #[] }, .bool false, .int .i64 0, .int .i64 0, .int .i64 0, .slice none 0 0] 27)) := (Below.refl _ _).alloc (Nat.le_refl _) _
      refine hK.out _ _ ⟨_, ⟨s17, s18, s19, s20, s21, s22, s23, s24, .pointer (some ⟨W.heap.size, 0, none⟩), s8, rfl, ?_, ?_, ?_, ?_, ?_, ?_, ?_, ?_, ?_, ?_, ?_, ?_, ?_, ?_, ?_, ?_, ?_, ?_⟩, ?fr⟩
      case fr => simp only [putAll, List.zip_cons_cons, List.zip_nil_right, List.foldl_cons, List.foldl_nil, List.setIfInBounds_toArray, List.set_cons_zero, List.set_cons_succ]
      · exact (HB.out.1).below hq
      · exact (HB.out.2.1).trans (hq.mono (HB.out.2.1).size)
      · exact Nat.le_trans (HB.out.2.2.1) hq.size
      · exact keep_block (HB.out.2.2.2.1) hq
      · exact keep_block (HB.out.2.2.2.2.1) hq
      · exact fun h => HB.out.2.2.2.2.2.1 ((bit_set h).resolve_left (by decide))
      · exact fun h => HB.out.2.2.2.2.2.2.1 ((bit_set h).resolve_left (by decide))
      · exact (fun h h2 => by
            obtain ⟨G2, e2, k2⟩ := HB.out.2.2.2.2.2.2.2.1 ((bit_set h).resolve_left (by decide)) (fun c => h2 (bit_mono c))
            exact ⟨G2, e2, keep_block k2 hq⟩)
      · exact fun h => HB.out.2.2.2.2.2.2.2.2.1 ((bit_set h).resolve_left (by decide))
      · exact fun h => HB.out.2.2.2.2.2.2.2.2.2.1 ((bit_set h).resolve_left (by decide))
      · exact fun h => HB.out.2.2.2.2.2.2.2.2.2.2.1 ((bit_set h).resolve_left (by decide))
      · exact (fun h h2 => by
            obtain ⟨G2, e2, k2⟩ := HB.out.2.2.2.2.2.2.2.2.2.2.2.1 ((bit_set h).resolve_left (by decide)) (fun c => h2 (bit_mono c))
            exact ⟨G2, e2, keep_block k2 hq⟩)
      · exact fun h => HB.out.2.2.2.2.2.2.2.2.2.2.2.2.1 ((bit_set h).resolve_left (by decide))
      · exact (fun _ => ⟨W.heap.size, rfl, HB.out.2.2.1, by
            rw [bit_if (by decide), if_neg (fun c => bit_off hun (HB.out.2.2.2.2.2.2.2.2.2.2.2.2.2.2.2.1 c))]
            exact heap_alloc_new W _⟩)
      · exact (fun h => by
            obtain ⟨G2, e2, l2, k2⟩ := HB.out.2.2.2.2.2.2.2.2.2.2.2.2.2.2.1 ((bit_set h).resolve_left (by decide))
            exact ⟨G2, e2, l2, by rw [bit_if (by decide)]; exact keep_block k2 hq⟩)
      · exact fun h => bit_mono (HB.out.2.2.2.2.2.2.2.2.2.2.2.2.2.2.2.1 ((bit_set h).resolve_left (by decide)))
      · exact fun h => bit_mono (HB.out.2.2.2.2.2.2.2.2.2.2.2.2.2.2.2.2.1 ((bit_set h).resolve_left (by decide)))
      · exact (fun h h2 => by
            obtain ⟨G2, e2, _, k2⟩ := HB.out.2.2.2.2.2.2.2.2.2.2.2.2.2.2.1 ((bit_set h2).resolve_left (by decide))
            subst e2
            have := heap_lt k2
            intro hh
            injection hh with hh
            injection hh with hh
            injection hh with hh
            omega)
    · skip
      refine step_of ⟨some 8, _, _, _, _, _⟩ rfl (fun K' hK => ?_)
      simp only [putAll, List.zip_cons_cons, List.zip_nil_right, List.foldl_cons, List.foldl_nil, List.setIfInBounds_toArray, List.set_cons_zero, List.set_cons_succ]
      go_simp
      have hq : Below W.heap.size W (W.alloc (.cells #[.int .i64 0, .string { data := #[] }, .string { data := #[] }, .string { data := #[] }, .bool false, .int .i64 0, .int .i64 0, .int .i64 0, .slice none 0 0] 27)) := (Below.refl _ _).alloc (Nat.le_refl _) _
      refine hK.out _ _ ⟨_, ⟨s17, s18, s19, s20, s21, s22, s23, s24, s7, .pointer (some ⟨W.heap.size, 0, none⟩), rfl, ?_, ?_, ?_, ?_, ?_, ?_, ?_, ?_, ?_, ?_, ?_, ?_, ?_, ?_, ?_, ?_, ?_, ?_⟩, ?fr⟩
      case fr => simp only [putAll, List.zip_cons_cons, List.zip_nil_right, List.foldl_cons, List.foldl_nil, List.setIfInBounds_toArray, List.set_cons_zero, List.set_cons_succ]
      · exact (HB.out.1).below hq
      · exact (HB.out.2.1).trans (hq.mono (HB.out.2.1).size)
      · exact Nat.le_trans (HB.out.2.2.1) hq.size
      · exact keep_block (HB.out.2.2.2.1) hq
      · exact keep_block (HB.out.2.2.2.2.1) hq
      · exact fun h => HB.out.2.2.2.2.2.1 ((bit_set h).resolve_left (by decide))
      · exact fun h => HB.out.2.2.2.2.2.2.1 ((bit_set h).resolve_left (by decide))
      · exact (fun h h2 => by
            obtain ⟨G2, e2, k2⟩ := HB.out.2.2.2.2.2.2.2.1 ((bit_set h).resolve_left (by decide)) (fun c => h2 (bit_mono c))
            exact ⟨G2, e2, keep_block k2 hq⟩)
      · exact fun h => HB.out.2.2.2.2.2.2.2.2.1 ((bit_set h).resolve_left (by decide))
      · exact fun h => HB.out.2.2.2.2.2.2.2.2.2.1 ((bit_set h).resolve_left (by decide))
      · exact fun h => HB.out.2.2.2.2.2.2.2.2.2.2.1 ((bit_set h).resolve_left (by decide))
      · exact (fun h h2 => by
            obtain ⟨G2, e2, k2⟩ := HB.out.2.2.2.2.2.2.2.2.2.2.2.1 ((bit_set h).resolve_left (by decide)) (fun c => h2 (bit_mono c))
            exact ⟨G2, e2, keep_block k2 hq⟩)
      · exact fun h => HB.out.2.2.2.2.2.2.2.2.2.2.2.2.1 ((bit_set h).resolve_left (by decide))
      · exact (fun h => by
            obtain ⟨G2, e2, l2, k2⟩ := HB.out.2.2.2.2.2.2.2.2.2.2.2.2.2.1 ((bit_set h).resolve_left (by decide))
            exact ⟨G2, e2, l2, by rw [bit_if (by decide)]; exact keep_block k2 hq⟩)
      · exact (fun _ => ⟨W.heap.size, rfl, HB.out.2.2.1, by
            rw [bit_if (by decide), if_neg (fun c => bit_off hun (HB.out.2.2.2.2.2.2.2.2.2.2.2.2.2.2.2.2.1 c))]
            exact heap_alloc_new W _⟩)
      · exact fun h => bit_mono (HB.out.2.2.2.2.2.2.2.2.2.2.2.2.2.2.2.1 ((bit_set h).resolve_left (by decide)))
      · exact fun h => bit_mono (HB.out.2.2.2.2.2.2.2.2.2.2.2.2.2.2.2.2.1 ((bit_set h).resolve_left (by decide)))
      · exact (fun h h2 => by
            obtain ⟨G2, e2, _, k2⟩ := HB.out.2.2.2.2.2.2.2.2.2.2.2.2.2.1 ((bit_set h).resolve_left (by decide))
            subst e2
            have := heap_lt k2
            intro hh
            injection hh with hh
            injection hh with hh
            injection hh with hh
            omega)
    · skip
      have p8 := hpre 8 (by kernel_rfl)
      obtain ⟨G, hG, hGl, hGB⟩ := HB.out.2.2.2.2.2.2.2.2.2.2.2.2.2.1 p8
      subst hG
      rw [if_neg (bit_off hun)] at hGB
      have HGB := Lib.hid hGB
      clear hGB
      have p3 := hpre 3 (by kernel_rfl)
      have e3 := HB.out.2.2.2.2.2.2.2.2.1 p3
      subst e3
      obtain ⟨⟨y0, y1, y2, y3, y4, y5, y6, y7, y8⟩, g0, g1, g2, g3, g4, g5, g6, g7, g8⟩ := nine_at HGB.out
      have HGL := Lib.hid hGl
      clear hGl
      refine step_of ⟨none, _, _, _, _, _⟩ rfl (fun K' hK => ?_)
      simp only [putAll, List.zip_cons_cons, List.zip_nil_right, List.foldl_cons, List.foldl_nil, List.setIfInBounds_toArray, List.set_cons_zero, List.set_cons_succ]
      go_simp
      have hbs : w.heap.size ≤ WA.heap.size := HL0.out
      have hLn := (nine_end (x0 := (.int .i64 1)) (x1 := (.string (numS c))) (x2 := (.string { data := #[49] })) (x3 := (.string { data := #[] })) (x4 := (.bool false)) (x5 := (.int .i64 0)) (x6 := (.int .i64 0)) (x7 := (.int .i64 0)) (x8 := (.slice none 0 0)) HGB.out (HB.out.2.1) (Nat.le_trans hbs HGL.out)).1
      have hoth := fun (k : Nat) (hk : k ≠ G) => set9_other W G (.int .i64 1) (.string (numS c)) (.string { data := #[49] }) (.string { data := #[] }) (.bool false) (.int .i64 0) (.int .i64 0) (.int .i64 0) (.slice none 0 0) hk
      have hnew := set9_at HGB.out (.int .i64 1) (.string (numS c)) (.string { data := #[49] }) (.string { data := #[] }) (.bool false) (.int .i64 0) (.int .i64 0) (.int .i64 0) (.slice none 0 0)
      refine hK.out _ _ ⟨_, ⟨s17, s18, s19, .agg #[.int .i64 1, .string (numS c), .string { data := #[49] }, .string { data := #[] }, .bool false, .int .i64 0, .int .i64 0, .int .i64 0, .slice none 0 0], s21, s22, s23, s24, .pointer (some ⟨G, 0, none⟩), s8, rfl, ?_, ?_, ?_, ?_, ?_, ?_, ?_, ?_, ?_, ?_, ?_, ?_, ?_, ?_, ?_, ?_, ?_, ?_⟩, ?fr⟩
      case fr => simp only [putAll, List.zip_cons_cons, List.zip_nil_right, List.foldl_cons, List.foldl_nil, List.setIfInBounds_toArray, List.set_cons_zero, List.set_cons_succ]
      · exact (HB.out.1).but hoth (by simp [size_setCell]) ⟨Nat.lt_of_lt_of_le HP0.out.1 HGL.out, Nat.lt_of_lt_of_le HP0.out.2 HGL.out⟩
      · exact hLn
      · exact (by simp only [size_setCell]; exact HB.out.2.2.1)
      · exact (hoth _ (Nat.ne_of_lt (Nat.lt_of_lt_of_le (heap_lt HX0.out) HGL.out))).trans (HB.out.2.2.2.1)
      · exact (hoth _ (Nat.ne_of_lt (Nat.lt_of_lt_of_le (heap_lt HY0.out) HGL.out))).trans (HB.out.2.2.2.2.1)
      · exact fun h => HB.out.2.2.2.2.2.1 ((bit_set h).resolve_left (by decide))
      · exact fun h => HB.out.2.2.2.2.2.2.1 ((bit_set h).resolve_left (by decide))
      · exact fun h h2 => absurd (bit_mono (hpre 3 (by kernel_rfl))) h2
      · exact fun h => HB.out.2.2.2.2.2.2.2.2.1 ((bit_set h).resolve_left (by decide))
      · exact fun h => HB.out.2.2.2.2.2.2.2.2.2.1 ((bit_set h).resolve_left (by decide))
      · exact fun h => HB.out.2.2.2.2.2.2.2.2.2.2.1 ((bit_set h).resolve_left (by decide))
      · exact fun h h2 => absurd (bit_mono (hpre 7 (by kernel_rfl))) h2
      · exact fun h => HB.out.2.2.2.2.2.2.2.2.2.2.2.2.1 ((bit_set h).resolve_left (by decide))
      · exact fun h => ⟨G, rfl, HGL.out, by rw [if_pos (bit_self hun)]; exact hnew⟩
      · exact (fun h => by
            obtain ⟨G2, e2, l2, k2⟩ := HB.out.2.2.2.2.2.2.2.2.2.2.2.2.2.2.1 ((bit_set h).resolve_left (by decide))
            refine ⟨G2, e2, l2, ?_⟩
            rw [bit_if (by decide)]
            have hne : G2 ≠ G := by
              intro hh
              subst hh
              exact HB.out.2.2.2.2.2.2.2.2.2.2.2.2.2.2.2.2.2 p8 ((bit_set h).resolve_left (by decide)) e2.symm
            exact (hoth _ hne).trans k2)
      · exact fun _ => bit_mono p8
      · exact fun h => bit_mono (HB.out.2.2.2.2.2.2.2.2.2.2.2.2.2.2.2.2.1 ((bit_set h).resolve_left (by decide)))
      · exact fun h h2 => HB.out.2.2.2.2.2.2.2.2.2.2.2.2.2.2.2.2.2 ((bit_set h).resolve_left (by decide)) ((bit_set h2).resolve_left (by decide))
    · skip
      have p9 := hpre 9 (by kernel_rfl)
      obtain ⟨G, hG, hGl, hGB⟩ := HB.out.2.2.2.2.2.2.2.2.2.2.2.2.2.2.1 p9
      subst hG
      rw [if_neg (bit_off hun)] at hGB
      have HGB := Lib.hid hGB
      clear hGB
      have p7 := hpre 7 (by kernel_rfl)
      have e7 := HB.out.2.2.2.2.2.2.2.2.2.2.2.2.1 p7
      subst e7
      obtain ⟨⟨y0, y1, y2, y3, y4, y5, y6, y7, y8⟩, g0, g1, g2, g3, g4, g5, g6, g7, g8⟩ := nine_at HGB.out
      have HGL := Lib.hid hGl
      clear hGl
      refine step_of ⟨none, _, _, _, _, _⟩ rfl (fun K' hK => ?_)
      simp only [putAll, List.zip_cons_cons, List.zip_nil_right, List.foldl_cons, List.foldl_nil, List.setIfInBounds_toArray, List.set_cons_zero, List.set_cons_succ]
      go_simp
      have hbs : w.heap.size ≤ WA.heap.size := HL0.out
      have hLn := (nine_end (x0 := (.int .i64 1)) (x1 := (.string (numS m))) (x2 := (.string (denS m))) (x3 := (.string { data := #[] })) (x4 := (.bool false)) (x5 := (.int .i64 0)) (x6 := (.int .i64 0)) (x7 := (.int .i64 0)) (x8 := (.slice none 0 0)) HGB.out (HB.out.2.1) (Nat.le_trans hbs HGL.out)).1
      have hoth := fun (k : Nat) (hk : k ≠ G) => set9_other W G (.int .i64 1) (.string (numS m)) (.string (denS m)) (.string { data := #[] }) (.bool false) (.int .i64 0) (.int .i64 0) (.int .i64 0) (.slice none 0 0) hk
      have hnew := set9_at HGB.out (.int .i64 1) (.string (numS m)) (.string (denS m)) (.string { data := #[] }) (.bool false) (.int .i64 0) (.int .i64 0) (.int .i64 0) (.slice none 0 0)
      refine hK.out _ _ ⟨_, ⟨s17, s18, s19, s20, s21, s22, s23, .agg #[.int .i64 1, .string (numS m), .string (denS m), .string { data := #[] }, .bool false, .int .i64 0, .int .i64 0, .int .i64 0, .slice none 0 0], s7, .pointer (some ⟨G, 0, none⟩), rfl, ?_, ?_, ?_, ?_, ?_, ?_, ?_, ?_, ?_, ?_, ?_, ?_, ?_, ?_, ?_, ?_, ?_, ?_⟩, ?fr⟩
      case fr => simp only [putAll, List.zip_cons_cons, List.zip_nil_right, List.foldl_cons, List.foldl_nil, List.setIfInBounds_toArray, List.set_cons_zero, List.set_cons_succ]
      · exact (HB.out.1).but hoth (by simp [size_setCell]) ⟨Nat.lt_of_lt_of_le HP0.out.1 HGL.out, Nat.lt_of_lt_of_le HP0.out.2 HGL.out⟩
      · exact hLn
      · exact (by simp only [size_setCell]; exact HB.out.2.2.1)
      · exact (hoth _ (Nat.ne_of_lt (Nat.lt_of_lt_of_le (heap_lt HX0.out) HGL.out))).trans (HB.out.2.2.2.1)
      · exact (hoth _ (Nat.ne_of_lt (Nat.lt_of_lt_of_le (heap_lt HY0.out) HGL.out))).trans (HB.out.2.2.2.2.1)
      · exact fun h => HB.out.2.2.2.2.2.1 ((bit_set h).resolve_left (by decide))
      · exact fun h => HB.out.2.2.2.2.2.2.1 ((bit_set h).resolve_left (by decide))
      · exact fun h h2 => absurd (bit_mono (hpre 3 (by kernel_rfl))) h2
      · exact fun h => HB.out.2.2.2.2.2.2.2.2.1 ((bit_set h).resolve_left (by decide))
      · exact fun h => HB.out.2.2.2.2.2.2.2.2.2.1 ((bit_set h).resolve_left (by decide))
      · exact fun h => HB.out.2.2.2.2.2.2.2.2.2.2.1 ((bit_set h).resolve_left (by decide))
      · exact fun h h2 => absurd (bit_mono (hpre 7 (by kernel_rfl))) h2
      · exact fun h => HB.out.2.2.2.2.2.2.2.2.2.2.2.2.1 ((bit_set h).resolve_left (by decide))
      · exact (fun h => by
            obtain ⟨G2, e2, l2, k2⟩ := HB.out.2.2.2.2.2.2.2.2.2.2.2.2.2.1 ((bit_set h).resolve_left (by decide))
            refine ⟨G2, e2, l2, ?_⟩
            rw [bit_if (by decide)]
            have hne : G2 ≠ G := by
              intro hh
              subst hh
              exact HB.out.2.2.2.2.2.2.2.2.2.2.2.2.2.2.2.2.2 ((bit_set h).resolve_left (by decide)) p9 e2
            exact (hoth _ hne).trans k2)
      · exact fun h => ⟨G, rfl, HGL.out, by rw [if_pos (bit_self hun)]; exact hnew⟩
      · exact fun h => bit_mono (HB.out.2.2.2.2.2.2.2.2.2.2.2.2.2.2.2.1 ((bit_set h).resolve_left (by decide)))
      · exact fun _ => bit_mono p9
      · exact fun h h2 => HB.out.2.2.2.2.2.2.2.2.2.2.2.2.2.2.2.2.2 ((bit_set h).resolve_left (by decide)) ((bit_set h2).resolve_left (by decide))
  · rintro listed vs WC ⟨s17, s18, s19, s20, s21, s22, s23, s24, s7, s8, rfl, hb⟩ hall
    have e0 := hb.2.2.2.2.2.1 (hall 0 (by show 0 < 12; decide))
    subst e0
    have e1 := hb.2.2.2.2.2.2.1 (hall 1 (by show 1 < 12; decide))
    subst e1
    have e3 := hb.2.2.2.2.2.2.2.2.1 (hall 3 (by show 3 < 12; decide))
    subst e3
    have e4 := hb.2.2.2.2.2.2.2.2.2.1 (hall 4 (by show 4 < 12; decide))
    subst e4
    have e5 := hb.2.2.2.2.2.2.2.2.2.2.1 (hall 5 (by show 5 < 12; decide))
    subst e5
    have e7 := hb.2.2.2.2.2.2.2.2.2.2.2.2.1 (hall 7 (by show 7 < 12; decide))
    subst e7
    obtain ⟨bHQ, e8, _, k8⟩ := hb.2.2.2.2.2.2.2.2.2.2.2.2.2.1 (hall 8 (by show 8 < 12; decide))
    subst e8
    rw [if_pos (hall 10 (by show 10 < 12; decide))] at k8
    have HQ := Lib.hid k8
    clear k8
    obtain ⟨bHM, e9, _, k9⟩ := hb.2.2.2.2.2.2.2.2.2.2.2.2.2.2.1 (hall 9 (by show 9 < 12; decide))
    subst e9
    rw [if_pos (hall 11 (by show 11 < 12; decide))] at k9
    have HM := Lib.hid k9
    clear k9
    replace HE := Lib.hid (hb.1)
    replace HL := Lib.hid (hb.2.1)
    replace HX := Lib.hid (hb.2.2.2.1)
    replace HY := Lib.hid (hb.2.2.2.2.1)
    clear hb hall
    simp only [putAll, List.zip_cons_cons, List.zip_nil_right, List.foldl_cons, List.foldl_nil, List.setIfInBounds_toArray, List.set_cons_zero, List.set_cons_succ]
    obtain ⟨⟨yy0, yy1, yy2, yy3, yy4, yy5, yy6, yy7, yy8⟩, _⟩ := nine_at HY.out
    obtain ⟨⟨xx0, xx1, xx2, xx3, xx4, xx5, xx6, xx7, xx8⟩, _⟩ := nine_at HX.out
    go_wp2_with fail
    refine (TD.out _ HE.out).mono ?_
    rintro e w3 ⟨rfl, hq⟩
    replace HE := Lib.hid (HE.out.below hq)
    replace HL := Lib.hid (HL.out.trans (hq.mono HL.out.size))
    replace HX := Lib.hid (keep_block HX.out hq)
    replace HY := Lib.hid (keep_block HY.out hq)
    replace HQ := Lib.hid (keep_block HQ.out hq)
    replace HM := Lib.hid (keep_block HM.out hq)
    clear hq
    clear xx0 xx1 xx2 xx3 xx4 xx5 xx6 xx7 xx8 yy0 yy1 yy2 yy3 yy4 yy5 yy6 yy7 yy8
    have hq : Below w3.heap.size w3 (w3.alloc (.cells #[.string (numS r), .string (denS r)] 24)) := (Below.refl _ _).alloc (Nat.le_refl _) _
    replace HE := Lib.hid (HE.out.below hq)
    replace HL := Lib.hid (HL.out.trans (hq.mono HL.out.size))
    replace HX := Lib.hid (keep_block HX.out hq)
    replace HY := Lib.hid (keep_block HY.out hq)
    replace HQ := Lib.hid (keep_block HQ.out hq)
    replace HM := Lib.hid (keep_block HM.out hq)
    have HR := Lib.hid (heap_alloc_new w3 (.cells #[.string (numS r), .string (denS r)] 24))
    clear hq
    obtain ⟨WD, hWD⟩ : ∃ Z, (w3.alloc (.cells #[.string (numS r), .string (denS r)] 24)) = Z := ⟨_, rfl⟩
    rw [hWD] at HE HL HX HY HQ HM HR
    have EWD := Lib.hid hWD
    clear hWD
    obtain ⟨⟨rr0, rr1⟩, _⟩ := two_at HR.out
    go_wp2_with fail
    rw [EWD.out]
    refine (TF.out _ HE.out).mono ?_
    rintro e w4 ⟨rfl, hq⟩
    replace HE := Lib.hid (HE.out.below hq)
    replace HL := Lib.hid (HL.out.trans (hq.mono HL.out.size))
    replace HX := Lib.hid (keep_block HX.out hq)
    replace HY := Lib.hid (keep_block HY.out hq)
    replace HQ := Lib.hid (keep_block HQ.out hq)
    replace HM := Lib.hid (keep_block HM.out hq)
    replace HR := Lib.hid (keep_block HR.out hq)
    clear hq
    clear rr0 rr1
    have hq : Below w4.heap.size w4 (w4.alloc (.cells #[.string (numS f), .string (denS f)] 24)) := (Below.refl _ _).alloc (Nat.le_refl _) _
    replace HE := Lib.hid (HE.out.below hq)
    replace HL := Lib.hid (HL.out.trans (hq.mono HL.out.size))
    replace HX := Lib.hid (keep_block HX.out hq)
    replace HY := Lib.hid (keep_block HY.out hq)
    replace HQ := Lib.hid (keep_block HQ.out hq)
    replace HM := Lib.hid (keep_block HM.out hq)
    replace HR := Lib.hid (keep_block HR.out hq)
    have HF := Lib.hid (heap_alloc_new w4 (.cells #[.string (numS f), .string (denS f)] 24))
    clear hq
    obtain ⟨WF, hWF⟩ : ∃ Z, (w4.alloc (.cells #[.string (numS f), .string (denS f)] 24)) = Z := ⟨_, rfl⟩
    rw [hWF] at HE HL HX HY HQ HM HR HF
    have EWF := Lib.hid hWF
    clear hWF
    go_wp2_with fail
    rw [EWF.out]
    have hq : Below WF.heap.size WF WF.drew := (Below.refl _ _).drew
    replace HE := Lib.hid (HE.out.below hq)
    replace HL := Lib.hid (HL.out.trans (hq.mono HL.out.size))
    replace HX := Lib.hid (keep_block HX.out hq)
    replace HY := Lib.hid (keep_block HY.out hq)
    replace HQ := Lib.hid (keep_block HQ.out hq)
    replace HM := Lib.hid (keep_block HM.out hq)
    replace HR := Lib.hid (keep_block HR.out hq)
    replace HF := Lib.hid (keep_block HF.out hq)
    clear hq
    refine wp_region_held_drew (S := (fun Z => (Z.cell? ⟨w2.heap.size, 0, none⟩ = some (.int .i64 1) ∧ Z.cell? ⟨w2.heap.size, 1, none⟩ = some (.string (numS p)) ∧ Z.cell? ⟨w2.heap.size, 2, none⟩ = some (.string (denS p)) ∧ Z.cell? ⟨w2.heap.size, 3, none⟩ = some (.string { data := #[] }) ∧ Z.cell? ⟨w2.heap.size, 4, none⟩ = some (.bool false) ∧ Z.cell? ⟨w2.heap.size, 5, none⟩ = some (.int .i64 0) ∧ Z.cell? ⟨w2.heap.size, 6, none⟩ = some (.int .i64 0) ∧ Z.cell? ⟨w2.heap.size, 7, none⟩ = some (.int .i64 0) ∧ Z.cell? ⟨w2.heap.size, 8, none⟩ = some (.slice none 0 0)) ∧ (Z.cell? ⟨w2.heap.size + 1, 0, none⟩ = some (.int .i64 1) ∧ Z.cell? ⟨w2.heap.size + 1, 1, none⟩ = some (.string (numS q)) ∧ Z.cell? ⟨w2.heap.size + 1, 2, none⟩ = some (.string (denS q)) ∧ Z.cell? ⟨w2.heap.size + 1, 3, none⟩ = some (.string { data := #[] }) ∧ Z.cell? ⟨w2.heap.size + 1, 4, none⟩ = some (.bool false) ∧ Z.cell? ⟨w2.heap.size + 1, 5, none⟩ = some (.int .i64 0) ∧ Z.cell? ⟨w2.heap.size + 1, 6, none⟩ = some (.int .i64 0) ∧ Z.cell? ⟨w2.heap.size + 1, 7, none⟩ = some (.int .i64 0) ∧ Z.cell? ⟨w2.heap.size + 1, 8, none⟩ = some (.slice none 0 0)) ∧ (Z.cell? ⟨bHQ, 0, none⟩ = some (.int .i64 1) ∧ Z.cell? ⟨bHQ, 1, none⟩ = some (.string (numS c)) ∧ Z.cell? ⟨bHQ, 2, none⟩ = some (.string { data := #[49] }) ∧ Z.cell? ⟨bHQ, 3, none⟩ = some (.string { data := #[] }) ∧ Z.cell? ⟨bHQ, 4, none⟩ = some (.bool false) ∧ Z.cell? ⟨bHQ, 5, none⟩ = some (.int .i64 0) ∧ Z.cell? ⟨bHQ, 6, none⟩ = some (.int .i64 0) ∧ Z.cell? ⟨bHQ, 7, none⟩ = some (.int .i64 0) ∧ Z.cell? ⟨bHQ, 8, none⟩ = some (.slice none 0 0)) ∧ (Z.cell? ⟨bHM, 0, none⟩ = some (.int .i64 1) ∧ Z.cell? ⟨bHM, 1, none⟩ = some (.string (numS m)) ∧ Z.cell? ⟨bHM, 2, none⟩ = some (.string (denS m)) ∧ Z.cell? ⟨bHM, 3, none⟩ = some (.string { data := #[] }) ∧ Z.cell? ⟨bHM, 4, none⟩ = some (.bool false) ∧ Z.cell? ⟨bHM, 5, none⟩ = some (.int .i64 0) ∧ Z.cell? ⟨bHM, 6, none⟩ = some (.int .i64 0) ∧ Z.cell? ⟨bHM, 7, none⟩ = some (.int .i64 0) ∧ Z.cell? ⟨bHM, 8, none⟩ = some (.slice none 0 0)) ∧ (Z.cell? ⟨w4.heap.size, 0, none⟩ = some (.string (numS f)) ∧ Z.cell? ⟨w4.heap.size, 1, none⟩ = some (.string (denS f))))) (by kernel_rfl) ⟨(nine_at HX.out).1, (nine_at HY.out).1, (nine_at HQ.out).1, (nine_at HM.out).1, (two_at HF.out).1⟩ (fun hHeld => ?_)
    refine wpAnyH_take (i := 0) (oi := ⟨some 50, _, _, _, _, _⟩) (v := ?v0) rfl (by kernel_rfl) (by kernel_rfl) (by kernel_rfl) (fun _ _ _ h => h) (Or.inl ⟨by rfl, ?y0⟩) (by assumption) ?r0
    case y0 =>
      intro w hSw
      (try dsimp only at hSw)
      go_simp
      try with_reducible rfl
    try simp only [Act.put, List.setIfInBounds_toArray, List.set_cons_zero, List.set_cons_succ]
    refine wpAnyH_take (i := 2) (oi := ⟨some 52, _, _, _, _, _⟩) (v := ?v2) rfl (by kernel_rfl) (by kernel_rfl) (by kernel_rfl) (fun _ _ _ h => h) (Or.inl ⟨by rfl, ?y2⟩) (by assumption) ?r2
    case y2 =>
      intro w hSw
      (try dsimp only at hSw)
      go_simp
      try with_reducible rfl
    try simp only [Act.put, List.setIfInBounds_toArray, List.set_cons_zero, List.set_cons_succ]
    refine wpAnyH_take (i := 5) (oi := ⟨some 55, _, _, _, _, _⟩) (v := ?v5) rfl (by kernel_rfl) (by kernel_rfl) (by kernel_rfl) (fun _ _ _ h => h) (Or.inl ⟨by rfl, ?y5⟩) (by assumption) ?r5
    case y5 =>
      intro w hSw
      (try dsimp only at hSw)
      go_simp
      try with_reducible rfl
    try simp only [Act.put, List.setIfInBounds_toArray, List.set_cons_zero, List.set_cons_succ]
    refine wpAnyH_take (i := 7) (oi := ⟨some 57, _, _, _, _, _⟩) (v := ?v7) rfl (by kernel_rfl) (by kernel_rfl) (by kernel_rfl) (fun _ _ _ h => h) (Or.inl ⟨by rfl, ?y7⟩) (by assumption) ?r7
    case y7 =>
      intro w hSw
      (try dsimp only at hSw)
      go_simp
      try with_reducible rfl
    try simp only [Act.put, List.setIfInBounds_toArray, List.set_cons_zero, List.set_cons_succ]
    refine wpAnyH_ready (rs := [1]) (by kernel_rfl) (by simp) ?_
    refine AllReadyH.cons rfl (fun K hK => ?_) AllReadyH.nil
    go_simp
    (with_reducible refine (TN.out _ HE.out).mono ?_)
    rintro e w5 ⟨rfl, hq⟩
    replace HE := Lib.hid (HE.out.below hq)
    replace HL := Lib.hid (HL.out.trans (hq.mono HL.out.size))
    replace HX := Lib.hid (keep_block HX.out hq)
    replace HY := Lib.hid (keep_block HY.out hq)
    replace HQ := Lib.hid (keep_block HQ.out hq)
    replace HM := Lib.hid (keep_block HM.out hq)
    replace HR := Lib.hid (keep_block HR.out hq)
    replace HF := Lib.hid (keep_block HF.out hq)
    clear hq
    refine hK.out _ _ ⟨(nine_at HX.out).1, (nine_at HY.out).1, (nine_at HQ.out).1, (nine_at HM.out).1, (two_at HF.out).1⟩ (fun hHeld => ?_)
    clear hK K
    try simp only [Act.put, List.setIfInBounds_toArray, List.set_cons_zero, List.set_cons_succ]
    refine wpAnyH_ready (rs := [3]) (by kernel_rfl) (by simp) ?_
    refine AllReadyH.cons rfl (fun K hK => ?_) AllReadyH.nil
    go_simp
    refine hK.out _ _ ⟨(nine_at (new_keep HX.out)).1, (nine_at (new_keep HY.out)).1, (nine_at (new_keep HQ.out)).1, (nine_at (new_keep HM.out)).1, (two_at (new_keep HF.out)).1⟩ (fun hHeld => ?_)
    clear hK K
    try simp only [Act.put, List.setIfInBounds_toArray, List.set_cons_zero, List.set_cons_succ]
    refine wpAnyH_ready (rs := [4]) (by kernel_rfl) (by simp) ?_
    refine AllReadyH.cons rfl (fun K hK => ?_) AllReadyH.nil
    go_simp
    (with_reducible refine (RP.out _ HE.out).mono ?_)
    rintro e w6 ⟨rfl, hq⟩
    replace HE := Lib.hid (HE.out.below hq)
    replace HL := Lib.hid (HL.out.trans (hq.mono HL.out.size))
    replace HX := Lib.hid (keep_block HX.out hq)
    replace HY := Lib.hid (keep_block HY.out hq)
    replace HQ := Lib.hid (keep_block HQ.out hq)
    replace HM := Lib.hid (keep_block HM.out hq)
    replace HR := Lib.hid (keep_block HR.out hq)
    replace HF := Lib.hid (keep_block HF.out hq)
    clear hq
    refine hK.out _ _ ⟨(nine_at HX.out).1, (nine_at HY.out).1, (nine_at HQ.out).1, (nine_at HM.out).1, (two_at HF.out).1⟩ (fun hHeld => ?_)
    clear hK K
    try simp only [Act.put, List.setIfInBounds_toArray, List.set_cons_zero, List.set_cons_succ]
    refine wpAnyH_ready (rs := [6]) (by kernel_rfl) (by simp) ?_
    refine AllReadyH.cons rfl (fun K hK => ?_) AllReadyH.nil
    go_simp
    (with_reducible refine (TS.out _ HE.out).mono ?_)
    rintro e w7 ⟨rfl, hq⟩
    replace HE := Lib.hid (HE.out.below hq)
    replace HL := Lib.hid (HL.out.trans (hq.mono HL.out.size))
    replace HX := Lib.hid (keep_block HX.out hq)
    replace HY := Lib.hid (keep_block HY.out hq)
    replace HQ := Lib.hid (keep_block HQ.out hq)
    replace HM := Lib.hid (keep_block HM.out hq)
    replace HR := Lib.hid (keep_block HR.out hq)
    replace HF := Lib.hid (keep_block HF.out hq)
    clear hq
    refine hK.out _ _ ⟨(nine_at HX.out).1, (nine_at HY.out).1, (nine_at HQ.out).1, (nine_at HM.out).1, (two_at HF.out).1⟩ (fun hHeld => ?_)
    clear hK K
    try simp only [Act.put, List.setIfInBounds_toArray, List.set_cons_zero, List.set_cons_succ]
    refine wpAnyH_ready (rs := [8]) (by kernel_rfl) (by simp) ?_
    refine AllReadyH.cons rfl (fun K hK => ?_) AllReadyH.nil
    go_simp
    (with_reducible refine (RS.out _ _).mono ?_)
    rintro e w8 ⟨rfl, hq⟩
    replace HE := Lib.hid (HE.out.below hq)
    replace HL := Lib.hid (HL.out.trans (hq.mono HL.out.size))
    replace HX := Lib.hid (keep_block HX.out hq)
    replace HY := Lib.hid (keep_block HY.out hq)
    replace HQ := Lib.hid (keep_block HQ.out hq)
    replace HM := Lib.hid (keep_block HM.out hq)
    replace HR := Lib.hid (keep_block HR.out hq)
    replace HF := Lib.hid (keep_block HF.out hq)
    clear hq
    refine hK.out _ _ ⟨(nine_at HX.out).1, (nine_at HY.out).1, (nine_at HQ.out).1, (nine_at HM.out).1, (two_at HF.out).1⟩ (fun hHeld => ?_)
    clear hK K
    try simp only [Act.put, List.setIfInBounds_toArray, List.set_cons_zero, List.set_cons_succ]
    refine wpAnyH_take (i := 9) (oi := ⟨some 59, _, _, _, _, _⟩) (v := ?v9) rfl (by kernel_rfl) (by kernel_rfl) (by kernel_rfl) (fun _ _ _ h => h) (Or.inl ⟨by rfl, ?y9⟩) (by assumption) ?r9
    case y9 =>
      intro w hSw
      (try dsimp only at hSw)
      go_simp
      try with_reducible rfl
    try simp only [Act.put, List.setIfInBounds_toArray, List.set_cons_zero, List.set_cons_succ]
    refine wpAnyH_take (i := 10) (oi := ⟨some 60, _, _, _, _, _⟩) (v := ?v10) rfl (by kernel_rfl) (by kernel_rfl) (by kernel_rfl) (fun _ _ _ h => h) (Or.inl ⟨by rfl, ?y10⟩) (by assumption) ?r10
    case y10 =>
      intro w hSw
      (try dsimp only at hSw)
      go_simp
      try with_reducible rfl
    try simp only [Act.put, List.setIfInBounds_toArray, List.set_cons_zero, List.set_cons_succ]
    refine wpAnyH_take (i := 11) (oi := ⟨some 61, _, _, _, _, _⟩) (v := ?v11) rfl (by kernel_rfl) (by kernel_rfl) (by kernel_rfl) (fun _ _ _ h => h) (Or.inl ⟨by rfl, ?y11⟩) (by assumption) ?r11
    case y11 =>
      intro w hSw
      (try dsimp only at hSw)
      go_simp
      try with_reducible rfl
    try simp only [Act.put, List.setIfInBounds_toArray, List.set_cons_zero, List.set_cons_succ]
    refine wpAnyH_take (i := 12) (oi := ⟨some 62, _, _, _, _, _⟩) (v := ?v12) rfl (by kernel_rfl) (by kernel_rfl) (by kernel_rfl) (fun _ _ _ h => h) (Or.inl ⟨by rfl, ?y12⟩) (by assumption) ?r12
    case y12 =>
      intro w hSw
      (try dsimp only at hSw)
      go_simp
      try with_reducible rfl
    try simp only [Act.put, List.setIfInBounds_toArray, List.set_cons_zero, List.set_cons_succ]
    refine wpAnyH_take (i := 13) (oi := ⟨some 63, _, _, _, _, _⟩) (v := ?v13) rfl (by kernel_rfl) (by kernel_rfl) (by kernel_rfl) (fun _ _ _ h => h) (Or.inl ⟨by rfl, ?y13⟩) (by assumption) ?r13
    case y13 =>
      intro w hSw
      (try dsimp only at hSw)
      go_simp
      try with_reducible rfl
    try simp only [Act.put, List.setIfInBounds_toArray, List.set_cons_zero, List.set_cons_succ]
    refine wpAnyH_take (i := 14) (oi := ⟨some 64, _, _, _, _, _⟩) (v := ?v14) rfl (by kernel_rfl) (by kernel_rfl) (by kernel_rfl) (fun _ _ _ h => h) (Or.inl ⟨by rfl, ?y14⟩) (by assumption) ?r14
    case y14 =>
      intro w hSw
      (try dsimp only at hSw)
      go_simp
      try with_reducible rfl
    try simp only [Act.put, List.setIfInBounds_toArray, List.set_cons_zero, List.set_cons_succ]
    refine wpAnyH_take (i := 15) (oi := ⟨some 65, _, _, _, _, _⟩) (v := ?v15) rfl (by kernel_rfl) (by kernel_rfl) (by kernel_rfl) (fun _ _ _ h => h) (Or.inl ⟨by rfl, ?y15⟩) (by assumption) ?r15
    case y15 =>
      intro w hSw
      (try dsimp only at hSw)
      go_simp
      try with_reducible rfl
    try simp only [Act.put, List.setIfInBounds_toArray, List.set_cons_zero, List.set_cons_succ]
    refine wpAnyH_take (i := 16) (oi := ⟨some 66, _, _, _, _, _⟩) (v := ?v16) rfl (by kernel_rfl) (by kernel_rfl) (by kernel_rfl) (fun _ _ _ h => h) (Or.inl ⟨by rfl, ?y16⟩) (by assumption) ?r16
    case y16 =>
      intro w hSw
      (try dsimp only at hSw)
      go_simp
      try with_reducible rfl
    try simp only [Act.put, List.setIfInBounds_toArray, List.set_cons_zero, List.set_cons_succ]
    refine wpAnyH_take (i := 17) (oi := ⟨some 67, _, _, _, _, _⟩) (v := ?v17) rfl (by kernel_rfl) (by kernel_rfl) (by kernel_rfl) (fun _ _ _ h => h) (Or.inl ⟨by rfl, ?y17⟩) (by assumption) ?r17
    case y17 =>
      intro w hSw
      (try dsimp only at hSw)
      go_simp
      try with_reducible rfl
    try simp only [Act.put, List.setIfInBounds_toArray, List.set_cons_zero, List.set_cons_succ]
    refine wpAnyH_take (i := 18) (oi := ⟨some 68, _, _, _, _, _⟩) (v := ?v18) rfl (by kernel_rfl) (by kernel_rfl) (by kernel_rfl) (fun _ _ _ h => h) (Or.inl ⟨by rfl, ?y18⟩) (by assumption) ?r18
    case y18 =>
      intro w hSw
      (try dsimp only at hSw)
      go_simp
      try with_reducible rfl
    try simp only [Act.put, List.setIfInBounds_toArray, List.set_cons_zero, List.set_cons_succ]
    refine wpAnyH_take (i := 19) (oi := ⟨some 69, _, _, _, _, _⟩) (v := ?v19) rfl (by kernel_rfl) (by kernel_rfl) (by kernel_rfl) (fun _ _ _ h => h) (Or.inl ⟨by rfl, ?y19⟩) (by assumption) ?r19
    case y19 =>
      intro w hSw
      (try dsimp only at hSw)
      go_simp
      try with_reducible rfl
    try simp only [Act.put, List.setIfInBounds_toArray, List.set_cons_zero, List.set_cons_succ]
    refine wpAnyH_take (i := 20) (oi := ⟨some 4, _, _, _, _, _⟩) (v := ?v20) rfl (by kernel_rfl) (by kernel_rfl) (by kernel_rfl) (fun _ _ _ h => h) (Or.inl ⟨by rfl, ?y20⟩) (by assumption) ?r20
    case y20 =>
      intro w hSw
      (try dsimp only at hSw)
      go_simp
      try with_reducible rfl
    try simp only [Act.put, List.setIfInBounds_toArray, List.set_cons_zero, List.set_cons_succ]
    refine wpAnyH_done (by kernel_rfl) ?_ _
    go_wp2
    go_ret
    exact ⟨rfl, HL.out⟩

end Go.Proofs.YtcgglmoeneiokaaGreatDoor.Num
