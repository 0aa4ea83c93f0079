/- Numbers as texts of digits, fractions, values and the functions of fmath: contracts of the program's functions, joined from smaller texts. Conditions stand at each theorem. -/
import Derived.Test.YtcbolipiaflfbaaGreatDoorFynA
import Derived.Test.YtcbolipiaflfbaaGreatDoorFynB
import Derived.Test.YtcbolipiaflfbaaGreatDoorNumF
import Derived.Test.YtcbolipiaflfbaaGreatDoorFyaB

/- package value: arrays of numbers whose items begin anywhere in their block: Check, Inside. Conditions: the items are numbers that fit; the tables lie as they are laid. -/
namespace Go.Proofs.YtcbolipiaflfbaaGreatDoor.Num.Off
open Go.RowKit Go.Lib Num

/-- an array as a value, field by field -/
def arrValO (r s : Int) (g o L C : Nat) : Val := ⟨5, { data := #[] }, { data := #[] }, { data := #[] }, false, 0, r, s, some ⟨g, o, none⟩, L, C⟩
theorem arrValO_agg (r s : Int) (g o L C : Nat) : (arrValO r s g o L C).agg = .agg #[.int .i64 5, .string { data := #[] }, .string { data := #[] }, .string { data := #[] }, .bool false, .int .i64 0, .int .i64 r, .int .i64 s, .slice (some ⟨g, o, none⟩) L C] := rfl
/-- what stays while the items of an array are gone through -/
structure RowI (w : World) (g o : Nat) (qs : List Rat) (W : World) : Prop where
  row : ValsAt W g o (numVals qs)
  env : Env W
  low : Below w.heap.size w W
theorem RowI.step {w W W' : World} {g o : Nat} {qs : List Rat} (h : RowI w g o qs W) (hb : Below W.heap.size W W') : RowI w g o qs W' :=
  ⟨h.row.below hb, h.env.below hb, h.low.trans (hb.mono h.low.size)⟩
/-- the cells of item i -/
theorem item_at {W : World} {g o : Nat} {qs : List Rat} (h : ValsAt W g o (numVals qs)) (i : Nat) (hi : i < qs.length) (q : Rat) (hq : qs[i] = q) :
    W.cell? ⟨g, o + i * 9, none⟩ = some (.int .i64 1) ∧ W.cell? ⟨g, o + i * 9 + 1, none⟩ = some (.string (numS q)) ∧ W.cell? ⟨g, o + i * 9 + 2, none⟩ = some (.string (denS q)) ∧ W.cell? ⟨g, o + i * 9 + 3, none⟩ = some (.string { data := #[] }) ∧ W.cell? ⟨g, o + i * 9 + 4, none⟩ = some (.bool false) ∧ W.cell? ⟨g, o + i * 9 + 5, none⟩ = some (.int .i64 0) ∧ W.cell? ⟨g, o + i * 9 + 6, none⟩ = some (.int .i64 0) ∧ W.cell? ⟨g, o + i * 9 + 7, none⟩ = some (.int .i64 0) ∧ W.cell? ⟨g, o + i * 9 + 8, none⟩ = some (.slice none 0 0) := by
  have hl : i < (numVals qs).length := by rw [numVals_len]; exact hi
  have := h.at i hl
  rw [numVals_at qs i hl, hq] at this
  exact this

set_option maxHeartbeats 4000000 in
set_option maxRecDepth 100000 in
theorem array_ok (qs : List Rat) (r s : Int) (g o C : Nat) (w : World) (hr : 1 ≤ r) (hr9 : r ≤ 1000) (hs : 1 ≤ s) (hs9 : s ≤ 1000) (hrs : r * s = (qs.length : Int)) (hq : ∀ q ∈ qs, fits q = true) (h9 : qs.length ≤ 1000) (hv : ValsAt w g o (numVals qs)) (hE : Env w) :
    Calls Tryz.prog 145 #[.agg #[.int .i64 5, .string { data := #[] }, .string { data := #[] }, .string { data := #[] }, .bool false, .int .i64 0, .int .i64 r, .int .i64 s, .slice (some ⟨g, o, none⟩) qs.length C]] w fun e w' => e = .returned (.int .i64 0) ∧ Below w.heap.size w w' := by
  have hb : Below w.heap.size w (w.alloc (.cells #[.int .i64 5, .string { data := #[] }, .string { data := #[] }, .string { data := #[] }, .bool false, .int .i64 0, .int .i64 r, .int .i64 s, .slice (some ⟨g, o, none⟩) qs.length C] 27)) := (Below.refl _ _).alloc (Nat.le_refl _) _
  have HI0 := Lib.hid (show RowI w g o qs (w.alloc (.cells #[.int .i64 5, .string { data := #[] }, .string { data := #[] }, .string { data := #[] }, .bool false, .int .i64 0, .int .i64 r, .int .i64 s, .slice (some ⟨g, o, none⟩) qs.length C] 27)) from ⟨hv.below hb, hE.below hb, hb⟩)
  have HQ := Lib.hid hq
  have d1 : decide (r < 1) = false := decide_eq_false (by omega)
  have d2 : decide (100000 < r) = false := decide_eq_false (by omega)
  have d3 : decide (s < 1) = false := decide_eq_false (by omega)
  have d4 : decide (100000 < s) = false := decide_eq_false (by omega)
  obtain ⟨L, hL⟩ : ∃ L, qs.length = L := ⟨_, rfl⟩
  have HLL := Lib.hid hL
  rw [hL] at hrs h9 HI0 ⊢
  have d5 : decide (100000 < (L : Int)) = false := decide_eq_false (by omega)
  have hwr : IntKind.i64.wrap (L : Int) = (L : Int) := IntWalk.i64_in _ (by omega)
  clear hb hv hE hq hL
  go_enter Tryz.func145, Tryz.ntmps145
  go_wp2_with fail
  go_loopg [42] L (fun gh v42 wx => ∃ k : Nat, v42 = .int .i64 (k : Int) ∧ k ≤ L ∧ gh = L - k ∧ RowI w g o qs wx)
  case atStart => exact ⟨0, rfl, Nat.zero_le _, rfl, HI0.out⟩
  case round =>
    clear HI0
    obtain ⟨k, rfl, hk, rfl, hti⟩ := hrel
    have HTI := Lib.hid hti
    clear hti hrs hwr
    by_cases hlt : k < L
    · have hd : decide ((k : Int) < (L : Int)) = true := decide_eq_true (by omega)
      have hd2 : decide (k < L) = true := decide_eq_true hlt
      have hkq : k < qs.length := by rw [HLL.out]; exact hlt
      obtain ⟨q, hqq⟩ : ∃ q, qs[k] = q := ⟨_, rfl⟩
      have hfq : fits q = true := by rw [← hqq]; exact HQ.out _ (List.getElem_mem hkq)
      obtain ⟨c0, c1, c2, c3, c4, c5, c6, c7, c8⟩ := item_at HTI.out.row k hkq q hqq
      have TC := Lib.hid (fun W gg => check_num q W hfq gg)
      have hi0 : (0 : Int) ≤ (k : Int) := by omega
      have hi1 : (k : Int) < (L : Int) := by omega
      clear hfq hkq hqq
      have HTA := Lib.hid (HTI.out.step ((Below.refl wr.heap.size wr).alloc (Nat.le_refl _) (.cells #[.int .i64 1, .string (numS q), .string (denS q), .string { data := #[] }, .bool false, .int .i64 0, .int .i64 0, .int .i64 0, .slice none 0 0] 27)))
      go_wp2_with fail
      refine (TC.out _ HTA.out.env).mono ?_
      rintro e w2 ⟨rfl, hb⟩
      have HT2 := Lib.hid (HTA.out.step hb)
      clear hb c0 c1 c2 c3 c4 c5 c6 c7 c8
      go_wp2
      go_roundg (L - (k + 1))
      case measure => omega
      case rel => exact ⟨k + 1, by go_num, by omega, by omega, HT2.out⟩
    · have hd : decide ((k : Int) < (L : Int)) = false := decide_eq_false (by omega)
      have hd2 : decide (k < L) = false := decide_eq_false hlt
      clear hlt
      go_wp2
      go_ret
      exact ⟨rfl, HTI.out.low⟩

set_option maxHeartbeats 4000000 in
set_option maxRecDepth 100000 in
theorem check_arr (qs : List Rat) (r s : Int) (g o C : Nat) (w : World) (hr : 1 ≤ r) (hr9 : r ≤ 1000) (hs : 1 ≤ s) (hs9 : s ≤ 1000) (hrs : r * s = (qs.length : Int)) (hq : ∀ q ∈ qs, fits q = true) (h9 : qs.length ≤ 1000) (hv : ValsAt w g o (numVals qs)) (hE : Env w) :
    Calls Tryz.prog 47 #[.agg #[.int .i64 5, .string { data := #[] }, .string { data := #[] }, .string { data := #[] }, .bool false, .int .i64 0, .int .i64 r, .int .i64 s, .slice (some ⟨g, o, none⟩) qs.length C]] w fun e w' => e = .returned (.int .i64 0) ∧ Below w.heap.size w w' := by
  have TA := Lib.hid (fun W hvv gg => array_ok qs r s g o C W hr hr9 hs hs9 hrs hq h9 hvv gg)
  have HX := Lib.hid (heap_alloc_new w (.cells #[.int .i64 5, .string { data := #[] }, .string { data := #[] }, .string { data := #[] }, .bool false, .int .i64 0, .int .i64 r, .int .i64 s, .slice (some ⟨g, o, none⟩) qs.length C] 27))
  have HL := Lib.hid (show Below w.heap.size w (w.alloc (.cells #[.int .i64 5, .string { data := #[] }, .string { data := #[] }, .string { data := #[] }, .bool false, .int .i64 0, .int .i64 r, .int .i64 s, .slice (some ⟨g, o, none⟩) qs.length C] 27)) from (Below.refl _ _).alloc (Nat.le_refl _) _)
  have HE := Lib.hid (hE.below HL.out)
  have HV := Lib.hid (hv.below HL.out)
  have TZ := Lib.hid (fun W => zeros_arr r s (some ⟨g, o, none⟩) qs.length C W)
  obtain ⟨L, hL⟩ : ∃ L, qs.length = L := ⟨_, rfl⟩
  rw [hL] at TA HX HL HE TZ HV ⊢
  clear hE hv hr hr9 hs hs9 hrs hq h9 hL
  go_enter Tryz.func47, Tryz.ntmps47
  go_wp2_with fail
  refine (TZ.out _).mono ?_
  rintro e W1 ⟨rfl, hb⟩
  replace HX := Lib.hid (keep_block HX.out hb)
  replace HE := Lib.hid (HE.out.below hb)
  replace HV := Lib.hid (HV.out.below hb)
  replace HL := Lib.hid (HL.out.trans (hb.mono HL.out.size))
  clear hb
  obtain ⟨⟨x0, x1, x2, x3, x4, x5, x6, x7, x8⟩, _⟩ := nine_at HX.out
  go_wp2_with fail
  refine (TA.out _ HV.out HE.out).mono ?_
  rintro e W2 ⟨rfl, hb⟩
  replace HL := Lib.hid (HL.out.trans (hb.mono HL.out.size))
  clear hb
  go_wp2
  go_ret
  exact ⟨rfl, HL.out⟩

set_option maxHeartbeats 4000000 in
set_option maxRecDepth 100000 in
theorem list_arr (r s : Int) (g o L C : Nat) (w : World) :
    Calls Tryz.prog 281 #[.agg #[.int .i64 5, .string { data := #[] }, .string { data := #[] }, .string { data := #[] }, .bool false, .int .i64 0, .int .i64 r, .int .i64 s, .slice (some ⟨g, o, none⟩) L C]] w fun e w' => e = .returned (.slice (some ⟨g, o, none⟩) L C) ∧ Below w.heap.size w w' := by
  have HL := Lib.hid (show Below w.heap.size w (w.alloc (.cells #[.int .i64 5, .string { data := #[] }, .string { data := #[] }, .string { data := #[] }, .bool false, .int .i64 0, .int .i64 r, .int .i64 s, .slice (some ⟨g, o, none⟩) L C] 27)) from (Below.refl _ _).alloc (Nat.le_refl _) _)
  go_enter Tryz.func281, Tryz.ntmps281
  go_wp2
  go_ret
  exact ⟨rfl, HL.out⟩

/-- what stays while the items are collected; the row lies ahead of the base -/
structure InI (w : World) (g o : Nat) (qs : List Rat) (v : Value) (done : List Rat) (W : World) : Prop where
  row : ValsAt W g o (numVals qs)
  env : Env W
  low : Below w.heap.size w W
  own : OwnF w.heap.size v done W
theorem InI.step {w W W' : World} {g o : Nat} {qs done : List Rat} {v : Value} (h : InI w g o qs v done W) (hb : Below W.heap.size W W') : InI w g o qs v done W' :=
  ⟨h.row.below hb, h.env.below hb, h.low.trans (hb.mono h.low.size), h.own.kept (only_of_below hb none) (by cases v.ownBlock <;> simp)⟩
theorem vals_other {W W' : World} {g o : Nat} {vs : List Val} (h : ValsAt W g o vs) (ho : W'.heap[g]? = W.heap[g]?) : ValsAt W' g o vs := by
  intro j u hj
  have := h j u hj
  rw [addr_add] at this ⊢
  simp only [World.cell?] at this ⊢
  rw [ho]; exact this
theorem InI.push {w W W' : World} {g o : Nat} {qs done : List Rat} {v v' : Value} {q : Rat} (h : InI w g o qs v done W) (ho : W'.ownsRow w.heap.size 24 2 v' (done.length + 1) (fracCells done ++ [.string (numS q), .string (denS q)])) (hg : W.grownBy W' v.ownBlock) (hg0 : g < w.heap.size) (hE0 : Past w.heap.size) : InI w g o qs v' (done ++ [q]) W' := by
  have hother : ∀ k, k < w.heap.size → W'.heap[k]? = W.heap[k]? := fun k hk => hg.block k (Nat.lt_of_lt_of_le hk h.low.size) (fun e => by have := own_ge h.own k e.symm; omega)
  exact ⟨vals_other h.row (hother g hg0), h.env.low hother hE0 hg.size, h.low.grown hg h.low.size (fun r hr => own_ge h.own r hr), by unfold OwnF; rw [fracCells_snoc, List.length_append]; exact ho⟩

set_option maxHeartbeats 4000000 in
set_option maxRecDepth 100000 in
theorem inside_arr (qs : List Rat) (r s : Int) (g o C : Nat) (w : World) (h9 : qs.length ≤ 1000) (h0 : 0 < qs.length) (hv : ValsAt w g o (numVals qs)) (hE : Env w) :
    Calls Tryz.prog 184 #[.agg #[.int .i64 5, .string { data := #[] }, .string { data := #[] }, .string { data := #[] }, .bool false, .int .i64 0, .int .i64 r, .int .i64 s, .slice (some ⟨g, o, none⟩) qs.length C]] w fun e w' => ∃ v, e = .returned v ∧ OwnF w.heap.size v qs w' ∧ Env w' ∧ Below w.heap.size w w' := by
  have hb : Below w.heap.size w (w.alloc (.cells #[.int .i64 5, .string { data := #[] }, .string { data := #[] }, .string { data := #[] }, .bool false, .int .i64 0, .int .i64 r, .int .i64 s, .slice (some ⟨g, o, none⟩) qs.length C] 27)) := (Below.refl _ _).alloc (Nat.le_refl _) _
  have HX := Lib.hid (heap_alloc_new w (.cells #[.int .i64 5, .string { data := #[] }, .string { data := #[] }, .string { data := #[] }, .bool false, .int .i64 0, .int .i64 r, .int .i64 s, .slice (some ⟨g, o, none⟩) qs.length C] 27))
  have HE := Lib.hid (hE.below hb)
  have HL := Lib.hid hb
  have HV := Lib.hid (hv.below hb)
  obtain ⟨L, hL⟩ : ∃ L, qs.length = L := ⟨_, rfl⟩
  have HLL := Lib.hid hL
  rw [hL] at h0 h9 HX HE HL HV ⊢
  clear hv hL
  obtain ⟨i0, hi0', hz0, hz1, hz2⟩ := info_frac
  clear hb hE
  go_enter Tryz.func184, Tryz.ntmps184
  go_wp2_with fail
  refine (list_arr r s g o L C _).mono ?_
  rintro e w1 ⟨rfl, hb⟩
  replace HX := Lib.hid (keep_block HX.out hb)
  replace HE := Lib.hid (HE.out.below hb)
  replace HV := Lib.hid (HV.out.below hb)
  replace HL := Lib.hid (HL.out.trans (hb.mono HL.out.size))
  clear hb
  have HGL := Lib.hid (show g < w1.heap.size from cell_lt (HV.out.at 0 (by rw [numVals_len, HLL.out]; exact h0)).1)
  have HPS := Lib.hid HE.out.room
  have HI0 := Lib.hid (show InI w1 g o qs (.slice none 0 0) [] w1 from ⟨HV.out, HE.out, Below.refl _ _, World.ownsRow_nil _ _ _ _⟩)
  clear HV HE
  go_wp2_with fail
  go_loopg [3, 9] L (fun gh v3 v9 wx => ∃ k : Nat, v9 = .int .i64 (k : Int) ∧ k ≤ L ∧ gh = L - k ∧ InI w1 g o qs v3 (qs.take k) wx)
  case atStart => exact ⟨0, rfl, Nat.zero_le _, rfl, HI0.out⟩
  case round =>
    clear HI0
    obtain ⟨k, rfl, hk, rfl, hti⟩ := hrel
    have HTI := Lib.hid hti
    clear hti
    by_cases hlt : k < L
    · have hd : decide ((k : Int) < (L : Int)) = true := decide_eq_true (by omega)
      have hd2 : decide (k < L) = true := decide_eq_true hlt
      have hkq : k < qs.length := by rw [HLL.out]; exact hlt
      obtain ⟨q, hqq⟩ : ∃ q, qs[k] = q := ⟨_, rfl⟩
      have HTK := Lib.hid (show qs.take (k + 1) = qs.take k ++ [q] by rw [List.take_succ_eq_append_getElem hkq, hqq])
      have HDL := Lib.hid (show (qs.take k).length = k by simp; omega)
      obtain ⟨c0, c1, c2, c3, c4, c5, c6, c7, c8⟩ := item_at HTI.out.row k hkq q hqq
      have hi0 : (0 : Int) ≤ (k : Int) := by omega
      have hi1 : (k : Int) < (L : Int) := by omega
      clear hkq hqq
      obtain ⟨W2, hW2⟩ : ∃ W2, wr.alloc (.cells #[.int .i64 1, .string (numS q), .string (denS q), .string { data := #[] }, .bool false, .int .i64 0, .int .i64 0, .int .i64 0, .slice none 0 0] 27) = W2 := ⟨_, rfl⟩
      have HT2 := Lib.hid (HTI.out.step ((Below.refl wr.heap.size wr).alloc (Nat.le_refl _) (.cells #[.int .i64 1, .string (numS q), .string (denS q), .string { data := #[] }, .bool false, .int .i64 0, .int .i64 0, .int .i64 0, .slice none 0 0] 27)))
      rw [hW2] at HT2
      have HT3 := Lib.hid (HT2.out.step ((Below.refl W2.heap.size W2).alloc (Nat.le_refl _) (.cells #[.string (numS q), .string (denS q)] 24)))
      have hown := HT3.out.own
      unfold OwnF at hown
      rw [HDL.out] at hown
      obtain ⟨av, cv, hu⟩ := owns_form hown
      subst hu
      have HOW := Lib.hid hown
      clear hown
      have hml : k + 1 ≤ maxLen := by unfold maxLen; omega
      have hpos : W2.heap.size = wr.heap.size + 1 := by rw [← hW2]; simp
      have hnews := World.news_of_block (cs := #[.string (numS q), .string (denS q)]) (t := 24) (fr := (0, 0)) (heap_alloc_new W2 (.cells #[.string (numS q), .string (denS q)] 24))
      rw [hpos] at hnews
      have HNW := Lib.hid hnews
      have HBS := Lib.hid (show w1.heap.size ≤ (W2.alloc (.cells #[.string (numS q), .string (denS q)] 24)).heap.size from HT3.out.low.size)
      rw [← hW2] at HOW HNW HBS
      have HW2 := Lib.hid hW2
      clear hnews hpos hW2
      go_wp2_with (at_builtin; refine wpList_append_own _ rfl _ _ 141 rfl w1.heap.size 24 i0 _ 2 32 Tryz.underlying141 hi0' hz0 hz1 hz2 rfl (by decide) (.slice av k cv) k (fracCells (qs.take k)) rfl HOW.out ⟨wr.heap.size + 1, 0, none⟩ 1 1 [.string (numS q), .string (denS q)] rfl rfl HNW.out (by simp [Value.oneCell']) hml (by omega) HBS.out ?_)
      intro v5 w5 hown5 hgrow5 _
      rw [HW2.out] at hgrow5
      have HT5 := Lib.hid (HT3.out.push (by rw [HDL.out]; exact hown5) hgrow5 HGL.out HPS.out)
      rw [← HTK.out] at HT5
      clear hown5 hgrow5 c0 c1 c2 c3 c4 c5 c6 c7 c8
      go_wp2
      go_roundg (L - (k + 1))
      case measure => omega
      case rel => exact ⟨k + 1, by go_num, by omega, by omega, HT5.out⟩
    · have hd : decide ((k : Int) < (L : Int)) = false := decide_eq_false (by omega)
      have hd2 : decide (k < L) = false := decide_eq_false hlt
      have hkL : k = L := by omega
      have HTK := Lib.hid (show qs.take k = qs by rw [hkL, ← HLL.out, List.take_length])
      rw [HTK.out] at HTI
      clear hkL hlt
      go_wp2
      go_ret
      exact ⟨_, rfl, HTI.out.own.mono HL.out.size, HTI.out.env, HL.out.trans (HTI.out.low.mono HL.out.size)⟩

end Go.Proofs.YtcbolipiaflfbaaGreatDoor.Num.Off

/- package value: Args.Numbers behind arguments that were read. Conditions: the tables lie as they are laid. -/

namespace Go.Proofs.YtcbolipiaflfbaaGreatDoor.Num
open Go.RowKit Go.Lib

theorem flat_from (qss : List (List Rat)) (n i : Nat) (hn : n ≤ i) (h : i < qss.length) : ((qss.take (i + 1)).drop n).flatten = ((qss.take i).drop n).flatten ++ qss[i] := by
  rw [List.take_succ_eq_append_getElem h, List.drop_append_of_le_length (by rw [List.length_take]; omega), List.flatten_append]; simp

set_option maxHeartbeats 8000000 in
set_option maxRecDepth 100000 in
theorem numbers_from (n0 : Nat) (vs : List Val) (qss : List (List Rat)) (b g C : Nat) (w : World) (hn0 : n0 ≤ vs.length) (h9 : vs.length ≤ 300) (hl : qss.length = vs.length) (hq9 : ∀ qs ∈ qss, qs.length ≤ 1000) (hq : ∀ qs ∈ qss, ∀ q ∈ qs, fits q = true) (ha : ArgsAt w b (some ⟨g, 0, none⟩) vs.length C n0) (hv : ValsAt w g 0 vs) (hp : ∀ j (h : j < vs.length) (h' : j < qss.length), NArg w b w.heap.size vs[j] qss[j]) (hgb : g ≠ b) (hg0 : g < w.heap.size) (hE : Env w) (hP : Past b) :
    Calls Tryz.prog 163 #[.pointer (some ⟨b, 0, none⟩)] w fun e w' => ∃ v, e = .returned v ∧ OwnF w.heap.size v (qss.drop n0).flatten w' ∧ Env w' ∧ w.grownBy w' (some b) := by
  have hb0 : b < w.heap.size := heap_lt ha
  have HI0 := Lib.hid (show MixI w b g vs.length C vs qss n0 (.slice none 0 0) [] w from ⟨ha, hv, hp, hE, only_refl _ _, World.ownsRow_nil _ _ _ _⟩)
  have HE0 := Lib.hid (show Past w.heap.size from hE.room)
  have HP := Lib.hid hP
  have HGB := Lib.hid hgb
  have HQ := Lib.hid hq
  have HQ9 := Lib.hid hq9
  have HQL := Lib.hid hl
  obtain ⟨L, hL⟩ : ∃ L, vs.length = L := ⟨_, rfl⟩
  have HLL := Lib.hid hL
  rw [hL] at HI0 h9 hn0
  obtain ⟨i0, hi0', hz0, hz1, hz2⟩ := info_frac
  have TM := Lib.hid (fun W i ga => more_any b (some ⟨g, 0, none⟩) L C i W ga (by omega))
  clear ha hv hp hgb hE hP hq hq9 hl hL
  go_enter Tryz.func163, Tryz.ntmps163
  go_wp2_with fail
  go_loopg [3] (L - n0) (fun gh v3 wx => ∃ i : Nat, n0 ≤ i ∧ i ≤ L ∧ gh = L - i ∧ MixI w b g L C vs qss i v3 ((qss.take i).drop n0).flatten wx)
  case atStart => exact ⟨n0, Nat.le_refl _, hn0, rfl, by rw [List.drop_eq_nil_of_le (by rw [List.length_take]; omega)]; exact HI0.out⟩
  case round =>
    clear HI0
    obtain ⟨i, hni0, hi, rfl, hni⟩ := hrel
    have HNI := Lib.hid hni
    clear hni
    go_wp2_with fail
    refine (TM.out _ i HNI.out.args).mono ?_
    rintro e w1 ⟨rfl, hb⟩
    replace HNI := Lib.hid (HNI.out.below hb)
    clear hb
    by_cases hlt : i < L
    · have hd : decide (i < L) = true := decide_eq_true hlt
      rw [hd]
      have hiq : i < vs.length := by rw [HLL.out]; exact hlt
      have hiq' : i < qss.length := by rw [HQL.out]; exact hiq
      have hpart := HNI.out.parts i hiq hiq'
      have hcell := HNI.out.vals.at i hiq
      have hdl : ((qss.take i).drop n0).flatten.length ≤ 300000 := by
        refine Nat.le_trans (flat_le _ (fun x hx => HQ9.out x (List.mem_of_mem_take (List.mem_of_mem_drop hx)))) ?_
        rw [List.length_drop, List.length_take]; omega
      have htk := flat_from qss n0 i hni0 hiq'
      have hfit := HQ.out qss[i] (List.getElem_mem hiq')
      obtain ⟨vi, hvi⟩ : ∃ v, vs[i] = v := ⟨_, rfl⟩
      obtain ⟨qi, hqi⟩ : ∃ q, qss[i] = q := ⟨_, rfl⟩
      rw [hvi, hqi] at hpart
      rw [hvi] at hcell
      rw [hqi] at htk hfit
      have HTK := Lib.hid htk
      have HFIT := Lib.hid hfit
      obtain ⟨D, hD⟩ : ∃ D, ((qss.take i).drop n0).flatten = D := ⟨_, rfl⟩
      rw [hD] at HTK HNI hdl
      obtain ⟨DL, hDL⟩ : ∃ n, D.length = n := ⟨_, rfl⟩
      rw [hDL] at hdl
      have HDL := Lib.hid hDL
      clear hvi hqi htk hiq hiq' hd hfit hD hDL
      rcases hpart with ⟨q, rfl, rfl⟩ | ⟨r, s, gi, Ci, rfl, hp1, hp2, hp3, hp4, hp5⟩
      · have HNC := Lib.hid (show NumCells w1 g (0 + i * 9) q from hcell)
        have TV := Lib.hid (fun W ga gc => value_any b g 0 L C i 1 (numS q) (denS q) { data := #[] } false 0 0 0 none 0 0 W ga hlt (by omega) HGB.out gc)
        have TN := Lib.hid (fun W ge => toNumber_num q W (HFIT.out q (by simp)) ge)
        rw [fracV_is q] at TN
        clear hcell
        go_wp2_with fail
        refine (TV.out _ HNI.out.args HNC.out).mono ?_
        rintro e w2 ⟨rfl, ha, hg⟩
        replace HNI := Lib.hid (HNI.out.next ha hg HP.out HGB.out hb0 hg0)
        clear ha hg
        replace HNI := Lib.hid (HNI.out.below ((Below.refl w2.heap.size w2).alloc (Nat.le_refl _) (.cells #[.int .i64 1, .string (numS q), .string (denS q), .string { data := #[] }, .bool false, .int .i64 0, .int .i64 0, .int .i64 0, .slice none 0 0] 27)))
        go_wp2_with fail
        refine (TN.out _ HNI.out.env).mono ?_
        rintro e w3 ⟨rfl, hb⟩
        replace HNI := Lib.hid (HNI.out.below hb)
        clear hb
        replace HNI := Lib.hid (HNI.out.below ((Below.refl w3.heap.size w3).alloc (Nat.le_refl _) (.cells #[.string (numS q), .string (denS q)] 24)))
        go_wp2_with fail
        refine (stop_zero _).mono ?_
        rintro e w4 ⟨rfl, rfl⟩
        replace HNI := Lib.hid (HNI.out.below ((Below.refl (w3.alloc (.cells #[.string (numS q), .string (denS q)] 24)).heap.size (w3.alloc (.cells #[.string (numS q), .string (denS q)] 24))).alloc (Nat.le_refl _) (.cells #[.string (numS q), .string (denS q)] 24)))
        have hown := HNI.out.own
        unfold OwnF at hown
        rw [HDL.out] at hown
        obtain ⟨av, cv, hu⟩ := owns_form hown
        subst hu
        have HOW := Lib.hid hown
        clear hown
        have hml : DL + 1 ≤ maxLen := by unfold maxLen; omega
        have hpos : (w3.alloc (.cells #[.string (numS q), .string (denS q)] 24)).heap.size = w3.heap.size + 1 := by simp
        have hnews := World.news_of_block (cs := #[.string (numS q), .string (denS q)]) (t := 24) (fr := (0, 0)) (heap_alloc_new (w3.alloc (.cells #[.string (numS q), .string (denS q)] 24)) (.cells #[.string (numS q), .string (denS q)] 24))
        rw [hpos] at hnews
        have HNW := Lib.hid hnews
        have HBS := Lib.hid (show w.heap.size ≤ ((w3.alloc (.cells #[.string (numS q), .string (denS q)] 24)).alloc (.cells #[.string (numS q), .string (denS q)] 24)).heap.size from HNI.out.grown.size)
        clear hnews hpos
        go_wp2_with (at_builtin; refine wpList_append_own _ rfl _ _ 141 rfl w.heap.size 24 i0 _ 2 32 Tryz.underlying141 hi0' hz0 hz1 hz2 rfl (by decide) (.slice av DL cv) DL (fracCells D) rfl HOW.out ⟨w3.heap.size + 1, 0, none⟩ 1 1 [.string (numS q), .string (denS q)] rfl rfl HNW.out (by simp [Value.oneCell']) hml (by omega) HBS.out ?_)
        intro v5 w5 hown5 hgrow5 _
        have HNI5 := Lib.hid (HNI.out.push (qs := [q]) (by rw [HDL.out]; exact hown5) hgrow5 hb0 hg0 HE0.out)
        rw [← HTK.out] at HNI5
        clear hown5 hgrow5
        go_wp2
        go_roundg (L - (i + 1))
        case measure => omega
        case rel => exact ⟨i + 1, by omega, by omega, rfl, HNI5.out⟩
      · have HNC := Lib.hid hcell
        have TV := Lib.hid (fun W ga gc => value_any b g 0 L C i 5 { data := #[] } { data := #[] } { data := #[] } false 0 r s (some ⟨gi, 0, none⟩) qi.length Ci W ga hlt (by omega) HGB.out gc)
        have TI := Lib.hid (fun W gv ge => inside_arr qi r s gi Ci W hp2 hp1 gv ge)
        have HPV := Lib.hid hp5
        have HQI := Lib.hid hp1
        obtain ⟨M, hM⟩ : ∃ M, qi.length = M := ⟨_, rfl⟩
        have HM := Lib.hid hM
        have hM9 : M ≤ 1000 := by omega
        unfold arrVal' at HNC
        simp only [] at HNC
        rw [hM] at TV TI HNC
        have hpi := HP.out
        clear hcell hp1 hp2 hp5 hpi hM
        go_wp2_with fail
        refine (TV.out _ HNI.out.args HNC.out).mono ?_
        rintro e w2 ⟨rfl, ha, hg⟩
        replace HPV := Lib.hid (vals_kept HPV.out hg hp4 (Nat.lt_of_lt_of_le hp3 HNI.out.grown.size))
        replace HNI := Lib.hid (HNI.out.next ha hg HP.out HGB.out hb0 hg0)
        clear ha hg
        have hq := (Below.refl w2.heap.size w2).alloc (Nat.le_refl _) (.cells #[.int .i64 5, .string { data := #[] }, .string { data := #[] }, .string { data := #[] }, .bool false, .int .i64 0, .int .i64 r, .int .i64 s, .slice (some ⟨gi, 0, none⟩) M Ci] 27)
        replace HPV := Lib.hid (HPV.out.below hq)
        replace HNI := Lib.hid (HNI.out.below hq)
        clear hq
        go_wp2_with fail
        refine (TI.out _ HPV.out HNI.out.env).mono ?_
        rintro e w3 ⟨vI, rfl, hownI, henvI, hb⟩
        have hsz := HNI.out.grown.size
        replace HNI := Lib.hid (HNI.out.below hb)
        clear hb
        obtain ⟨gI, cI, rfl, hgI, hcI⟩ := hownI.cells HQI.out
        rw [HM.out]
        have hown := HNI.out.own
        unfold OwnF at hown
        rw [HDL.out] at hown
        obtain ⟨av, cv, hu⟩ := owns_form hown
        subst hu
        have HOW := Lib.hid hown
        clear hown
        have hml : DL + M ≤ maxLen := by unfold maxLen; omega
        have hnl : (fracCells qi).length = M * 2 := by rw [frac_len, HM.out]
        have HNW := Lib.hid hcI
        have HBS := Lib.hid (show w.heap.size ≤ w3.heap.size from HNI.out.grown.size)
        clear hownI henvI hgI hsz hcI
        go_wp2_with (at_builtin; refine wpList_append_own _ rfl _ _ 141 rfl w.heap.size 24 i0 _ 2 32 Tryz.underlying141 hi0' hz0 hz1 hz2 rfl (by decide) (.slice av DL cv) DL (fracCells D) rfl HOW.out ⟨gI, 0, none⟩ M cI (fracCells qi) rfl hnl HNW.out (frac_one qi) hml (by omega) HBS.out ?_)
        intro v5 w5 hown5 hgrow5 _
        have HNI5 := Lib.hid (HNI.out.push (qs := qi) (by rw [HDL.out, HM.out]; exact hown5) hgrow5 hb0 hg0 HE0.out)
        rw [← HTK.out] at HNI5
        clear hown5 hgrow5 hnl
        go_wp2
        go_roundg (L - (i + 1))
        case measure => omega
        case rel => exact ⟨i + 1, by omega, by omega, rfl, HNI5.out⟩
    · have hd : decide (i < L) = false := decide_eq_false hlt
      rw [hd]
      have hiL : i = L := by omega
      have HTK := Lib.hid (show qss.take i = qss by rw [hiL, ← HLL.out, ← HQL.out, List.take_length])
      rw [HTK.out] at HNI
      clear hiL hlt
      go_wp2
      go_ret
      exact ⟨_, rfl, HNI.out.own, HNI.out.env, HNI.out.grown⟩
end Go.Proofs.YtcbolipiaflfbaaGreatDoor.Num

/- package value: Args.Numbers behind arguments that were read; the items of an array begin anywhere in their block. Conditions: the tables lie as they are laid. -/
namespace Go.Proofs.YtcbolipiaflfbaaGreatDoor.Num.Off
open Go.RowKit Go.Lib Num

/-- an argument that is a number or an array of numbers -/
def NArg (W : World) (b B : Nat) (v : Val) (qs : List Rat) : Prop :=
  (∃ q, v = numVal' q ∧ qs = [q]) ∨ ∃ r s g o C, v = arrValO r s g o qs.length C ∧ 0 < qs.length ∧ qs.length ≤ 1000 ∧ g < B ∧ g ≠ b ∧ ValsAt W g o (numVals qs)
theorem NArg.other {W W' : World} {b B : Nat} {v : Val} {qs : List Rat} (h : NArg W b B v qs) (ho : ∀ k, k < B → k ≠ b → W'.heap[k]? = W.heap[k]?) : NArg W' b B v qs := by
  rcases h with h | ⟨r, s, g, o, C, h1, h2, h3, h4, h5, h6⟩
  · exact .inl h
  · exact .inr ⟨r, s, g, o, C, h1, h2, h3, h4, h5, vals_other h6 (ho g h4 h5)⟩
theorem NArg.below {W W' : World} {b B : Nat} {v : Val} {qs : List Rat} (h : NArg W b B v qs) (hb : Below W.heap.size W W') (hB : B ≤ W.heap.size) : NArg W' b B v qs :=
  h.other (fun k hk _ => hb.block k (Nat.lt_of_lt_of_le hk hB))
theorem NArg.kept {W W' : World} {b B : Nat} {v : Val} {qs : List Rat} (h : NArg W b B v qs) (hg : W.grownBy W' (some b)) (hB : B ≤ W.heap.size) : NArg W' b B v qs :=
  h.other (fun k hk hne => hg.block k (Nat.lt_of_lt_of_le hk hB) (fun e => hne (Option.some.inj e)))

structure MixI (W0 : World) (b g L C : Nat) (vs : List Val) (qss : List (List Rat)) (i : Nat) (v : Value) (done : List Rat) (W : World) : Prop where
  args : ArgsAt W b (some ⟨g, 0, none⟩) L C i
  vals : ValsAt W g 0 vs
  parts : ∀ j (h : j < vs.length) (h' : j < qss.length), NArg W b W0.heap.size vs[j] qss[j]
  env : Env W
  grown : W0.grownBy W (some b)
  own : OwnF W0.heap.size v done W
theorem vals_kept {W W' : World} {g o b : Nat} {vs : List Val} (h : ValsAt W g o vs) (hg : W.grownBy W' (some b)) (hne : g ≠ b) (hlt : g < W.heap.size) : ValsAt W' g o vs :=
  vals_other h (hg.block g hlt (fun e => hne (Option.some.inj e)))
theorem MixI.below {W0 W W' : World} {b g L C i : Nat} {vs : List Val} {qss : List (List Rat)} {done : List Rat} {v : Value} (h : MixI W0 b g L C vs qss i v done W) (hb : Below W.heap.size W W') : MixI W0 b g L C vs qss i v done W' :=
  ⟨keep_block h.args hb, h.vals.below hb, fun j hj hj' => (h.parts j hj hj').below hb h.grown.size, h.env.below hb, kept_trans h.grown (kept_below hb), h.own.kept (only_of_below hb none) (by cases v.ownBlock <;> simp)⟩
theorem MixI.next {W0 W W' : World} {b g L C i n : Nat} {vs : List Val} {qss : List (List Rat)} {done : List Rat} {v : Value} (h : MixI W0 b g L C vs qss i v done W) (ha : ArgsAt W' b (some ⟨g, 0, none⟩) L C n) (hg : W.grownBy W' (some b)) (hP : Past b) (hgb : g ≠ b) (hb0 : b < W0.heap.size) (hg0 : g < W0.heap.size) : MixI W0 b g L C vs qss n v done W' :=
  ⟨ha, vals_kept h.vals hg hgb (Nat.lt_of_lt_of_le hg0 h.grown.size), fun j hj hj' => (h.parts j hj hj').kept hg h.grown.size, h.env.kept hg hP, kept_trans h.grown hg, h.own.kept hg (by
    cases hv : v.ownBlock with
    | none => exact .inl rfl
    | some r => right; intro e; have := own_ge h.own r hv; injection e; omega)⟩
theorem MixI.push {W0 W W' : World} {b g L C i : Nat} {vs : List Val} {qss : List (List Rat)} {done qs : List Rat} {v v' : Value} (h : MixI W0 b g L C vs qss i v done W) (ho : W'.ownsRow W0.heap.size 24 2 v' (done.length + qs.length) (fracCells done ++ fracCells qs)) (hg : W.grownBy W' v.ownBlock) (hb0 : b < W0.heap.size) (hg0 : g < W0.heap.size) (hE0 : Past W0.heap.size) : MixI W0 b g L C vs qss i v' (done ++ qs) W' := by
  have hother : ∀ k, k < W0.heap.size → W'.heap[k]? = W.heap[k]? := fun k hk => hg.block k (Nat.lt_of_lt_of_le hk h.grown.size) (fun e => by have := own_ge h.own k e.symm; omega)
  exact ⟨(hother b hb0).trans h.args, vals_other h.vals (hother g hg0), fun j hj hj' => (h.parts j hj hj').other (fun k hk _ => hother k hk), h.env.low hother hE0 hg.size, only_then h.grown hg (fun r hr => .inr (own_ge h.own r hr)), by unfold OwnF; rw [fracCells_append, List.length_append]; exact ho⟩
set_option maxHeartbeats 8000000 in
set_option maxRecDepth 100000 in
theorem numbers_from (n0 : Nat) (vs : List Val) (qss : List (List Rat)) (b g C : Nat) (w : World) (hn0 : n0 ≤ vs.length) (h9 : vs.length ≤ 300) (hl : qss.length = vs.length) (hq9 : ∀ qs ∈ qss, qs.length ≤ 1000) (hq : ∀ qs ∈ qss, ∀ q ∈ qs, fits q = true) (ha : ArgsAt w b (some ⟨g, 0, none⟩) vs.length C n0) (hv : ValsAt w g 0 vs) (hp : ∀ j (h : j < vs.length) (h' : j < qss.length), NArg w b w.heap.size vs[j] qss[j]) (hgb : g ≠ b) (hg0 : g < w.heap.size) (hE : Env w) (hP : Past b) :
    Calls Tryz.prog 163 #[.pointer (some ⟨b, 0, none⟩)] w fun e w' => ∃ v, e = .returned v ∧ OwnF w.heap.size v (qss.drop n0).flatten w' ∧ Env w' ∧ w.grownBy w' (some b) := by
  have hb0 : b < w.heap.size := heap_lt ha
  have HI0 := Lib.hid (show MixI w b g vs.length C vs qss n0 (.slice none 0 0) [] w from ⟨ha, hv, hp, hE, only_refl _ _, World.ownsRow_nil _ _ _ _⟩)
  have HE0 := Lib.hid (show Past w.heap.size from hE.room)
  have HP := Lib.hid hP
  have HGB := Lib.hid hgb
  have HQ := Lib.hid hq
  have HQ9 := Lib.hid hq9
  have HQL := Lib.hid hl
  obtain ⟨L, hL⟩ : ∃ L, vs.length = L := ⟨_, rfl⟩
  have HLL := Lib.hid hL
  rw [hL] at HI0 h9 hn0
  obtain ⟨i0, hi0', hz0, hz1, hz2⟩ := info_frac
  have TM := Lib.hid (fun W i ga => more_any b (some ⟨g, 0, none⟩) L C i W ga (by omega))
  clear ha hv hp hgb hE hP hq hq9 hl hL
  go_enter Tryz.func163, Tryz.ntmps163
  go_wp2_with fail
  go_loopg [3] (L - n0) (fun gh v3 wx => ∃ i : Nat, n0 ≤ i ∧ i ≤ L ∧ gh = L - i ∧ MixI w b g L C vs qss i v3 ((qss.take i).drop n0).flatten wx)
  case atStart => exact ⟨n0, Nat.le_refl _, hn0, rfl, by rw [List.drop_eq_nil_of_le (by rw [List.length_take]; omega)]; exact HI0.out⟩
  case round =>
    clear HI0
    obtain ⟨i, hni0, hi, rfl, hni⟩ := hrel
    have HNI := Lib.hid hni
    clear hni
    go_wp2_with fail
    refine (TM.out _ i HNI.out.args).mono ?_
    rintro e w1 ⟨rfl, hb⟩
    replace HNI := Lib.hid (HNI.out.below hb)
    clear hb
    by_cases hlt : i < L
    · have hd : decide (i < L) = true := decide_eq_true hlt
      rw [hd]
      have hiq : i < vs.length := by rw [HLL.out]; exact hlt
      have hiq' : i < qss.length := by rw [HQL.out]; exact hiq
      have hpart := HNI.out.parts i hiq hiq'
      have hcell := HNI.out.vals.at i hiq
      have hdl : ((qss.take i).drop n0).flatten.length ≤ 300000 := by
        refine Nat.le_trans (flat_le _ (fun x hx => HQ9.out x (List.mem_of_mem_take (List.mem_of_mem_drop hx)))) ?_
        rw [List.length_drop, List.length_take]; omega
      have htk := flat_from qss n0 i hni0 hiq'
      have hfit := HQ.out qss[i] (List.getElem_mem hiq')
      obtain ⟨vi, hvi⟩ : ∃ v, vs[i] = v := ⟨_, rfl⟩
      obtain ⟨qi, hqi⟩ : ∃ q, qss[i] = q := ⟨_, rfl⟩
      rw [hvi, hqi] at hpart
      rw [hvi] at hcell
      rw [hqi] at htk hfit
      have HTK := Lib.hid htk
      have HFIT := Lib.hid hfit
      obtain ⟨D, hD⟩ : ∃ D, ((qss.take i).drop n0).flatten = D := ⟨_, rfl⟩
      rw [hD] at HTK HNI hdl
      obtain ⟨DL, hDL⟩ : ∃ n, D.length = n := ⟨_, rfl⟩
      rw [hDL] at hdl
      have HDL := Lib.hid hDL
      clear hvi hqi htk hiq hiq' hd hfit hD hDL
      rcases hpart with ⟨q, rfl, rfl⟩ | ⟨r, s, gi, oi, Ci, rfl, hp1, hp2, hp3, hp4, hp5⟩
      · have HNC := Lib.hid (show NumCells w1 g (0 + i * 9) q from hcell)
        have TV := Lib.hid (fun W ga gc => value_any b g 0 L C i 1 (numS q) (denS q) { data := #[] } false 0 0 0 none 0 0 W ga hlt (by omega) HGB.out gc)
        have TN := Lib.hid (fun W ge => toNumber_num q W (HFIT.out q (by simp)) ge)
        rw [fracV_is q] at TN
        clear hcell
        go_wp2_with fail
        refine (TV.out _ HNI.out.args HNC.out).mono ?_
        rintro e w2 ⟨rfl, ha, hg⟩
        replace HNI := Lib.hid (HNI.out.next ha hg HP.out HGB.out hb0 hg0)
        clear ha hg
        replace HNI := Lib.hid (HNI.out.below ((Below.refl w2.heap.size w2).alloc (Nat.le_refl _) (.cells #[.int .i64 1, .string (numS q), .string (denS q), .string { data := #[] }, .bool false, .int .i64 0, .int .i64 0, .int .i64 0, .slice none 0 0] 27)))
        go_wp2_with fail
        refine (TN.out _ HNI.out.env).mono ?_
        rintro e w3 ⟨rfl, hb⟩
        replace HNI := Lib.hid (HNI.out.below hb)
        clear hb
        replace HNI := Lib.hid (HNI.out.below ((Below.refl w3.heap.size w3).alloc (Nat.le_refl _) (.cells #[.string (numS q), .string (denS q)] 24)))
        go_wp2_with fail
        refine (stop_zero _).mono ?_
        rintro e w4 ⟨rfl, rfl⟩
        replace HNI := Lib.hid (HNI.out.below ((Below.refl (w3.alloc (.cells #[.string (numS q), .string (denS q)] 24)).heap.size (w3.alloc (.cells #[.string (numS q), .string (denS q)] 24))).alloc (Nat.le_refl _) (.cells #[.string (numS q), .string (denS q)] 24)))
        have hown := HNI.out.own
        unfold OwnF at hown
        rw [HDL.out] at hown
        obtain ⟨av, cv, hu⟩ := owns_form hown
        subst hu
        have HOW := Lib.hid hown
        clear hown
        have hml : DL + 1 ≤ maxLen := by unfold maxLen; omega
        have hpos : (w3.alloc (.cells #[.string (numS q), .string (denS q)] 24)).heap.size = w3.heap.size + 1 := by simp
        have hnews := World.news_of_block (cs := #[.string (numS q), .string (denS q)]) (t := 24) (fr := (0, 0)) (heap_alloc_new (w3.alloc (.cells #[.string (numS q), .string (denS q)] 24)) (.cells #[.string (numS q), .string (denS q)] 24))
        rw [hpos] at hnews
        have HNW := Lib.hid hnews
        have HBS := Lib.hid (show w.heap.size ≤ ((w3.alloc (.cells #[.string (numS q), .string (denS q)] 24)).alloc (.cells #[.string (numS q), .string (denS q)] 24)).heap.size from HNI.out.grown.size)
        clear hnews hpos
        go_wp2_with (at_builtin; refine wpList_append_own _ rfl _ _ 141 rfl w.heap.size 24 i0 _ 2 32 Tryz.underlying141 hi0' hz0 hz1 hz2 rfl (by decide) (.slice av DL cv) DL (fracCells D) rfl HOW.out ⟨w3.heap.size + 1, 0, none⟩ 1 1 [.string (numS q), .string (denS q)] rfl rfl HNW.out (by simp [Value.oneCell']) hml (by omega) HBS.out ?_)
        intro v5 w5 hown5 hgrow5 _
        have HNI5 := Lib.hid (HNI.out.push (qs := [q]) (by rw [HDL.out]; exact hown5) hgrow5 hb0 hg0 HE0.out)
        rw [← HTK.out] at HNI5
        clear hown5 hgrow5
        go_wp2
        go_roundg (L - (i + 1))
        case measure => omega
        case rel => exact ⟨i + 1, by omega, by omega, rfl, HNI5.out⟩
      · have HNC := Lib.hid hcell
        have TV := Lib.hid (fun W ga gc => value_any b g 0 L C i 5 { data := #[] } { data := #[] } { data := #[] } false 0 r s (some ⟨gi, oi, none⟩) qi.length Ci W ga hlt (by omega) HGB.out gc)
        have TI := Lib.hid (fun W gv ge => inside_arr qi r s gi oi Ci W hp2 hp1 gv ge)
        have HPV := Lib.hid hp5
        have HQI := Lib.hid hp1
        obtain ⟨M, hM⟩ : ∃ M, qi.length = M := ⟨_, rfl⟩
        have HM := Lib.hid hM
        have hM9 : M ≤ 1000 := by omega
        unfold arrValO at HNC
        simp only [] at HNC
        rw [hM] at TV TI HNC
        have hpi := HP.out
        clear hcell hp1 hp2 hp5 hpi hM
        go_wp2_with fail
        refine (TV.out _ HNI.out.args HNC.out).mono ?_
        rintro e w2 ⟨rfl, ha, hg⟩
        replace HPV := Lib.hid (vals_kept HPV.out hg hp4 (Nat.lt_of_lt_of_le hp3 HNI.out.grown.size))
        replace HNI := Lib.hid (HNI.out.next ha hg HP.out HGB.out hb0 hg0)
        clear ha hg
        have hq := (Below.refl w2.heap.size w2).alloc (Nat.le_refl _) (.cells #[.int .i64 5, .string { data := #[] }, .string { data := #[] }, .string { data := #[] }, .bool false, .int .i64 0, .int .i64 r, .int .i64 s, .slice (some ⟨gi, oi, none⟩) M Ci] 27)
        replace HPV := Lib.hid (HPV.out.below hq)
        replace HNI := Lib.hid (HNI.out.below hq)
        clear hq
        go_wp2_with fail
        refine (TI.out _ HPV.out HNI.out.env).mono ?_
        rintro e w3 ⟨vI, rfl, hownI, henvI, hb⟩
        have hsz := HNI.out.grown.size
        replace HNI := Lib.hid (HNI.out.below hb)
        clear hb
        obtain ⟨gI, cI, rfl, hgI, hcI⟩ := hownI.cells HQI.out
        rw [HM.out]
        have hown := HNI.out.own
        unfold OwnF at hown
        rw [HDL.out] at hown
        obtain ⟨av, cv, hu⟩ := owns_form hown
        subst hu
        have HOW := Lib.hid hown
        clear hown
        have hml : DL + M ≤ maxLen := by unfold maxLen; omega
        have hnl : (fracCells qi).length = M * 2 := by rw [frac_len, HM.out]
        have HNW := Lib.hid hcI
        have HBS := Lib.hid (show w.heap.size ≤ w3.heap.size from HNI.out.grown.size)
        clear hownI henvI hgI hsz hcI
        go_wp2_with (at_builtin; refine wpList_append_own _ rfl _ _ 141 rfl w.heap.size 24 i0 _ 2 32 Tryz.underlying141 hi0' hz0 hz1 hz2 rfl (by decide) (.slice av DL cv) DL (fracCells D) rfl HOW.out ⟨gI, 0, none⟩ M cI (fracCells qi) rfl hnl HNW.out (frac_one qi) hml (by omega) HBS.out ?_)
        intro v5 w5 hown5 hgrow5 _
        have HNI5 := Lib.hid (HNI.out.push (qs := qi) (by rw [HDL.out, HM.out]; exact hown5) hgrow5 hb0 hg0 HE0.out)
        rw [← HTK.out] at HNI5
        clear hown5 hgrow5 hnl
        go_wp2
        go_roundg (L - (i + 1))
        case measure => omega
        case rel => exact ⟨i + 1, by omega, by omega, rfl, HNI5.out⟩
    · have hd : decide (i < L) = false := decide_eq_false hlt
      rw [hd]
      have hiL : i = L := by omega
      have HTK := Lib.hid (show qss.take i = qss by rw [hiL, ← HLL.out, ← HQL.out, List.take_length])
      rw [HTK.out] at HNI
      clear hiL hlt
      go_wp2
      go_ret
      exact ⟨_, rfl, HNI.out.own, HNI.out.env, HNI.out.grown⟩
end Go.Proofs.YtcbolipiaflfbaaGreatDoor.Num.Off

/- package fmoney: NPV over a rate and a row of numbers. Conditions: what the small functions give. -/
namespace Go.Proofs.YtcbolipiaflfbaaGreatDoor.Num.Fy
open Go.RowKit Go.Lib Num

theorem narg_more {W : World} {b B B' : Nat} {v : Val} {qs : List Rat} (h : NArg W b B v qs) (hB : B ≤ B') : NArg W b B' v qs := by
  rcases h with h | ⟨r, s, g, C, h1, h2, h3, h4, h5⟩
  · exact .inl h
  · exact .inr ⟨r, s, g, C, h1, h2, h3, by omega, h5⟩
theorem fracs_cur {W : World} {g : Nat} {xs : List Rat} {cur : Array Value} (h : W.heap[g]? = some (.cells cur 24 (0, 0))) (k : ∀ i (h : i < xs.length), cur[i * 2]? = some (.string (numS xs[i])) ∧ cur[i * 2 + 1]? = some (.string (denS xs[i]))) : FracsAt W g xs := RowB.fracs ⟨cur, h, k⟩
attribute [local irreducible] wpOp
set_option linter.unusedVariables false in
/-- what the operations of region 3 yield -/
def fy_npvKs3 (r x o y : Rat) (qs : List Rat) (gF cap : Nat) (cur : Array Value) (W : World) (w1 : World) : List RK :=
  [.pure (.agg #[.string (numS r), .string (denS r)]),
   .pure (.slice (some ⟨gF, 0, none⟩) qs.length cap),
   .pure (.agg #[.string (numS x), .string (denS x)]),
   .pure (.agg #[.string { data := #[49] }, .string { data := #[49] }]),
   .pure (.agg #[.string (numS r), .string (denS r)]),
   .pure (.agg #[.string (numS o), .string (denS o)]),
   .pure (.agg #[.string (numS y), .string (denS y)]),
   .put 8,
   .box (some (W.heap.size)) #[.string { data := #[] }, .string { data := #[] }] #[.string (numS y), .string (denS y)] 24 7,
   .box (some (w1.heap.size)) #[.string (numS r), .string (denS r)] #[.string (numS r), .string (denS r)] 24 11,
   .box (some (gF)) cur cur 24 11]
end Go.Proofs.YtcbolipiaflfbaaGreatDoor.Num.Fy

/- package fmoney: NPV over a rate and a row of numbers. Conditions: what the small functions give. -/
namespace Go.Proofs.YtcbolipiaflfbaaGreatDoor.Num.Fy
open Go.RowKit Go.Lib Num

theorem narg_moreo {W : World} {b B B' : Nat} {v : Val} {qs : List Rat} (h : Off.NArg W b B v qs) (hB : B ≤ B') : Off.NArg W b B' v qs := by
  rcases h with h | ⟨r, s, g, o, C, h1, h2, h3, h4, h5⟩
  · exact .inl h
  · exact .inr ⟨r, s, g, o, C, h1, h2, h3, by omega, h5⟩
attribute [local irreducible] wpOp
set_option linter.unusedVariables false in
/-- what the operations of region 3 yield -/
def fy_npvoKs3 (r x o y : Rat) (qs : List Rat) (gF cap : Nat) (cur : Array Value) (W : World) (w1 : World) : List RK :=
  [.pure (.agg #[.string (numS r), .string (denS r)]),
   .pure (.slice (some ⟨gF, 0, none⟩) qs.length cap),
   .pure (.agg #[.string (numS x), .string (denS x)]),
   .pure (.agg #[.string { data := #[49] }, .string { data := #[49] }]),
   .pure (.agg #[.string (numS r), .string (denS r)]),
   .pure (.agg #[.string (numS o), .string (denS o)]),
   .pure (.agg #[.string (numS y), .string (denS y)]),
   .put 8,
   .box (some (W.heap.size)) #[.string { data := #[] }, .string { data := #[] }] #[.string (numS y), .string (denS y)] 24 7,
   .box (some (w1.heap.size)) #[.string (numS r), .string (denS r)] #[.string (numS r), .string (denS r)] 24 11,
   .box (some (gF)) cur cur 24 11]
set_option linter.unusedSimpArgs false in
set_option linter.unusedVariables false in
set_option maxHeartbeats 4000000 in
set_option maxRecDepth 100000 in
theorem fy_npvo (r x o y : Rat) (qs : List Rat) (s : Int) (gi oi Ci : Nat) (b g C : Nat) (W : World)  (ha : ArgsAt W b (some ⟨g, 0, none⟩) 2 C 0) (hne : g ≠ b) (hc0 : NumCells W g (0 + 0 * 9) r) (hE : EnvY W) (hP : Past b)
    (c0 : Fun2 116 (.agg #[.string { data := #[49] }, .string { data := #[49] }]) (.agg #[.string (numS r), .string (denS r)]) (.agg #[.string (numS o), .string (denS o)]))
    (c1 : Fun2 115 (.agg #[.string (numS x), .string (denS x)]) (.agg #[.string (numS o), .string (denS o)]) (.agg #[.string (numS y), .string (denS y)]))
    (hq0 : fits r = true)
    (hqs : ∀ q ∈ qs, fits q = true)
    (h0 : 0 < qs.length)
    (h9 : qs.length ≤ 30)
    (hv : ValsAt W g 0 [numVal' r, Off.arrValO 1 s gi oi qs.length Ci])
    (hav : ValsAt W gi oi (numVals qs))
    (hgi : gi ≠ b)
    (hp : ∀ (W' : World) (G C : Nat), FracsAt W' G qs → EnvY W' → Calls Tryz.prog 260 #[.agg #[.string (numS r), .string (denS r)], .slice (some ⟨G, 0, none⟩) qs.length C] W' fun e w' => e = .returned (.agg #[.string (numS x), .string (denS x)]) ∧ Below W'.heap.size W' w') :
    Calls Tryz.prog 126 #[.pointer (some ⟨b, 0, none⟩)] W fun e w' => e = .returned (.agg #[.string (numS y), .string (denS y)]) ∧ W.grownBy w' (some b) := by
  have Qc0 := Lib.hid c0
  have Qc1 := Lib.hid c1
  unfold Fun2 at Qc0 Qc1
  have TN0 := Lib.hid (fun W' ga gc ge => argNum_any b g 0 2 C 0 r W' ga (by decide) (by decide) hne gc hq0 ge hP)
  rw [fracV_is r] at TN0
  have hgl : g < W.heap.size := (hv.at 0 (show 0 < 2 by decide)).1 |> cell_lt
  have hgil : gi < W.heap.size := cell_lt (hav.at 0 (by rw [numVals_len]; exact h0)).1
  have hpart : ∀ j (h : j < ([numVal' r, Off.arrValO 1 s gi oi qs.length Ci] : List Val).length) (h' : j < ([[r], qs] : List (List Rat)).length), Off.NArg W b W.heap.size ([numVal' r, Off.arrValO 1 s gi oi qs.length Ci] : List Val)[j] ([[r], qs] : List (List Rat))[j] := by
    intro j h h'
    have h2 : j < 2 := h'
    have hj : j = 0 ∨ j = 1 := by omega
    rcases hj with rfl | rfl
    · exact .inl ⟨r, rfl, rfl⟩
    · exact .inr ⟨1, s, gi, oi, Ci, rfl, h0, Nat.le_trans h9 (by decide), hgil, hgi, hav⟩
  have TNN := Lib.hid (fun (W' : World) (hg : W.grownBy W' (some b)) (ga : ArgsAt W' b (some ⟨g, 0, none⟩) 2 C 1) (ge : Env W') =>
    Off.numbers_from 1 [numVal' r, Off.arrValO 1 s gi oi qs.length Ci] [[r], qs] b g C W' (show 1 ≤ 2 by decide) (show 2 ≤ 300 by decide) rfl (by intro x hx; simp only [List.mem_cons, List.not_mem_nil, or_false] at hx; rcases hx with rfl | rfl; exact (by decide : (1 : Nat) ≤ 1000); omega) (by intro x hx; simp only [List.mem_cons, List.not_mem_nil, or_false] at hx; rcases hx with rfl | rfl; (intro q hq; simp only [List.mem_cons, List.not_mem_nil, or_false] at hq; subst hq; exact hq0); exact hqs) ga (vals_kept hv hg hne hgl) (fun j h h' => narg_moreo ((hpart j h h').kept hg (Nat.le_refl _)) hg.size) hne (Nat.lt_of_lt_of_le hgl hg.size) ge hP)
  rw [show ((([[r], qs] : List (List Rat)).drop 1).flatten) = qs by simp] at TNN
  have HPT := Lib.hid hp
  have H0L := Lib.hid h0
  have HP := Lib.hid hP
  have HE0 := Lib.hid hE
  have NG := Lib.hid hne
  have HBW := Lib.hid (heap_lt ha)
  have hb : Below W.heap.size W (W.alloc (.cells #[.string { data := #[] }, .string { data := #[] }] 24)) := ((Below.refl _ _).alloc (Nat.le_refl _) _)
  have HG := Lib.hid (kept_below (b := b) hb)
  have HE := Lib.hid (hE.below hb)
  have HA := Lib.hid (show ArgsAt (W.alloc (.cells #[.string { data := #[] }, .string { data := #[] }] 24)) b (some ⟨g, 0, none⟩) 2 C 0 from keep_block ha hb)
  have HC0 := Lib.hid (NumCells.below hc0 hb)
  have H2 : Hid ((W.alloc (.cells #[.string { data := #[] }, .string { data := #[] }] 24)).heap[W.heap.size]? = some (.cells #[.string { data := #[] }, .string { data := #[] }] 24 (0, 0))) := Lib.hid (by
    have h := heap_alloc_new W (.cells #[.string { data := #[] }, .string { data := #[] }] 24)
    exact h)
  have NE2 : Hid (W.heap.size ≠ b) := Lib.hid (by have := HBW.out; omega)
  obtain ⟨W0, hW0⟩ : ∃ Z, (W.alloc (.cells #[.string { data := #[] }, .string { data := #[] }] 24)) = Z := ⟨_, rfl⟩
  rw [hW0] at HG HE HA HC0 H2
  have EW0 := Lib.hid hW0
  clear hW0 hb ha hE hP hne hc0 c0 c1 hq0 hqs h0 h9 hv hav hgi hp hgl hgil hpart
  go_enter Tryz.func126, Tryz.ntmps126
  go_wp2_with fail
  rw [EW0.out]
  refine (TN0.out _ HA.out HC0.out (HE.out.e)).mono ?_
  rintro e w1 ⟨rfl, ha, hg⟩
  replace HA := Lib.hid ha
  clear HC0
  replace H2 := Lib.hid (kept_block H2.out hg NE2.out)
  replace HE := Lib.hid (HE.out.kept hg HP.out)
  replace HG := Lib.hid (kept_trans HG.out hg)
  clear ha hg
  have lt_2 := heap_lt H2.out
  have geW := HG.out.size
  have L3_2 : Hid (W.heap.size < w1.heap.size) := Lib.hid (by omega)
  have G3 : Hid (W.heap.size ≤ w1.heap.size) := Lib.hid (by omega)
  have NE3 : Hid (w1.heap.size ≠ b) := Lib.hid (by have := HBW.out; omega)
  have hb : Below w1.heap.size w1 (w1.alloc (.cells #[.string (numS r), .string (denS r)] 24)) := (Below.refl _ _).alloc (Nat.le_refl _) _
  replace H2 := Lib.hid (keep_block H2.out hb)
  replace HA := Lib.hid (keep_block HA.out hb)
  replace HE := Lib.hid (HE.out.below hb)
  replace HG := Lib.hid (kept_trans HG.out (kept_below hb))
  have H3 := Lib.hid (heap_alloc_new w1 (.cells #[.string (numS r), .string (denS r)] 24))
  clear hb
  clear geW lt_2
  obtain ⟨WL1, hWL1⟩ : ∃ Z, (w1.alloc (.cells #[.string (numS r), .string (denS r)] 24)) = Z := ⟨_, rfl⟩
  rw [hWL1] at HE HG H2 H3 HA
  have EWL1 := Lib.hid hWL1
  clear hWL1
  go_wp2_with fail
  rw [EWL1.out]
  refine (TNN.out _ HG.out HA.out HE.out.e).mono ?_
  rintro e W2 ⟨fv, rfl, hown, hE2, hg2⟩
  clear HA
  obtain ⟨gF, cap, rfl, hgF, cur, hcur, hqc⟩ := hown.rowB H0L.out
  have HQC := Lib.hid hqc
  have LF_3 := Lib.hid (show w1.heap.size < gF from Nat.lt_of_lt_of_le (heap_lt H3.out) hgF)
  have LF_2 := Lib.hid (show W.heap.size < gF from Nat.lt_of_lt_of_le (heap_lt H2.out) hgF)
  have GF := Lib.hid (show W.heap.size ≤ gF from Nat.le_trans HG.out.size hgF)
  replace H2 := Lib.hid (kept_block H2.out hg2 NE2.out)
  replace H3 := Lib.hid (kept_block H3.out hg2 NE3.out)
  replace HE := Lib.hid (HE.out.kept hg2 HP.out)
  replace HG := Lib.hid (kept_trans HG.out hg2)
  have HF := Lib.hid hcur
  clear hown hE2 hg2 hgF hcur hqc
  go_wp2_with fail
  have := L3_2.out
  have := LF_2.out
  have := LF_3.out
  have := HG.out.size
  have := G3.out
  have := GF.out
  have hok : okB 8 (fy_npvoKs3 r x o y qs gF cap cur W w1) = true := by kernel_rfl
  have hna := noAny_of (ks := (fy_npvoKs3 r x o y qs gF cap cur W w1)) (by kernel_rfl)
  have hla := lasts_of hna
  refine wp_region_facts (row := (some b)) (w := W) 8 (fy_npvoKs3 r x o y qs gF cap cur W w1) [some 9, some 10, some 11, some 12, some 13, some 14, some 15, none] (by kernel_rfl) (by kernel_rfl) rfl [undef, undef, undef, undef, undef, undef, undef, undef, .pointer (some ⟨W.heap.size, 0, none⟩), .pointer (some ⟨w1.heap.size, 0, none⟩), .pointer (some ⟨gF, 0, none⟩)] ?h00 (Fs.start_olds hla rfl HG.out ⟨⟨_, rfl, fun _ h => Option.some.inj h, by omega, H2.out⟩, fun _ => ⟨fun _ => far_of (by omega), fun _ => far_of (by omega), trivial⟩, ⟨⟨_, rfl, fun _ h => Option.some.inj h, by omega, H3.out⟩, fun _ => ⟨fun _ => far_of (by omega), trivial⟩, ⟨⟨_, rfl, fun _ h => Option.some.inj h, by omega, HF.out⟩, fun _ => trivial, trivial⟩⟩⟩) ?hs ?hd
  case h00 => simp only [putO, layL]
  case hs =>
    rintro listed vs Wr hF i hi hun hpre
    obtain ⟨s0, s1, s2, s3, s4, s5, s6, s7, o0, o1, o2, hvs⟩ := exl_of 11 vs (fun l => vs = l) hF.len rfl
    subst hvs
    obtain ⟨eG0, gG0, hO0⟩ := old_of hF (i := 8) rfl (.inl (by decide))
    replace eG0 : o0 = _ := eG0
    subst eG0
    obtain ⟨eG1, gG1, hO1⟩ := old_of hF (i := 9) rfl (.inl (by decide))
    replace eG1 : o1 = _ := eG1
    subst eG1
    obtain ⟨eG2, gG2, hO2⟩ := old_of hF (i := 10) rfl (.inl (by decide))
    replace eG2 : o2 = _ := eG2
    subst eG2
    have hge := Nat.zero_le i
    simp only [putO, layL]
    rcases Nat.lt_or_ge i 4 with hlt | hgt
    · replace hi := hlt
      clear hlt
      rcases Nat.lt_or_ge i 2 with hlt | hgt
      · replace hi := hlt
        clear hlt
        rcases Nat.lt_or_ge i 1 with hlt | hgt
        · replace hi := hlt
          clear hlt
          obtain rfl := eqi hi hge
          rw [if_neg (hF.unst (by decide))] at hO1
          have hcc := (two_at (hO1)).1
          have cH30 := hcc.1
          have cH31 := hcc.2
          clear hcc
          refine step_of ⟨some 9, _, _, _, _, _⟩ rfl (fun K' hK => ?_)
          go_simp
          refine hK.out _ _ ⟨_, hF.pure hok hla hpre rfl (Below.refl _ _), ?fr⟩
          case fr => simp only [putO, layL]
        · replace hge : 1 ≤ i := hgt
          clear hgt
          obtain rfl := eqi hi hge
          refine step_of ⟨some 10, _, _, _, _, _⟩ rfl (fun K' hK => ?_)
          go_simp
          refine hK.out _ _ ⟨_, hF.pure hok hla hpre rfl (Below.refl _ _), ?fr⟩
          case fr => simp only [putO, layL]
      · replace hge : 2 ≤ i := hgt
        clear hgt
        rcases Nat.lt_or_ge i 3 with hlt | hgt
        · replace hi := hlt
          clear hlt
          obtain rfl := eqi hi hge
          have p0 := hpre 0 (by kernel_rfl)
          have e0 : s0 = .agg #[.string (numS r), .string (denS r)] := hF.get 0 _ rfl (.inr p0)
          subst e0
          have p1 := hpre 1 (by kernel_rfl)
          have e1 : s1 = .slice (some ⟨gF, 0, none⟩) qs.length cap := hF.get 1 _ rfl (.inr p1)
          subst e1
          refine step_of ⟨some 11, _, _, _, _, _⟩ rfl (fun K' hK => ?_)
          go_simp
          go_at_call 260
          (with_reducible refine (HPT.out _ _ _ (fracs_cur (by have h := hO2; rw [if_neg (hF.unst (by decide))] at h; exact h) HQC.out) (HE0.out.kept hF.low HP.out)).mono ?_)
          rintro e Wq ⟨rfl, hq⟩
          refine hK.out _ _ ⟨_, hF.pure hok hla hpre rfl hq, ?fr⟩
          case fr => simp only [putO, layL]
        · replace hge : 3 ≤ i := hgt
          clear hgt
          obtain rfl := eqi hi hge
          have o0 := ((HE0.out.kept hF.low HP.out)).one 0 (by decide)
          have o1 := ((HE0.out.kept hF.low HP.out)).one 1 (by decide)
          refine step_of ⟨some 12, _, _, _, _, _⟩ rfl (fun K' hK => ?_)
          go_simp
          refine hK.out _ _ ⟨_, hF.pure hok hla hpre rfl (Below.refl _ _), ?fr⟩
          case fr => simp only [putO, layL]
    · replace hge : 4 ≤ i := hgt
      clear hgt
      rcases Nat.lt_or_ge i 6 with hlt | hgt
      · replace hi := hlt
        clear hlt
        rcases Nat.lt_or_ge i 5 with hlt | hgt
        · replace hi := hlt
          clear hlt
          obtain rfl := eqi hi hge
          rw [if_neg (hF.unst (by decide))] at hO1
          have hcc := (two_at (hO1)).1
          have cH30 := hcc.1
          have cH31 := hcc.2
          clear hcc
          refine step_of ⟨some 13, _, _, _, _, _⟩ rfl (fun K' hK => ?_)
          go_simp
          refine hK.out _ _ ⟨_, hF.pure hok hla hpre rfl (Below.refl _ _), ?fr⟩
          case fr => simp only [putO, layL]
        · replace hge : 5 ≤ i := hgt
          clear hgt
          obtain rfl := eqi hi hge
          have p3 := hpre 3 (by kernel_rfl)
          have e3 : s3 = .agg #[.string { data := #[49] }, .string { data := #[49] }] := hF.get 3 _ rfl (.inr p3)
          subst e3
          have p4 := hpre 4 (by kernel_rfl)
          have e4 : s4 = .agg #[.string (numS r), .string (denS r)] := hF.get 4 _ rfl (.inr p4)
          subst e4
          refine step_of ⟨some 14, _, _, _, _, _⟩ rfl (fun K' hK => ?_)
          go_simp
          go_at_call 116
          (with_reducible refine (Qc0.out _ (HE0.out.kept hF.low HP.out)).mono ?_)
          rintro e Wq ⟨rfl, hq⟩
          refine hK.out _ _ ⟨_, hF.pure hok hla hpre rfl hq, ?fr⟩
          case fr => simp only [putO, layL]
      · replace hge : 6 ≤ i := hgt
        clear hgt
        rcases Nat.lt_or_ge i 7 with hlt | hgt
        · replace hi := hlt
          clear hlt
          obtain rfl := eqi hi hge
          have p2 := hpre 2 (by kernel_rfl)
          have e2 : s2 = .agg #[.string (numS x), .string (denS x)] := hF.get 2 _ rfl (.inr p2)
          subst e2
          have p5 := hpre 5 (by kernel_rfl)
          have e5 : s5 = .agg #[.string (numS o), .string (denS o)] := hF.get 5 _ rfl (.inr p5)
          subst e5
          refine step_of ⟨some 15, _, _, _, _, _⟩ rfl (fun K' hK => ?_)
          go_simp
          go_at_call 115
          (with_reducible refine (Qc1.out _ (HE0.out.kept hF.low HP.out)).mono ?_)
          rintro e Wq ⟨rfl, hq⟩
          refine hK.out _ _ ⟨_, hF.pure hok hla hpre rfl hq, ?fr⟩
          case fr => simp only [putO, layL]
        · replace hge : 7 ≤ i := hgt
          clear hgt
          obtain rfl := eqi hi hge
          have p6 := hpre 6 (by kernel_rfl)
          have e6 : s6 = .agg #[.string (numS y), .string (denS y)] := hF.get 6 _ rfl (.inr p6)
          subst e6
          rw [if_neg (bit_off hun)] at hO0
          have HGB := Lib.hid hO0
          obtain ⟨⟨y0, y1⟩, g0, g1⟩ := two_at HGB.out
          refine step_of ⟨none, _, _, _, _, _⟩ rfl (fun K' hK => ?_)
          go_simp
          refine hK.out _ _ ⟨undef, hF.put hok hna hpre hun rfl undef rfl (.inl (by decide)) rfl (set2_at HGB.out (.string (numS y)) (.string (denS y))) (fun k hk => set2_other _ _ (.string (numS y)) (.string (denS y)) hk) (put2_below gG0 _ (.string (numS y)) (.string (denS y))), ?fr⟩
          case fr => simp only [putO, layL]
  case hd =>
    rintro listed vs WD hF hall
    obtain ⟨s0, s1, s2, s3, s4, s5, s6, s7, o0, o1, o2, hvs⟩ := exl_of 11 vs (fun l => vs = l) hF.len rfl
    subst hvs
    obtain ⟨eG0, gG0, hO0⟩ := old_of hF (i := 8) rfl (.inl (by decide))
    replace eG0 : o0 = _ := eG0
    subst eG0
    obtain ⟨eG1, gG1, hO1⟩ := old_of hF (i := 9) rfl (.inl (by decide))
    replace eG1 : o1 = _ := eG1
    subst eG1
    obtain ⟨eG2, gG2, hO2⟩ := old_of hF (i := 10) rfl (.inl (by decide))
    replace eG2 : o2 = _ := eG2
    subst eG2
    rw [if_pos (hall 7 (by decide))] at hO0
    replace H2 := Lib.hid hO0
    clear hO0
    rw [if_neg (hF.unst (by decide))] at hO1
    replace H3 := Lib.hid hO1
    clear hO1
    rw [if_neg (hF.unst (by decide))] at hO2
    replace HF := Lib.hid hO2
    clear hO2
    have HQ := Lib.hid hF.low
    clear hF hall hok hna hla
    simp only [putO, layL]
    replace HG := HQ
    clear HQ
    replace HE := Lib.hid (HE0.out.kept HG.out HP.out)
    obtain ⟨⟨x2_0, x2_1⟩, x2_f0, x2_f1⟩ := two_at H2.out
    go_wp2
    refine bodyPost_ret (v := .agg #[.string (numS y), .string (denS y)]) (by simp [results, Tryz.results126, go_sem, x2_0, x2_1]) rfl ⟨rfl, HG.out⟩

end Go.Proofs.YtcbolipiaflfbaaGreatDoor.Num.Fy

/- package value: Lift at the kinds 'sa' where no argument is lifted. Conditions: the tables lie as they are laid. -/
namespace Go.Proofs.YtcbolipiaflfbaaGreatDoor.Num
open Go.RowKit Go.Lib

set_option maxHeartbeats 1000000 in
theorem letter_sa0 (i : Nat) (hi : i = 0) (w : World) : Calls Tryz.prog 194 #[.string { data := #[115, 97] }, .int .i64 (i : Int)] w fun e w' => e = .returned (.int .u8 115) ∧ w' = w := by
  have hm : min (i : Int) 1 = 0 := by omega
  go_enter Tryz.func194, Tryz.ntmps194
  go_wp2
  go_ret
  exact ⟨by first | rfl | simp, rfl⟩

set_option maxHeartbeats 1000000 in
theorem letter_sa1 (i : Nat) (h0 : 1 ≤ i) (hi : i ≤ 1000000) (w : World) : Calls Tryz.prog 194 #[.string { data := #[115, 97] }, .int .i64 (i : Int)] w fun e w' => e = .returned (.int .u8 97) ∧ w' = w := by
  have hm : min (i : Int) 1 = 1 := by omega
  go_enter Tryz.func194, Tryz.ntmps194
  go_wp2
  go_ret
  exact ⟨by first | rfl | simp, rfl⟩

set_option maxHeartbeats 8000000 in
set_option maxRecDepth 100000 in
theorem lift_sa (vs : List Val) (ab ao C pb : Nat) (q : Val) (w : World) (h0 : 0 < vs.length) (h9 : vs.length ≤ 300) (hno0 : ∀ (h : 0 < vs.length), (vs[0].k == 5) = false) (hv : ValsAt w ab ao vs) (hE : Env w) (hq : q.A = none ∧ q.L = 0 ∧ q.C = 0)
    (hC : ∀ v ∈ vs, ∀ W, Below w.heap.size w W → Calls Tryz.prog 47 #[v.agg] W fun e w' => e = .returned (.int .i64 0) ∧ Below W.heap.size W w')
    (hO : ∀ W, Env W → Calls Tryz.prog 47 #[q.agg] W fun e w' => e = .returned (.int .i64 0) ∧ Below W.heap.size W w')
    (hF : ∀ W g cap, Below w.heap.size w W → ValsAt W g 0 vs → Calls Tryz.prog 68 #[.slice (some ⟨g, 0, none⟩) vs.length cap, .pointer (some ⟨pb, 0, none⟩)] W fun e w' => e = .returned q.agg ∧ Below W.heap.size W w') :
    Calls Tryz.prog 67 #[.string { data := #[115, 97] }, .slice (some ⟨ab, ao, none⟩) vs.length C, .func (.func 68) #[] #[.pointer (some ⟨pb, 0, none⟩)]] w fun e w' => e = .returned (.tuple #[q.agg, .int .i64 0]) ∧ Below w.heap.size w w' := by
  obtain ⟨qk, qn, qd, qt, qon, qc, qr, qs, qA, qL, qC⟩ := q
  obtain ⟨rfl, rfl, rfl⟩ := hq
  have hb : Below w.heap.size w (w.alloc (.cells #[.int .i64 0, .string { data := #[] }, .string { data := #[] }, .string { data := #[] }, .bool false, .int .i64 0, .int .i64 0, .int .i64 0, .slice none 0 0] 27)) := (Below.refl _ _).alloc (Nat.le_refl _) _
  have HR := Lib.hid (heap_alloc_new w (.cells #[.int .i64 0, .string { data := #[] }, .string { data := #[] }, .string { data := #[] }, .bool false, .int .i64 0, .int .i64 0, .int .i64 0, .slice none 0 0] 27))
  have HV := Lib.hid (hv.below hb)
  have HE := Lib.hid (hE.below hb)
  have HL := Lib.hid hb
  have HC := Lib.hid hC
  have HO := Lib.hid (fun W g => valid_of qk qn qd qt qon qc qr qs none 0 0 W hO g)
  have HF := Lib.hid hF
  obtain ⟨L, hL⟩ : ∃ L, vs.length = L := ⟨_, rfl⟩
  have HLL := Lib.hid hL
  rw [hL] at h0 h9 HF ⊢
  have htr := fun W => Any.strings_Trim_laid Tryz.lays160 (by kernel_rfl) { data := #[115, 97] } { data := #[115, 97] } W (by decide) (by decide) (ascii_of_all (by decide))
  rw [show Lib.trimS ({ data := #[115, 97] } : ByteArray).data.toList ({ data := #[115, 97] } : ByteArray).data.toList = [] from by decide] at htr
  have HTR := Lib.hid htr
  have hem : ({ data := #[] } : ByteArray).toList.isEmpty = true := by rw [Lib.toList_data]; rfl
  obtain ⟨B, hB⟩ : ∃ B, w.heap.size = B := ⟨_, rfl⟩
  have HB := Lib.hid hB
  clear hb hv hE hC hO hF hL htr hB
  go_enter Tryz.func67, Tryz.ntmps67
  go_wp2_with fail
  refine (HTR.out _).mono ?_
  rintro e w1 ⟨rfl, hb⟩
  replace HR := Lib.hid (keep_block HR.out hb)
  replace HV := Lib.hid (HV.out.below hb)
  replace HE := Lib.hid (HE.out.below hb)
  replace HL := Lib.hid (HL.out.trans (hb.mono HL.out.size))
  clear hb
  have LI := Lib.hid (show LiftI w ab ao vs w1 from ⟨HR.out, HV.out, HE.out, HL.out⟩)
  clear HR HV HE HL
  go_wp2_with fail
  go_loopg [29] L (fun g v29 wx => ∃ i : Nat, v29 = .int .i64 (i : Int) ∧ i ≤ L ∧ g = L - i ∧ LiftI w ab ao vs wx)
  case atStart => exact ⟨0, rfl, Nat.zero_le _, rfl, LI.out⟩
  case round =>
    obtain ⟨i, rfl, hi, rfl, hli⟩ := hrel
    have HLI := Lib.hid hli
    clear hli LI
    by_cases hlt : i < L
    · have hd : decide ((i : Int) < (L : Int)) = true := decide_eq_true (by omega)
      have hd2 : decide (i < L) = true := decide_eq_true hlt
      have hii : i < vs.length := by rw [HLL.out]; exact hlt
      obtain ⟨c0, c1, c2, c3, c4, c5, c6, c7, c8⟩ := HLI.out.2.1.at i hii
      have hi0 : (0 : Int) ≤ (i : Int) := by omega
      have hi1 : (i : Int) < (L : Int) := by omega
      have TC := Lib.hid (HC.out vs[i] (List.getElem_mem hii))
      have HA := Lib.hid (HLI.out.2.2.2.trans ((Below.refl wr.heap.size wr).alloc (Nat.le_refl _) (.cells #[.int .i64 vs[i].k, .string vs[i].n, .string vs[i].d, .string vs[i].t, .bool vs[i].on, .int .i64 vs[i].c, .int .i64 vs[i].r, .int .i64 vs[i].s, .slice vs[i].A vs[i].L vs[i].C] 27) |>.mono HLI.out.2.2.2.size))
      go_wp2_with fail
      refine (TC.out _ HA.out).mono ?_
      rintro e w2 ⟨rfl, hb⟩
      have HLI2 := Lib.hid ((HLI.out.step ((Below.refl wr.heap.size wr).alloc (Nat.le_refl _) (.cells #[.int .i64 vs[i].k, .string vs[i].n, .string vs[i].d, .string vs[i].t, .bool vs[i].on, .int .i64 vs[i].c, .int .i64 vs[i].r, .int .i64 vs[i].s, .slice vs[i].A vs[i].L vs[i].C] 27))).step hb)
      clear hb c0 c1 c2 c3 c4 c5 c6 c7 c8
      go_wp2
      go_roundg (L - (i + 1))
      case measure => omega
      case rel => exact ⟨i + 1, by go_num, by omega, by omega, HLI2.out⟩
    · have hd : decide ((i : Int) < (L : Int)) = false := decide_eq_false (by omega)
      have hd2 : decide (i < L) = false := decide_eq_false hlt
      clear hlt
      go_wp2_with fail
      go_loopg [11, 12, 42] L (fun g v11 v12 v42 wx => ∃ i : Nat, v11 = .int .i64 0 ∧ v12 = .int .i64 0 ∧ v42 = .int .i64 (i : Int) ∧ i ≤ L ∧ g = L - i ∧ LiftI w ab ao vs wx)
      case atStart => exact ⟨0, rfl, rfl, rfl, Nat.zero_le _, rfl, HLI.out⟩
      case round =>
        clear HLI hd hd2 hi
        obtain ⟨i, rfl, rfl, rfl, hi, rfl, hli⟩ := hrel
        have HLI := Lib.hid hli
        clear hli
        by_cases hlt : i < L
        · have hd : decide ((i : Int) < (L : Int)) = true := decide_eq_true (by omega)
          have hd2 : decide (i < L) = true := decide_eq_true hlt
          have hii : i < vs.length := by rw [HLL.out]; exact hlt
          obtain ⟨c0, c1, c2, c3, c4, c5, c6, c7, c8⟩ := HLI.out.2.1.at i hii
          have hi0 : (0 : Int) ≤ (i : Int) := by omega
          have hi1 : (i : Int) < (L : Int) := by omega
          by_cases h0 : i = 0
          · skip
            have hkf : (vs[i].k == 5) = false := by subst h0; exact hno0 hii
            have hI := Lib.hid h0
            clear h0
            go_wp2_with fail
            refine (letter_sa0 i hI.out _).mono ?_
            rintro e w2 ⟨rfl, rfl⟩
            have HLI2 := Lib.hid (HLI.out.step ((Below.refl wr.heap.size wr).alloc (Nat.le_refl _) (.cells #[.int .i64 vs[i].k, .string vs[i].n, .string vs[i].d, .string vs[i].t, .bool vs[i].on, .int .i64 vs[i].c, .int .i64 vs[i].r, .int .i64 vs[i].s, .slice vs[i].A vs[i].L vs[i].C] 27)))
            go_wp2
            go_roundg (L - (i + 1))
            case measure => omega
            case rel => exact ⟨i + 1, rfl, rfl, by go_num, by omega, by omega, HLI2.out⟩
          · skip
            have hgt : 1 ≤ i := by omega
            skip
            go_wp2_with fail
            refine (letter_sa1 i hgt (by omega) _).mono ?_
            rintro e w2 ⟨rfl, rfl⟩
            have HLI2 := Lib.hid (HLI.out.step ((Below.refl wr.heap.size wr).alloc (Nat.le_refl _) (.cells #[.int .i64 vs[i].k, .string vs[i].n, .string vs[i].d, .string vs[i].t, .bool vs[i].on, .int .i64 vs[i].c, .int .i64 vs[i].r, .int .i64 vs[i].s, .slice vs[i].A vs[i].L vs[i].C] 27)))
            go_wp2
            go_roundg (L - (i + 1))
            case measure => omega
            case rel => exact ⟨i + 1, rfl, rfl, by go_num, by omega, by omega, HLI2.out⟩
        · have hd : decide ((i : Int) < (L : Int)) = false := decide_eq_false (by omega)
          have hd2 : decide (i < L) = false := decide_eq_false hlt
          clear hlt
          obtain ⟨i0, hi0', hz0, hz1, hz2⟩ := info_val
          have hfl : (flat vs).length = L * 9 := by rw [flat_len, HLL.out]
          have hvals := HLI.out.2.1
          have hml : 0 + L ≤ maxLen := by unfold maxLen; omega
          clear hi
          go_wp2_with (at_builtin; refine wpList_append_own _ rfl _ _ 25 rfl w.heap.size 27 i0 _ 9 112 Tryz.underlying25 hi0' hz0 hz1 hz2 rfl (by decide) (.slice none 0 0) 0 [] rfl (World.ownsRow_nil _ _ _ _) ⟨ab, ao, none⟩ L C (flat vs) rfl hfl hvals (flat_one vs) hml (by omega) HLI.out.2.2.2.size ?_)
          intro v5 w5 hown5 hgrow5 _
          obtain ⟨g, cap, rfl, hg, hcap, hva⟩ := vals_of_owns hown5 HLL.out h0
          have HLI5 := Lib.hid (HLI.out.step (below_none hgrow5))
          have HVA := Lib.hid hva
          clear hown5 hgrow5 hg hcap hva hvals hfl hml hi0' hz0 hz1 hz2
          go_wp2_with fail
          refine (HF.out _ g cap HLI5.out.2.2.2 HVA.out).mono ?_
          rintro e w6 ⟨rfl, hb⟩
          have HLI6 := Lib.hid (HLI5.out.step hb)
          clear hb
          unfold Val.agg
          simp only []
          go_wp2_with fail
          refine (HO.out _ HLI6.out.2.2.1).mono ?_
          rintro e w7 ⟨rfl, hb⟩
          have HLI7 := Lib.hid (HLI6.out.step hb)
          clear hb
          have HLI8 := Lib.hid (HLI7.out.step ((Below.refl w7.heap.size w7).alloc (Nat.le_refl _) (.cells #[.int .i64 qk, .string qn, .string qd, .string qt, .bool qon, .int .i64 qc, .int .i64 qr, .int .i64 qs, .slice none 0 0] 27)))
          obtain ⟨⟨a0, a1, a2, a3, a4, a5, a6, a7, a8⟩, b0, b1, b2, b3, b4, b5, b6, b7, b8⟩ := nine_at HLI7.out.1
          obtain ⟨⟨r0, r1, r2, r3, r4, r5, r6, r7, r8⟩, g0, g1, g2, g3, g4, g5, g6, g7, g8⟩ := nine_at HLI8.out.1
          have hlt7 := heap_lt HLI7.out.1
          have HF1 := Lib.hid (set9_at HLI7.out.1 (.int .i64 qk) (.string qn) (.string qd) (.string qt) (.bool qon) (.int .i64 qc) (.int .i64 qr) (.int .i64 qs) (.slice none 0 0))
          have HF2 := Lib.hid ((Below.heap_alloc _ (.cells #[.int .i64 qk, .string qn, .string qd, .string qt, .bool qon, .int .i64 qc, .int .i64 qr, .int .i64 qs, .slice none 0 0] 27) _ (heap_lt HF1.out)).trans HF1.out)
          have HB2 := Lib.hid (nine_end (x0 := (.int .i64 qk)) (x1 := (.string qn)) (x2 := (.string qd)) (x3 := (.string qt)) (x4 := (.bool qon)) (x5 := (.int .i64 qc)) (x6 := (.int .i64 qr)) (x7 := (.int .i64 qs)) (x8 := (.slice none 0 0)) HLI7.out.1 HLI7.out.2.2.2 (Nat.le_refl _)).1
          have HZ2 := Lib.hid (HB2.out.alloc HB2.out.size (.cells #[.int .i64 qk, .string qn, .string qd, .string qt, .bool qon, .int .i64 qc, .int .i64 qr, .int .i64 qs, .slice none 0 0] 27))
          obtain ⟨⟨e0, e1, e2, e3, e4, e5, e6, e7, e8⟩, _⟩ := nine_at HF2.out
          go_wp2
          refine bodyPost_ret (v := .tuple #[.agg #[.int .i64 qk, .string qn, .string qd, .string qt, .bool qon, .int .i64 qc, .int .i64 qr, .int .i64 qs, .slice none 0 0], .int .i64 0]) (by simp [results, Tryz.results67, go_sem, e0, e1, e2, e3, e4, e5, e6, e7, e8]) rfl ⟨rfl, HZ2.out⟩
end Go.Proofs.YtcbolipiaflfbaaGreatDoor.Num

/- package value: Run at a row of fmoney's table with the kinds 'sa'. Conditions: the tables lie as they are laid. -/
namespace Go.Proofs.YtcbolipiaflfbaaGreatDoor.Num.Fy
open Go.RowKit Go.Lib Go.MapKept Num
attribute [local go_sem] run_store_func

set_option maxHeartbeats 8000000 in
set_option maxRecDepth 100000 in
theorem run_sa_val (i : Nat) (r : Row) (hi : i < allRows.length) (hr : allRows[i] = r) (hnum : r.num = true) (hkd : r.kinds = { data := #[115, 97] }) (hfr : ∀ j (hj : j < i), (allRows[i].name == (allRows[j]'(by omega)).name) = false) (vs : List Val) (b ab ao C : Nat) (q : Val) (w : World) (h0 : 0 < vs.length) (h9 : vs.length ≤ 300) (hc1 : r.least ≤ vs.length) (hc2 : (vs.length : Int) ≤ r.most) (hno0 : ∀ (h : 0 < vs.length), (vs[0].k == 5) = false) (hv : ValsAt w ab ao vs) (hE : Env w) (hT : TableAt w b allRows) (hq : q.A = none ∧ q.L = 0 ∧ q.C = 0 ∧ q.r = 0 ∧ q.s = 0)
    (hO : ∀ W, Env W → Calls Tryz.prog 47 #[q.agg] W fun e w' => e = .returned (.int .i64 0) ∧ Below W.heap.size W w') 
    (hC : ∀ v ∈ vs, ∀ W, Below w.heap.size w W → Calls Tryz.prog 47 #[v.agg] W fun e w' => e = .returned (.int .i64 0) ∧ Below W.heap.size W w')
    (hK : ∀ W e g cap, Below w.heap.size w W → Env W → FnAt W e r → ValsAt W g 0 vs → Calls Tryz.prog 252 #[.slice (some ⟨g, 0, none⟩) vs.length cap, .pointer (some ⟨e, 0, none⟩)] W fun e w' => e = .returned q.agg ∧ Below W.heap.size W w') :
    Calls Tryz.prog 44 #[.map (some b), .string r.name, .slice (some ⟨ab, ao, none⟩) vs.length C] w fun e w' => e = .returned (.tuple #[(q).agg, .int .i64 0]) ∧ Below w.heap.size w w' := by
  have hb : Below w.heap.size w (w.alloc (.cells #[.int .i64 0, .string { data := #[] }, .string { data := #[] }, .string { data := #[] }, .bool false, .int .i64 0, .int .i64 0, .int .i64 0, .slice none 0 0] 27)) := (Below.refl _ _).alloc (Nat.le_refl _) _
  have HR := Lib.hid (heap_alloc_new w (.cells #[.int .i64 0, .string { data := #[] }, .string { data := #[] }, .string { data := #[] }, .bool false, .int .i64 0, .int .i64 0, .int .i64 0, .slice none 0 0] 27))
  obtain ⟨v, hrf, hrun⟩ := (hT.below hb).look i hi hfr Tryz.underlying69 Tryz.underlying9
  rw [hr] at hrf hrun
  obtain ⟨e0, rfl, hfn⟩ := rowFn_at hrf hnum
  obtain ⟨name, least, most, kinds, num, F⟩ := r
  simp only at hkd hc1 hc2
  subst hkd
  simp only at hrun ⊢
  have HV := Lib.hid (hv.below hb)
  have HE := Lib.hid (hE.below hb)
  have HL := Lib.hid hb
  have HFN := Lib.hid hfn
  have d1 : decide ((vs.length : Int) < least) = false := decide_eq_false (by omega)
  have d2 : decide (most < (vs.length : Int)) = false := decide_eq_false (by omega)
  have hmf : ∀ (fn : Fn) (first cap : Array Value) (w : World), (Instr.makeFunc fn first cap).run Tryz.prog w = .ok (.func fn first cap) w := fun _ _ _ _ => rfl
  have hb : Below (w.alloc (.cells #[.int .i64 0, .string { data := #[] }, .string { data := #[] }, .string { data := #[] }, .bool false, .int .i64 0, .int .i64 0, .int .i64 0, .slice none 0 0] 27)).heap.size (w.alloc (.cells #[.int .i64 0, .string { data := #[] }, .string { data := #[] }, .string { data := #[] }, .bool false, .int .i64 0, .int .i64 0, .int .i64 0, .slice none 0 0] 27)) ((w.alloc (.cells #[.int .i64 0, .string { data := #[] }, .string { data := #[] }, .string { data := #[] }, .bool false, .int .i64 0, .int .i64 0, .int .i64 0, .slice none 0 0] 27)).alloc (.cells #[.int .i64 least, .int .i64 most, .string { data := #[115, 97] }, .func (.func 252) #[] #[.pointer (some ⟨e0, 0, none⟩)]] 98)) := (Below.refl _ _).alloc (Nat.le_refl _) _
  have HX := Lib.hid (Lib.cell_of_heap (heap_alloc_new (w.alloc (.cells #[.int .i64 0, .string { data := #[] }, .string { data := #[] }, .string { data := #[] }, .bool false, .int .i64 0, .int .i64 0, .int .i64 0, .slice none 0 0] 27)) (.cells #[.int .i64 least, .int .i64 most, .string { data := #[115, 97] }, .func (.func 252) #[] #[.pointer (some ⟨e0, 0, none⟩)]] 98)) 3)
  replace HR := Lib.hid (keep_block HR.out hb)
  replace HV := Lib.hid (HV.out.below hb)
  replace HE := Lib.hid (HE.out.below hb)
  replace HL := Lib.hid (HL.out.trans (hb.mono HL.out.size))
  replace HFN := Lib.hid (HFN.out.below hb)
  have hpos : (w.alloc (.cells #[.int .i64 0, .string { data := #[] }, .string { data := #[] }, .string { data := #[] }, .bool false, .int .i64 0, .int .i64 0, .int .i64 0, .slice none 0 0] 27)).heap.size = w.heap.size + 1 := by simp
  rw [hpos] at HX
  have TL := Lib.hid (lift_sa vs ab ao C (w.heap.size + 1) (q) ((w.alloc (.cells #[.int .i64 0, .string { data := #[] }, .string { data := #[] }, .string { data := #[] }, .bool false, .int .i64 0, .int .i64 0, .int .i64 0, .slice none 0 0] 27)).alloc (.cells #[.int .i64 least, .int .i64 most, .string { data := #[115, 97] }, .func (.func 252) #[] #[.pointer (some ⟨e0, 0, none⟩)]] 98)) h0 h9 hno0 HV.out HE.out ⟨hq.1, hq.2.1, hq.2.2.1⟩
    (fun v hv W h => hC v hv W (HL.out.trans (h.mono HL.out.size))) (hO)
    (fun W g cap hbw hva => by
      have h := run1_value (w.heap.size + 1) 0 e0 (.slice (some ⟨g, 0, none⟩) vs.length cap) q.k q.n q.d q.t q.on q.c q.A q.L q.C W ⟨_, _, _, rfl⟩ (cell_below HX.out hbw) (HE.out.below hbw) (fun W' hb' => by
        have h2 := hK W' e0 g cap (HL.out.trans ((hbw.trans (hb'.mono hbw.size)).mono HL.out.size)) (HE.out.below (hbw.trans (hb'.mono hbw.size))) (HFN.out.below (hbw.trans (hb'.mono hbw.size))) (hva.below hb')
        unfold Val.agg at h2
        rw [hq.2.2.2.1, hq.2.2.2.2] at h2
        exact h2)
      unfold Val.agg
      rw [hq.2.2.2.1, hq.2.2.2.2]
      exact h))
  obtain ⟨qq, hqq⟩ : ∃ z, (q) = z := ⟨_, rfl⟩
  rw [hqq] at TL ⊢
  clear hqq hb hv hE hT hC hK hrf hfn hpos hfr hr hi h0 h9 hc1 hc2
  go_enter Tryz.func44, Tryz.ntmps44
  unfold Val.agg at TL ⊢
  go_wp2_with fail
  refine TL.out.mono ?_
  rintro e w2 ⟨rfl, hb2⟩
  replace HR := Lib.hid (keep_block HR.out hb2)
  replace HL := Lib.hid (HL.out.trans (hb2.mono HL.out.size))
  clear hb2
  obtain ⟨⟨r0, r1, r2, r3, r4, r5, r6, r7, r8⟩, g0, g1, g2, g3, g4, g5, g6, g7, g8⟩ := nine_at HR.out
  obtain ⟨nb, z0, z1, z2, z3, z4, z5, z6, z7, z8⟩ := nine_end (x0 := (.int .i64 qq.k)) (x1 := (.string qq.n)) (x2 := (.string qq.d)) (x3 := (.string qq.t)) (x4 := (.bool qq.on)) (x5 := (.int .i64 qq.c)) (x6 := (.int .i64 qq.r)) (x7 := (.int .i64 qq.s)) (x8 := (.slice qq.A qq.L qq.C)) HR.out HL.out (Nat.le_refl _)
  go_wp2
  refine bodyPost_ret (v := .tuple #[.agg #[.int .i64 qq.k, .string qq.n, .string qq.d, .string qq.t, .bool qq.on, .int .i64 qq.c, .int .i64 qq.r, .int .i64 qq.s, .slice qq.A qq.L qq.C], .int .i64 0]) (by simp [results, Tryz.results44, go_sem, z0, z1, z2, z3, z4, z5, z6, z7, z8]) rfl ⟨rfl, nb⟩

set_option maxHeartbeats 8000000 in
set_option maxRecDepth 100000 in
theorem run_sa_stop (i : Nat) (r : Row) (hi : i < allRows.length) (hr : allRows[i] = r) (hnum : r.num = true) (hkd : r.kinds = { data := #[115, 97] }) (hfr : ∀ j (hj : j < i), (allRows[i].name == (allRows[j]'(by omega)).name) = false) (vs : List Val) (b ab ao C : Nat) (c : Int) (w : World) (h0 : 0 < vs.length) (h9 : vs.length ≤ 300) (hc1 : r.least ≤ vs.length) (hc2 : (vs.length : Int) ≤ r.most) (hno0 : ∀ (h : 0 < vs.length), (vs[0].k == 5) = false) (hv : ValsAt w ab ao vs) (hE : Env w) (hT : TableAt w b allRows) (h1 : 1 ≤ c) (h2 : c ≤ 8) 
    (hC : ∀ v ∈ vs, ∀ W, Below w.heap.size w W → Calls Tryz.prog 47 #[v.agg] W fun e w' => e = .returned (.int .i64 0) ∧ Below W.heap.size W w')
    (hK : ∀ W e g cap, Below w.heap.size w W → Env W → FnAt W e r → ValsAt W g 0 vs → Calls Tryz.prog 252 #[.slice (some ⟨g, 0, none⟩) vs.length cap, .pointer (some ⟨e, 0, none⟩)] W fun e w' => e = stopped c ∧ Below W.heap.size W w') :
    Calls Tryz.prog 44 #[.map (some b), .string r.name, .slice (some ⟨ab, ao, none⟩) vs.length C] w fun e w' => e = .returned (.tuple #[(faultVal' c).agg, .int .i64 0]) ∧ Below w.heap.size w w' := by
  have hb : Below w.heap.size w (w.alloc (.cells #[.int .i64 0, .string { data := #[] }, .string { data := #[] }, .string { data := #[] }, .bool false, .int .i64 0, .int .i64 0, .int .i64 0, .slice none 0 0] 27)) := (Below.refl _ _).alloc (Nat.le_refl _) _
  have HR := Lib.hid (heap_alloc_new w (.cells #[.int .i64 0, .string { data := #[] }, .string { data := #[] }, .string { data := #[] }, .bool false, .int .i64 0, .int .i64 0, .int .i64 0, .slice none 0 0] 27))
  obtain ⟨v, hrf, hrun⟩ := (hT.below hb).look i hi hfr Tryz.underlying69 Tryz.underlying9
  rw [hr] at hrf hrun
  obtain ⟨e0, rfl, hfn⟩ := rowFn_at hrf hnum
  obtain ⟨name, least, most, kinds, num, F⟩ := r
  simp only at hkd hc1 hc2
  subst hkd
  simp only at hrun ⊢
  have HV := Lib.hid (hv.below hb)
  have HE := Lib.hid (hE.below hb)
  have HL := Lib.hid hb
  have HFN := Lib.hid hfn
  have d1 : decide ((vs.length : Int) < least) = false := decide_eq_false (by omega)
  have d2 : decide (most < (vs.length : Int)) = false := decide_eq_false (by omega)
  have hmf : ∀ (fn : Fn) (first cap : Array Value) (w : World), (Instr.makeFunc fn first cap).run Tryz.prog w = .ok (.func fn first cap) w := fun _ _ _ _ => rfl
  have hb : Below (w.alloc (.cells #[.int .i64 0, .string { data := #[] }, .string { data := #[] }, .string { data := #[] }, .bool false, .int .i64 0, .int .i64 0, .int .i64 0, .slice none 0 0] 27)).heap.size (w.alloc (.cells #[.int .i64 0, .string { data := #[] }, .string { data := #[] }, .string { data := #[] }, .bool false, .int .i64 0, .int .i64 0, .int .i64 0, .slice none 0 0] 27)) ((w.alloc (.cells #[.int .i64 0, .string { data := #[] }, .string { data := #[] }, .string { data := #[] }, .bool false, .int .i64 0, .int .i64 0, .int .i64 0, .slice none 0 0] 27)).alloc (.cells #[.int .i64 least, .int .i64 most, .string { data := #[115, 97] }, .func (.func 252) #[] #[.pointer (some ⟨e0, 0, none⟩)]] 98)) := (Below.refl _ _).alloc (Nat.le_refl _) _
  have HX := Lib.hid (Lib.cell_of_heap (heap_alloc_new (w.alloc (.cells #[.int .i64 0, .string { data := #[] }, .string { data := #[] }, .string { data := #[] }, .bool false, .int .i64 0, .int .i64 0, .int .i64 0, .slice none 0 0] 27)) (.cells #[.int .i64 least, .int .i64 most, .string { data := #[115, 97] }, .func (.func 252) #[] #[.pointer (some ⟨e0, 0, none⟩)]] 98)) 3)
  replace HR := Lib.hid (keep_block HR.out hb)
  replace HV := Lib.hid (HV.out.below hb)
  replace HE := Lib.hid (HE.out.below hb)
  replace HL := Lib.hid (HL.out.trans (hb.mono HL.out.size))
  replace HFN := Lib.hid (HFN.out.below hb)
  have hpos : (w.alloc (.cells #[.int .i64 0, .string { data := #[] }, .string { data := #[] }, .string { data := #[] }, .bool false, .int .i64 0, .int .i64 0, .int .i64 0, .slice none 0 0] 27)).heap.size = w.heap.size + 1 := by simp
  rw [hpos] at HX
  have TL := Lib.hid (lift_sa vs ab ao C (w.heap.size + 1) (faultVal' c) ((w.alloc (.cells #[.int .i64 0, .string { data := #[] }, .string { data := #[] }, .string { data := #[] }, .bool false, .int .i64 0, .int .i64 0, .int .i64 0, .slice none 0 0] 27)).alloc (.cells #[.int .i64 least, .int .i64 most, .string { data := #[115, 97] }, .func (.func 252) #[] #[.pointer (some ⟨e0, 0, none⟩)]] 98)) h0 h9 hno0 HV.out HE.out ⟨rfl, rfl, rfl⟩
    (fun v hv W h => hC v hv W (HL.out.trans (h.mono HL.out.size))) (fun W g => check_fault c W h1 h2 g)
    (fun W g cap hbw hva => run1_stop (w.heap.size + 1) e0 (.slice (some ⟨g, 0, none⟩) vs.length cap) c W ⟨_, _, _, rfl⟩ h1 h2 (cell_below HX.out hbw) (HE.out.below hbw) (fun W' hb' => hK W' e0 g cap (HL.out.trans ((hbw.trans (hb'.mono hbw.size)).mono HL.out.size)) (HE.out.below (hbw.trans (hb'.mono hbw.size))) (HFN.out.below (hbw.trans (hb'.mono hbw.size))) (hva.below hb'))))
  obtain ⟨qq, hqq⟩ : ∃ z, (faultVal' c) = z := ⟨_, rfl⟩
  rw [hqq] at TL ⊢
  clear hqq hb hv hE hT hC hK hrf hfn hpos hfr hr hi h0 h9 hc1 hc2
  go_enter Tryz.func44, Tryz.ntmps44
  unfold Val.agg at TL ⊢
  go_wp2_with fail
  refine TL.out.mono ?_
  rintro e w2 ⟨rfl, hb2⟩
  replace HR := Lib.hid (keep_block HR.out hb2)
  replace HL := Lib.hid (HL.out.trans (hb2.mono HL.out.size))
  clear hb2
  obtain ⟨⟨r0, r1, r2, r3, r4, r5, r6, r7, r8⟩, g0, g1, g2, g3, g4, g5, g6, g7, g8⟩ := nine_at HR.out
  obtain ⟨nb, z0, z1, z2, z3, z4, z5, z6, z7, z8⟩ := nine_end (x0 := (.int .i64 qq.k)) (x1 := (.string qq.n)) (x2 := (.string qq.d)) (x3 := (.string qq.t)) (x4 := (.bool qq.on)) (x5 := (.int .i64 qq.c)) (x6 := (.int .i64 qq.r)) (x7 := (.int .i64 qq.s)) (x8 := (.slice qq.A qq.L qq.C)) HR.out HL.out (Nat.le_refl _)
  go_wp2
  refine bodyPost_ret (v := .tuple #[.agg #[.int .i64 qq.k, .string qq.n, .string qq.d, .string qq.t, .bool qq.on, .int .i64 qq.c, .int .i64 qq.r, .int .i64 qq.s, .slice qq.A qq.L qq.C], .int .i64 0]) (by simp [results, Tryz.results44, go_sem, z0, z1, z2, z3, z4, z5, z6, z7, z8]) rfl ⟨rfl, nb⟩
end Go.Proofs.YtcbolipiaflfbaaGreatDoor.Num.Fy

/- the law's call of fmoney at a number and an array. Conditions: the tables lie as they are laid. -/
namespace Go.Proofs.YtcbolipiaflfbaaGreatDoor.Num.Fy
open Go.RowKit Go.Lib Go.MapKept Num

theorem call_nsa (i : Nat) (r : Row) (hi : i < allRows.length) (hr : allRows[i] = r) (hkd : r.kinds = { data := #[115, 97] }) (hfr : ∀ j (hj : j < i), (allRows[i].name == (allRows[j]'(by omega)).name) = false) (hnum : r.num = true) (eF : ∀ args w, (callFunc r.fn args).run Tryz.prog w = .ok (.enter r.fn args) w) (vs : List Val) (ab ao C : Nat) (q : Rat) (w : World) (h0 : 0 < vs.length) (h9 : vs.length ≤ 300) (hc1 : r.least ≤ vs.length) (hc2 : (vs.length : Int) ≤ r.most) (hno0 : ∀ (h : 0 < vs.length), (vs[0].k == 5) = false) (hv : ValsAt w ab ao vs) (hE : EnvY w) (hck : ∀ v ∈ vs, ∀ W, Below w.heap.size w W → Calls Tryz.prog 47 #[v.agg] W fun e w' => e = .returned (.int .i64 0) ∧ Below W.heap.size W w') (hq : fits q = true)
    (hF : ∀ W b g cap, Below w.heap.size w W → EnvY W → Past b → b < W.heap.size → g < W.heap.size → ArgsAt W b (some ⟨g, 0, none⟩) vs.length cap 0 → ValsAt W g 0 vs → g ≠ b → Calls Tryz.prog r.fn #[.pointer (some ⟨b, 0, none⟩)] W fun e w' => e = .returned (fracV q) ∧ W.grownBy w' (some b)) :
    Calls Tryz.prog 13 #[.string r.name, .slice (some ⟨ab, ao, none⟩) vs.length C] w fun e w' => e = .returned (numVal q) ∧ Below w.heap.size w w' :=
  math_of r.name (.slice (some ⟨ab, ao, none⟩) vs.length C) (numVal' q) w ⟨_, _, _, rfl⟩ (fun W b hb hT =>
    run_sa_val i r hi hr hnum hkd hfr vs b ab ao C (numVal' q) W h0 h9 hc1 hc2 hno0 (hv.below hb) (hE.e.below hb) hT ⟨rfl, rfl, rfl, rfl, rfl⟩ (fun W g => check_num q W hq g)
      (fun v hv' W' h => hck v hv' W' (hb.trans (h.mono hb.size)))
      (fun W' e g cap hb' hE' hfn hva => entryn_val r g cap e vs q W' hfn eF hE' hva hq (fun W'' b' hb'' hE'' hP hlt ha hva' hne =>
        have hbb := hb.trans ((hb'.trans (hb''.mono hb'.size)).mono hb.size)
        hF W'' b' g cap hbb (hE.of hbb hE'') hP hlt (cell_lt (hva'.at 0 h0).1) ha hva' hne) h0))
end Go.Proofs.YtcbolipiaflfbaaGreatDoor.Num.Fy
