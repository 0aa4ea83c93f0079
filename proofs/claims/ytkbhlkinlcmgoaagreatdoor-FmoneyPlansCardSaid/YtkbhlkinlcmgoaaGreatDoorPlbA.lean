/- Numbers as texts of digits, fractions, values and the functions of fmath: contracts of the program's functions, joined from smaller texts. Conditions stand at each theorem. -/
import Derived.Test.YtkbhlkinlcmgoaaGreatDoorNumH
import Derived.BigQuiet
import Derived.IntWalk
import Derived.Test.YtkbhlkinlcmgoaaGreatDoorPlrA
import Derived.Below
import Derived.Lib.MinMax
import Derived.Deep.RegionLaw

/- package value: arrays of numbers: Check, List, Size, Inside. Conditions: the items are numbers that fit; the tables lie as they are laid. -/
namespace Go.Proofs.YtkbhlkinlcmgoaaGreatDoor.Num
open Go.RowKit Go.Lib

/-- an array as a value, field by field -/
def arrVal' (r s : Int) (g L C : Nat) : Val := ⟨5, { data := #[] }, { data := #[] }, { data := #[] }, false, 0, r, s, some ⟨g, 0, none⟩, L, C⟩
/-- what stays while the items of an array are gone through -/
structure RowI (w : World) (g : Nat) (qs : List Rat) (W : World) : Prop where
  row : ValsAt W g 0 (numVals qs)
  env : Env W
  low : Below w.heap.size w W
theorem RowI.step {w W W' : World} {g : Nat} {qs : List Rat} (h : RowI w g qs W) (hb : Below W.heap.size W W') : RowI w g qs W' :=
  ⟨h.row.below hb, h.env.below hb, h.low.trans (hb.mono h.low.size)⟩
/-- the cells of item i -/
theorem item_at {W : World} {g : Nat} {qs : List Rat} (h : ValsAt W g 0 (numVals qs)) (i : Nat) (hi : i < qs.length) (q : Rat) (hq : qs[i] = q) :
    W.cell? ⟨g, i * 9, none⟩ = some (.int .i64 1) ∧ W.cell? ⟨g, i * 9 + 1, none⟩ = some (.string (numS q)) ∧ W.cell? ⟨g, i * 9 + 2, none⟩ = some (.string (denS q)) ∧ W.cell? ⟨g, i * 9 + 3, none⟩ = some (.string { data := #[] }) ∧ W.cell? ⟨g, i * 9 + 4, none⟩ = some (.bool false) ∧ W.cell? ⟨g, i * 9 + 5, none⟩ = some (.int .i64 0) ∧ W.cell? ⟨g, i * 9 + 6, none⟩ = some (.int .i64 0) ∧ W.cell? ⟨g, i * 9 + 7, none⟩ = some (.int .i64 0) ∧ W.cell? ⟨g, i * 9 + 8, none⟩ = some (.slice none 0 0) := by
  have hl : i < (numVals qs).length := by rw [numVals_len]; exact hi
  have := h.at i hl
  rw [numVals_at qs i hl, hq, Nat.zero_add] at this
  exact this

set_option maxHeartbeats 4000000 in
set_option maxRecDepth 100000 in
theorem array_ok (qs : List Rat) (r s : Int) (g C : Nat) (w : World) (hr : 1 ≤ r) (hr9 : r ≤ 1000) (hs : 1 ≤ s) (hs9 : s ≤ 1000) (hrs : r * s = (qs.length : Int)) (hq : ∀ q ∈ qs, fits q = true) (h9 : qs.length ≤ 1000) (hv : ValsAt w g 0 (numVals qs)) (hE : Env w) :
    Calls Tryz.prog 63 #[.agg #[.int .i64 5, .string { data := #[] }, .string { data := #[] }, .string { data := #[] }, .bool false, .int .i64 0, .int .i64 r, .int .i64 s, .slice (some ⟨g, 0, none⟩) qs.length C]] w fun e w' => e = .returned (.int .i64 0) ∧ Below w.heap.size w w' := by
  have hb : Below w.heap.size w (w.alloc (.cells #[.int .i64 5, .string { data := #[] }, .string { data := #[] }, .string { data := #[] }, .bool false, .int .i64 0, .int .i64 r, .int .i64 s, .slice (some ⟨g, 0, none⟩) qs.length C] 30)) := (Below.refl _ _).alloc (Nat.le_refl _) _
  have HI0 := Lib.hid (show RowI w g qs (w.alloc (.cells #[.int .i64 5, .string { data := #[] }, .string { data := #[] }, .string { data := #[] }, .bool false, .int .i64 0, .int .i64 r, .int .i64 s, .slice (some ⟨g, 0, none⟩) qs.length C] 30)) from ⟨hv.below hb, hE.below hb, hb⟩)
  have HQ := Lib.hid hq
  have d1 : decide (r < 1) = false := decide_eq_false (by omega)
  have d2 : decide (100000 < r) = false := decide_eq_false (by omega)
  have d3 : decide (s < 1) = false := decide_eq_false (by omega)
  have d4 : decide (100000 < s) = false := decide_eq_false (by omega)
  obtain ⟨L, hL⟩ : ∃ L, qs.length = L := ⟨_, rfl⟩
  have HLL := Lib.hid hL
  rw [hL] at hrs h9 HI0 ⊢
  have d5 : decide (100000 < (L : Int)) = false := decide_eq_false (by omega)
  have hwr : IntKind.i64.wrap (L : Int) = (L : Int) := IntWalk.i64_in _ (by omega)
  clear hb hv hE hq hL
  go_enter Tryz.func63, Tryz.ntmps63
  go_wp2_with fail
  go_loopg [42] L (fun gh v42 wx => ∃ k : Nat, v42 = .int .i64 (k : Int) ∧ k ≤ L ∧ gh = L - k ∧ RowI w g qs wx)
  case atStart => exact ⟨0, rfl, Nat.zero_le _, rfl, HI0.out⟩
  case round =>
    clear HI0
    obtain ⟨k, rfl, hk, rfl, hti⟩ := hrel
    have HTI := Lib.hid hti
    clear hti hrs hwr
    by_cases hlt : k < L
    · have hd : decide ((k : Int) < (L : Int)) = true := decide_eq_true (by omega)
      have hd2 : decide (k < L) = true := decide_eq_true hlt
      have hkq : k < qs.length := by rw [HLL.out]; exact hlt
      obtain ⟨q, hqq⟩ : ∃ q, qs[k] = q := ⟨_, rfl⟩
      have hfq : fits q = true := by rw [← hqq]; exact HQ.out _ (List.getElem_mem hkq)
      obtain ⟨c0, c1, c2, c3, c4, c5, c6, c7, c8⟩ := item_at HTI.out.row k hkq q hqq
      have TC := Lib.hid (fun W gg => check_num q W hfq gg)
      have hi0 : (0 : Int) ≤ (k : Int) := by omega
      have hi1 : (k : Int) < (L : Int) := by omega
      clear hfq hkq hqq
      have HTA := Lib.hid (HTI.out.step ((Below.refl wr.heap.size wr).alloc (Nat.le_refl _) (.cells #[.int .i64 1, .string (numS q), .string (denS q), .string { data := #[] }, .bool false, .int .i64 0, .int .i64 0, .int .i64 0, .slice none 0 0] 30)))
      go_wp2_with fail
      refine (TC.out _ HTA.out.env).mono ?_
      rintro e w2 ⟨rfl, hb⟩
      have HT2 := Lib.hid (HTA.out.step hb)
      clear hb c0 c1 c2 c3 c4 c5 c6 c7 c8
      go_wp2
      go_roundg (L - (k + 1))
      case measure => omega
      case rel => exact ⟨k + 1, by go_num, by omega, by omega, HT2.out⟩
    · have hd : decide ((k : Int) < (L : Int)) = false := decide_eq_false (by omega)
      have hd2 : decide (k < L) = false := decide_eq_false hlt
      clear hlt
      go_wp2
      go_ret
      exact ⟨rfl, HTI.out.low⟩

set_option maxHeartbeats 4000000 in
set_option maxRecDepth 100000 in
theorem check_arr (qs : List Rat) (r s : Int) (g C : Nat) (w : World) (hr : 1 ≤ r) (hr9 : r ≤ 1000) (hs : 1 ≤ s) (hs9 : s ≤ 1000) (hrs : r * s = (qs.length : Int)) (hq : ∀ q ∈ qs, fits q = true) (h9 : qs.length ≤ 1000) (hv : ValsAt w g 0 (numVals qs)) (hE : Env w) :
    Calls Tryz.prog 40 #[.agg #[.int .i64 5, .string { data := #[] }, .string { data := #[] }, .string { data := #[] }, .bool false, .int .i64 0, .int .i64 r, .int .i64 s, .slice (some ⟨g, 0, none⟩) qs.length C]] w fun e w' => e = .returned (.int .i64 0) ∧ Below w.heap.size w w' := by
  have TA := Lib.hid (fun W hvv gg => array_ok qs r s g C W hr hr9 hs hs9 hrs hq h9 hvv gg)
  have HX := Lib.hid (heap_alloc_new w (.cells #[.int .i64 5, .string { data := #[] }, .string { data := #[] }, .string { data := #[] }, .bool false, .int .i64 0, .int .i64 r, .int .i64 s, .slice (some ⟨g, 0, none⟩) qs.length C] 30))
  have HL := Lib.hid (show Below w.heap.size w (w.alloc (.cells #[.int .i64 5, .string { data := #[] }, .string { data := #[] }, .string { data := #[] }, .bool false, .int .i64 0, .int .i64 r, .int .i64 s, .slice (some ⟨g, 0, none⟩) qs.length C] 30)) from (Below.refl _ _).alloc (Nat.le_refl _) _)
  have HE := Lib.hid (hE.below HL.out)
  have HV := Lib.hid (hv.below HL.out)
  have TZ := Lib.hid (fun W => zeros_arr r s (some ⟨g, 0, none⟩) qs.length C W)
  obtain ⟨L, hL⟩ : ∃ L, qs.length = L := ⟨_, rfl⟩
  rw [hL] at TA HX HL HE TZ HV ⊢
  clear hE hv hr hr9 hs hs9 hrs hq h9 hL
  go_enter Tryz.func40, Tryz.ntmps40
  go_wp2_with fail
  refine (TZ.out _).mono ?_
  rintro e W1 ⟨rfl, hb⟩
  replace HX := Lib.hid (keep_block HX.out hb)
  replace HE := Lib.hid (HE.out.below hb)
  replace HV := Lib.hid (HV.out.below hb)
  replace HL := Lib.hid (HL.out.trans (hb.mono HL.out.size))
  clear hb
  obtain ⟨⟨x0, x1, x2, x3, x4, x5, x6, x7, x8⟩, _⟩ := nine_at HX.out
  go_wp2_with fail
  refine (TA.out _ HV.out HE.out).mono ?_
  rintro e W2 ⟨rfl, hb⟩
  replace HL := Lib.hid (HL.out.trans (hb.mono HL.out.size))
  clear hb
  go_wp2
  go_ret
  exact ⟨rfl, HL.out⟩

set_option maxHeartbeats 4000000 in
set_option maxRecDepth 100000 in
theorem list_arr (r s : Int) (g L C : Nat) (w : World) :
    Calls Tryz.prog 283 #[.agg #[.int .i64 5, .string { data := #[] }, .string { data := #[] }, .string { data := #[] }, .bool false, .int .i64 0, .int .i64 r, .int .i64 s, .slice (some ⟨g, 0, none⟩) L C]] w fun e w' => e = .returned (.slice (some ⟨g, 0, none⟩) L C) ∧ Below w.heap.size w w' := by
  have HL := Lib.hid (show Below w.heap.size w (w.alloc (.cells #[.int .i64 5, .string { data := #[] }, .string { data := #[] }, .string { data := #[] }, .bool false, .int .i64 0, .int .i64 r, .int .i64 s, .slice (some ⟨g, 0, none⟩) L C] 30)) from (Below.refl _ _).alloc (Nat.le_refl _) _)
  go_enter Tryz.func283, Tryz.ntmps283
  go_wp2
  go_ret
  exact ⟨rfl, HL.out⟩

end Go.Proofs.YtkbhlkinlcmgoaaGreatDoor.Num

/- package value: Inside at an array of numbers; Numbers where each argument is a number or an array of numbers. Conditions: all numbers fit; the tables lie as they are laid. -/
namespace Go.Proofs.YtkbhlkinlcmgoaaGreatDoor.Num
open Go.RowKit Go.Lib

theorem Env.low {W W' : World} {B : Nat} (h : Env W) (ho : ∀ k, k < B → W'.heap[k]? = W.heap[k]?) (hP : Past B) (hs : W.heap.size ≤ W'.heap.size) : Env W' := by
  refine ⟨?_, ?_, Nat.lt_of_lt_of_le h.room.1 hs, Nat.lt_of_lt_of_le h.room.2 hs⟩
  · have := h.tab
    unfold Tab Lib.TabIs World.var? at this ⊢
    have hgl : Tryz.prog.globalNamed "internal/strconv.uint64pow10" = some 2 := by kernel_rfl
    rw [hgl] at this ⊢
    simp only [Option.bind_some] at this ⊢
    rw [ho _ hP.2]; exact this
  · intro j hj
    have h1 := h.faults j hj
    have hl : j < faultTexts.size := hj
    rw [Array.getElem?_eq_getElem hl] at h1 ⊢
    simp only [World.cell?] at h1 ⊢
    rw [ho _ hP.1]; exact h1
theorem own_ge {B : Nat} {W : World} {v : Value} {qs : List Rat} (h : OwnF B v qs W) : ∀ r, v.ownBlock = some r → B ≤ r := by
  intro r hr
  rcases h.2 with ⟨rfl, _⟩ | ⟨g, cap, cur, rfl, hb, _⟩
  · simp [Value.ownBlock] at hr
  · simp [Value.ownBlock] at hr; omega
theorem OwnF.mono {B B' : Nat} {W : World} {v : Value} {qs : List Rat} (h : OwnF B v qs W) (hB : B' ≤ B) : OwnF B' v qs W := by
  refine ⟨h.1, ?_⟩
  rcases h.2 with h1 | ⟨g, cap, cur, e, hb, r⟩
  · exact .inl h1
  · exact .inr ⟨g, cap, cur, e, Nat.le_trans hB hb, r⟩
/-- the cells of an own row -/
theorem OwnF.cells {B : Nat} {v : Value} {qs : List Rat} {W : World} (h : OwnF B v qs W) (h0 : 0 < qs.length) : ∃ g cap, v = .slice (some ⟨g, 0, none⟩) qs.length cap ∧ B ≤ g ∧ ∀ j u, (fracCells qs)[j]? = some u → W.cell? ((⟨g, 0, none⟩ : Addr).add j) = some u := by
  rcases h.2 with ⟨_, h0'⟩ | ⟨g, cap, cur, rfl, hb, hg, hc1, hc2, hcs, htk⟩
  · exfalso; have := h0'; simp at this; omega
  · refine ⟨g, cap, rfl, hb, fun j u hj => ?_⟩
    rw [← htk] at hj
    have hl : j < qs.length * 2 := by
      have := (List.getElem?_eq_some_iff.1 hj).1
      simp only [List.length_take] at this
      omega
    rw [List.getElem?_take_of_lt hl] at hj
    rw [addr_add, Nat.zero_add, Lib.cell_of_heap hg j]
    simpa using hj
theorem frac_one (qs : List Rat) : ∀ u ∈ fracCells qs, u.oneCell' = true := by
  intro u hu
  unfold fracCells at hu
  obtain ⟨v, _, hv⟩ := List.mem_flatMap.1 hu
  simp only [List.mem_cons, List.not_mem_nil, or_false] at hv
  rcases hv with rfl | rfl <;> rfl
theorem frac_len : ∀ qs : List Rat, (fracCells qs).length = qs.length * 2
  | [] => rfl
  | q :: r => by
    have := frac_len r
    unfold fracCells at this ⊢
    rw [List.flatMap_cons, List.length_append, this, List.length_cons]
    show 2 + r.length * 2 = (r.length + 1) * 2
    omega
theorem fracCells_append (a b : List Rat) : fracCells (a ++ b) = fracCells a ++ fracCells b := by simp [fracCells]

/-- what stays while the items are collected; the row lies ahead of the base -/
structure InI (w : World) (g : Nat) (qs : List Rat) (v : Value) (done : List Rat) (W : World) : Prop where
  row : ValsAt W g 0 (numVals qs)
  env : Env W
  low : Below w.heap.size w W
  own : OwnF w.heap.size v done W
theorem InI.step {w W W' : World} {g : Nat} {qs done : List Rat} {v : Value} (h : InI w g qs v done W) (hb : Below W.heap.size W W') : InI w g qs v done W' :=
  ⟨h.row.below hb, h.env.below hb, h.low.trans (hb.mono h.low.size), h.own.kept (only_of_below hb none) (by cases v.ownBlock <;> simp)⟩
theorem vals_other {W W' : World} {g : Nat} {vs : List Val} (h : ValsAt W g 0 vs) (ho : W'.heap[g]? = W.heap[g]?) : ValsAt W' g 0 vs := by
  intro j u hj
  have := h j u hj
  rw [addr_add] at this ⊢
  simp only [World.cell?] at this ⊢
  rw [ho]; exact this
theorem InI.push {w W W' : World} {g : Nat} {qs done : List Rat} {v v' : Value} {q : Rat} (h : InI w g qs v done W) (ho : W'.ownsRow w.heap.size 24 2 v' (done.length + 1) (fracCells done ++ [.string (numS q), .string (denS q)])) (hg : W.grownBy W' v.ownBlock) (hg0 : g < w.heap.size) (hE0 : Past w.heap.size) : InI w g qs v' (done ++ [q]) W' := by
  have hother : ∀ k, k < w.heap.size → W'.heap[k]? = W.heap[k]? := fun k hk => hg.block k (Nat.lt_of_lt_of_le hk h.low.size) (fun e => by have := own_ge h.own k e.symm; omega)
  exact ⟨vals_other h.row (hother g hg0), h.env.low hother hE0 hg.size, h.low.grown hg h.low.size (fun r hr => own_ge h.own r hr), by unfold OwnF; rw [fracCells_snoc, List.length_append]; exact ho⟩

set_option maxHeartbeats 4000000 in
set_option maxRecDepth 100000 in
theorem inside_arr (qs : List Rat) (r s : Int) (g C : Nat) (w : World) (h9 : qs.length ≤ 1000) (h0 : 0 < qs.length) (hv : ValsAt w g 0 (numVals qs)) (hE : Env w) :
    Calls Tryz.prog 206 #[.agg #[.int .i64 5, .string { data := #[] }, .string { data := #[] }, .string { data := #[] }, .bool false, .int .i64 0, .int .i64 r, .int .i64 s, .slice (some ⟨g, 0, none⟩) qs.length C]] w fun e w' => ∃ v, e = .returned v ∧ OwnF w.heap.size v qs w' ∧ Env w' ∧ Below w.heap.size w w' := by
  have hb : Below w.heap.size w (w.alloc (.cells #[.int .i64 5, .string { data := #[] }, .string { data := #[] }, .string { data := #[] }, .bool false, .int .i64 0, .int .i64 r, .int .i64 s, .slice (some ⟨g, 0, none⟩) qs.length C] 30)) := (Below.refl _ _).alloc (Nat.le_refl _) _
  have HX := Lib.hid (heap_alloc_new w (.cells #[.int .i64 5, .string { data := #[] }, .string { data := #[] }, .string { data := #[] }, .bool false, .int .i64 0, .int .i64 r, .int .i64 s, .slice (some ⟨g, 0, none⟩) qs.length C] 30))
  have HE := Lib.hid (hE.below hb)
  have HL := Lib.hid hb
  have HV := Lib.hid (hv.below hb)
  obtain ⟨L, hL⟩ : ∃ L, qs.length = L := ⟨_, rfl⟩
  have HLL := Lib.hid hL
  rw [hL] at h0 h9 HX HE HL HV ⊢
  clear hv hL
  obtain ⟨i0, hi0', hz0, hz1, hz2⟩ := info_frac
  clear hb hE
  go_enter Tryz.func206, Tryz.ntmps206
  go_wp2_with fail
  refine (list_arr r s g L C _).mono ?_
  rintro e w1 ⟨rfl, hb⟩
  replace HX := Lib.hid (keep_block HX.out hb)
  replace HE := Lib.hid (HE.out.below hb)
  replace HV := Lib.hid (HV.out.below hb)
  replace HL := Lib.hid (HL.out.trans (hb.mono HL.out.size))
  clear hb
  have HGL := Lib.hid (show g < w1.heap.size from cell_lt (HV.out.at 0 (by rw [numVals_len, HLL.out]; exact h0)).1)
  have HPS := Lib.hid HE.out.room
  have HI0 := Lib.hid (show InI w1 g qs (.slice none 0 0) [] w1 from ⟨HV.out, HE.out, Below.refl _ _, World.ownsRow_nil _ _ _ _⟩)
  clear HV HE
  go_wp2_with fail
  go_loopg [3, 9] L (fun gh v3 v9 wx => ∃ k : Nat, v9 = .int .i64 (k : Int) ∧ k ≤ L ∧ gh = L - k ∧ InI w1 g qs v3 (qs.take k) wx)
  case atStart => exact ⟨0, rfl, Nat.zero_le _, rfl, HI0.out⟩
  case round =>
    clear HI0
    obtain ⟨k, rfl, hk, rfl, hti⟩ := hrel
    have HTI := Lib.hid hti
    clear hti
    by_cases hlt : k < L
    · have hd : decide ((k : Int) < (L : Int)) = true := decide_eq_true (by omega)
      have hd2 : decide (k < L) = true := decide_eq_true hlt
      have hkq : k < qs.length := by rw [HLL.out]; exact hlt
      obtain ⟨q, hqq⟩ : ∃ q, qs[k] = q := ⟨_, rfl⟩
      have HTK := Lib.hid (show qs.take (k + 1) = qs.take k ++ [q] by rw [List.take_succ_eq_append_getElem hkq, hqq])
      have HDL := Lib.hid (show (qs.take k).length = k by simp; omega)
      obtain ⟨c0, c1, c2, c3, c4, c5, c6, c7, c8⟩ := item_at HTI.out.row k hkq q hqq
      have hi0 : (0 : Int) ≤ (k : Int) := by omega
      have hi1 : (k : Int) < (L : Int) := by omega
      clear hkq hqq
      obtain ⟨W2, hW2⟩ : ∃ W2, wr.alloc (.cells #[.int .i64 1, .string (numS q), .string (denS q), .string { data := #[] }, .bool false, .int .i64 0, .int .i64 0, .int .i64 0, .slice none 0 0] 30) = W2 := ⟨_, rfl⟩
      have HT2 := Lib.hid (HTI.out.step ((Below.refl wr.heap.size wr).alloc (Nat.le_refl _) (.cells #[.int .i64 1, .string (numS q), .string (denS q), .string { data := #[] }, .bool false, .int .i64 0, .int .i64 0, .int .i64 0, .slice none 0 0] 30)))
      rw [hW2] at HT2
      have HT3 := Lib.hid (HT2.out.step ((Below.refl W2.heap.size W2).alloc (Nat.le_refl _) (.cells #[.string (numS q), .string (denS q)] 24)))
      have hown := HT3.out.own
      unfold OwnF at hown
      rw [HDL.out] at hown
      obtain ⟨av, cv, hu⟩ := owns_form hown
      subst hu
      have HOW := Lib.hid hown
      clear hown
      have hml : k + 1 ≤ maxLen := by unfold maxLen; omega
      have hpos : W2.heap.size = wr.heap.size + 1 := by rw [← hW2]; simp
      have hnews := World.news_of_block (cs := #[.string (numS q), .string (denS q)]) (t := 24) (fr := (0, 0)) (heap_alloc_new W2 (.cells #[.string (numS q), .string (denS q)] 24))
      rw [hpos] at hnews
      have HNW := Lib.hid hnews
      have HBS := Lib.hid (show w1.heap.size ≤ (W2.alloc (.cells #[.string (numS q), .string (denS q)] 24)).heap.size from HT3.out.low.size)
      rw [← hW2] at HOW HNW HBS
      have HW2 := Lib.hid hW2
      clear hnews hpos hW2
      go_wp2_with (at_builtin; refine wpList_append_own _ rfl _ _ 159 rfl w1.heap.size 24 i0 _ 2 32 Tryz.underlying159 hi0' hz0 hz1 hz2 rfl (by decide) (.slice av k cv) k (fracCells (qs.take k)) rfl HOW.out ⟨wr.heap.size + 1, 0, none⟩ 1 1 [.string (numS q), .string (denS q)] rfl rfl HNW.out (by simp [Value.oneCell']) hml (by omega) HBS.out ?_)
      intro v5 w5 hown5 hgrow5 _
      rw [HW2.out] at hgrow5
      have HT5 := Lib.hid (HT3.out.push (by rw [HDL.out]; exact hown5) hgrow5 HGL.out HPS.out)
      rw [← HTK.out] at HT5
      clear hown5 hgrow5 c0 c1 c2 c3 c4 c5 c6 c7 c8
      go_wp2
      go_roundg (L - (k + 1))
      case measure => omega
      case rel => exact ⟨k + 1, by go_num, by omega, by omega, HT5.out⟩
    · have hd : decide ((k : Int) < (L : Int)) = false := decide_eq_false (by omega)
      have hd2 : decide (k < L) = false := decide_eq_false hlt
      have hkL : k = L := by omega
      have HTK := Lib.hid (show qs.take k = qs by rw [hkL, ← HLL.out, List.take_length])
      rw [HTK.out] at HTI
      clear hkL hlt
      go_wp2
      go_ret
      exact ⟨_, rfl, HTI.out.own.mono HL.out.size, HTI.out.env, HL.out.trans (HTI.out.low.mono HL.out.size)⟩

end Go.Proofs.YtkbhlkinlcmgoaaGreatDoor.Num

/- package value: Numbers, where each argument is a number or an array of numbers. Conditions: all numbers fit; the tables lie as they are laid. -/
namespace Go.Proofs.YtkbhlkinlcmgoaaGreatDoor.Num
open Go.RowKit Go.Lib

/-- an argument that is a number or an array of numbers -/
def NArg (W : World) (b B : Nat) (v : Val) (qs : List Rat) : Prop :=
  (∃ q, v = numVal' q ∧ qs = [q]) ∨ ∃ r s g C, v = arrVal' r s g qs.length C ∧ 0 < qs.length ∧ qs.length ≤ 1000 ∧ g < B ∧ g ≠ b ∧ ValsAt W g 0 (numVals qs)
theorem NArg.other {W W' : World} {b B : Nat} {v : Val} {qs : List Rat} (h : NArg W b B v qs) (ho : ∀ k, k < B → k ≠ b → W'.heap[k]? = W.heap[k]?) : NArg W' b B v qs := by
  rcases h with h | ⟨r, s, g, C, h1, h2, h3, h4, h5, h6⟩
  · exact .inl h
  · exact .inr ⟨r, s, g, C, h1, h2, h3, h4, h5, vals_other h6 (ho g h4 h5)⟩
theorem NArg.below {W W' : World} {b B : Nat} {v : Val} {qs : List Rat} (h : NArg W b B v qs) (hb : Below W.heap.size W W') (hB : B ≤ W.heap.size) : NArg W' b B v qs :=
  h.other (fun k hk _ => hb.block k (Nat.lt_of_lt_of_le hk hB))
theorem NArg.kept {W W' : World} {b B : Nat} {v : Val} {qs : List Rat} (h : NArg W b B v qs) (hg : W.grownBy W' (some b)) (hB : B ≤ W.heap.size) : NArg W' b B v qs :=
  h.other (fun k hk hne => hg.block k (Nat.lt_of_lt_of_le hk hB) (fun e => hne (Option.some.inj e)))

structure MixI (W0 : World) (b g L C : Nat) (vs : List Val) (qss : List (List Rat)) (i : Nat) (v : Value) (done : List Rat) (W : World) : Prop where
  args : ArgsAt W b (some ⟨g, 0, none⟩) L C i
  vals : ValsAt W g 0 vs
  parts : ∀ j (h : j < vs.length) (h' : j < qss.length), NArg W b W0.heap.size vs[j] qss[j]
  env : Env W
  grown : W0.grownBy W (some b)
  own : OwnF W0.heap.size v done W
theorem vals_kept {W W' : World} {g b : Nat} {vs : List Val} (h : ValsAt W g 0 vs) (hg : W.grownBy W' (some b)) (hne : g ≠ b) (hlt : g < W.heap.size) : ValsAt W' g 0 vs :=
  vals_other h (hg.block g hlt (fun e => hne (Option.some.inj e)))
theorem MixI.below {W0 W W' : World} {b g L C i : Nat} {vs : List Val} {qss : List (List Rat)} {done : List Rat} {v : Value} (h : MixI W0 b g L C vs qss i v done W) (hb : Below W.heap.size W W') : MixI W0 b g L C vs qss i v done W' :=
  ⟨keep_block h.args hb, h.vals.below hb, fun j hj hj' => (h.parts j hj hj').below hb h.grown.size, h.env.below hb, kept_trans h.grown (kept_below hb), h.own.kept (only_of_below hb none) (by cases v.ownBlock <;> simp)⟩
theorem MixI.next {W0 W W' : World} {b g L C i n : Nat} {vs : List Val} {qss : List (List Rat)} {done : List Rat} {v : Value} (h : MixI W0 b g L C vs qss i v done W) (ha : ArgsAt W' b (some ⟨g, 0, none⟩) L C n) (hg : W.grownBy W' (some b)) (hP : Past b) (hgb : g ≠ b) (hb0 : b < W0.heap.size) (hg0 : g < W0.heap.size) : MixI W0 b g L C vs qss n v done W' :=
  ⟨ha, vals_kept h.vals hg hgb (Nat.lt_of_lt_of_le hg0 h.grown.size), fun j hj hj' => (h.parts j hj hj').kept hg h.grown.size, h.env.kept hg hP, kept_trans h.grown hg, h.own.kept hg (by
    cases hv : v.ownBlock with
    | none => exact .inl rfl
    | some r => right; intro e; have := own_ge h.own r hv; injection e; omega)⟩
theorem MixI.push {W0 W W' : World} {b g L C i : Nat} {vs : List Val} {qss : List (List Rat)} {done qs : List Rat} {v v' : Value} (h : MixI W0 b g L C vs qss i v done W) (ho : W'.ownsRow W0.heap.size 24 2 v' (done.length + qs.length) (fracCells done ++ fracCells qs)) (hg : W.grownBy W' v.ownBlock) (hb0 : b < W0.heap.size) (hg0 : g < W0.heap.size) (hE0 : Past W0.heap.size) : MixI W0 b g L C vs qss i v' (done ++ qs) W' := by
  have hother : ∀ k, k < W0.heap.size → W'.heap[k]? = W.heap[k]? := fun k hk => hg.block k (Nat.lt_of_lt_of_le hk h.grown.size) (fun e => by have := own_ge h.own k e.symm; omega)
  exact ⟨(hother b hb0).trans h.args, vals_other h.vals (hother g hg0), fun j hj hj' => (h.parts j hj hj').other (fun k hk _ => hother k hk), h.env.low hother hE0 hg.size, only_then h.grown hg (fun r hr => .inr (own_ge h.own r hr)), by unfold OwnF; rw [fracCells_append, List.length_append]; exact ho⟩
theorem flat_take (qss : List (List Rat)) (i : Nat) (h : i < qss.length) : (qss.take (i + 1)).flatten = (qss.take i).flatten ++ qss[i] := by
  rw [List.take_succ_eq_append_getElem h, List.flatten_append]; simp
theorem flat_le : ∀ (qss : List (List Rat)), (∀ qs ∈ qss, qs.length ≤ 1000) → qss.flatten.length ≤ qss.length * 1000
  | [], _ => by simp
  | q :: r, h => by
    have h1 := flat_le r (fun x hx => h x (by simp [hx]))
    have h2 := h q (by simp)
    rw [List.flatten_cons, List.length_append, List.length_cons]; omega

set_option maxHeartbeats 8000000 in
set_option maxRecDepth 100000 in
theorem numbers_mix (vs : List Val) (qss : List (List Rat)) (b g C : Nat) (w : World) (h9 : vs.length ≤ 300) (hl : qss.length = vs.length) (hq9 : ∀ qs ∈ qss, qs.length ≤ 1000) (hq : ∀ qs ∈ qss, ∀ q ∈ qs, fits q = true) (ha : ArgsAt w b (some ⟨g, 0, none⟩) vs.length C 0) (hv : ValsAt w g 0 vs) (hp : ∀ j (h : j < vs.length) (h' : j < qss.length), NArg w b w.heap.size vs[j] qss[j]) (hgb : g ≠ b) (hg0 : g < w.heap.size) (hE : Env w) (hP : Past b) :
    Calls Tryz.prog 204 #[.pointer (some ⟨b, 0, none⟩)] w fun e w' => ∃ v, e = .returned v ∧ OwnF w.heap.size v qss.flatten w' ∧ Env w' ∧ w.grownBy w' (some b) := by
  have hb0 : b < w.heap.size := heap_lt ha
  have HI0 := Lib.hid (show MixI w b g vs.length C vs qss 0 (.slice none 0 0) [] w from ⟨ha, hv, hp, hE, only_refl _ _, World.ownsRow_nil _ _ _ _⟩)
  have HE0 := Lib.hid (show Past w.heap.size from hE.room)
  have HP := Lib.hid hP
  have HGB := Lib.hid hgb
  have HQ := Lib.hid hq
  have HQ9 := Lib.hid hq9
  have HQL := Lib.hid hl
  obtain ⟨L, hL⟩ : ∃ L, vs.length = L := ⟨_, rfl⟩
  have HLL := Lib.hid hL
  rw [hL] at HI0 h9
  obtain ⟨i0, hi0', hz0, hz1, hz2⟩ := info_frac
  have TM := Lib.hid (fun W i ga => more_any b (some ⟨g, 0, none⟩) L C i W ga (by omega))
  clear ha hv hp hgb hE hP hq hq9 hl hL
  go_enter Tryz.func204, Tryz.ntmps204
  go_wp2_with fail
  go_loopg [3] L (fun gh v3 wx => ∃ i : Nat, i ≤ L ∧ gh = L - i ∧ MixI w b g L C vs qss i v3 (qss.take i).flatten wx)
  case atStart => exact ⟨0, Nat.zero_le _, rfl, HI0.out⟩
  case round =>
    clear HI0
    obtain ⟨i, hi, rfl, hni⟩ := hrel
    have HNI := Lib.hid hni
    clear hni
    go_wp2_with fail
    refine (TM.out _ i HNI.out.args).mono ?_
    rintro e w1 ⟨rfl, hb⟩
    replace HNI := Lib.hid (HNI.out.below hb)
    clear hb
    by_cases hlt : i < L
    · have hd : decide (i < L) = true := decide_eq_true hlt
      rw [hd]
      have hiq : i < vs.length := by rw [HLL.out]; exact hlt
      have hiq' : i < qss.length := by rw [HQL.out]; exact hiq
      have hpart := HNI.out.parts i hiq hiq'
      have hcell := HNI.out.vals.at i hiq
      have hdl : (qss.take i).flatten.length ≤ 300000 := by
        refine Nat.le_trans (flat_le _ (fun x hx => HQ9.out x (List.mem_of_mem_take hx))) ?_
        rw [List.length_take]; omega
      have htk := flat_take qss i hiq'
      have hfit := HQ.out qss[i] (List.getElem_mem hiq')
      obtain ⟨vi, hvi⟩ : ∃ v, vs[i] = v := ⟨_, rfl⟩
      obtain ⟨qi, hqi⟩ : ∃ q, qss[i] = q := ⟨_, rfl⟩
      rw [hvi, hqi] at hpart
      rw [hvi] at hcell
      rw [hqi] at htk hfit
      have HTK := Lib.hid htk
      have HFIT := Lib.hid hfit
      obtain ⟨D, hD⟩ : ∃ D, (qss.take i).flatten = D := ⟨_, rfl⟩
      rw [hD] at HTK HNI hdl
      obtain ⟨DL, hDL⟩ : ∃ n, D.length = n := ⟨_, rfl⟩
      rw [hDL] at hdl
      have HDL := Lib.hid hDL
      clear hvi hqi htk hiq hiq' hd hfit hD hDL
      rcases hpart with ⟨q, rfl, rfl⟩ | ⟨r, s, gi, Ci, rfl, hp1, hp2, hp3, hp4, hp5⟩
      · have HNC := Lib.hid (show NumCells w1 g (0 + i * 9) q from hcell)
        have TV := Lib.hid (fun W ga gc => value_any b g 0 L C i 1 (numS q) (denS q) { data := #[] } false 0 0 0 none 0 0 W ga hlt (by omega) HGB.out gc)
        have TN := Lib.hid (fun W ge => toNumber_num q W (HFIT.out q (by simp)) ge)
        rw [fracV_is q] at TN
        clear hcell
        go_wp2_with fail
        refine (TV.out _ HNI.out.args HNC.out).mono ?_
        rintro e w2 ⟨rfl, ha, hg⟩
        replace HNI := Lib.hid (HNI.out.next ha hg HP.out HGB.out hb0 hg0)
        clear ha hg
        replace HNI := Lib.hid (HNI.out.below ((Below.refl w2.heap.size w2).alloc (Nat.le_refl _) (.cells #[.int .i64 1, .string (numS q), .string (denS q), .string { data := #[] }, .bool false, .int .i64 0, .int .i64 0, .int .i64 0, .slice none 0 0] 30)))
        go_wp2_with fail
        refine (TN.out _ HNI.out.env).mono ?_
        rintro e w3 ⟨rfl, hb⟩
        replace HNI := Lib.hid (HNI.out.below hb)
        clear hb
        replace HNI := Lib.hid (HNI.out.below ((Below.refl w3.heap.size w3).alloc (Nat.le_refl _) (.cells #[.string (numS q), .string (denS q)] 24)))
        go_wp2_with fail
        refine (stop_zero _).mono ?_
        rintro e w4 ⟨rfl, rfl⟩
        replace HNI := Lib.hid (HNI.out.below ((Below.refl (w3.alloc (.cells #[.string (numS q), .string (denS q)] 24)).heap.size (w3.alloc (.cells #[.string (numS q), .string (denS q)] 24))).alloc (Nat.le_refl _) (.cells #[.string (numS q), .string (denS q)] 24)))
        have hown := HNI.out.own
        unfold OwnF at hown
        rw [HDL.out] at hown
        obtain ⟨av, cv, hu⟩ := owns_form hown
        subst hu
        have HOW := Lib.hid hown
        clear hown
        have hml : DL + 1 ≤ maxLen := by unfold maxLen; omega
        have hpos : (w3.alloc (.cells #[.string (numS q), .string (denS q)] 24)).heap.size = w3.heap.size + 1 := by simp
        have hnews := World.news_of_block (cs := #[.string (numS q), .string (denS q)]) (t := 24) (fr := (0, 0)) (heap_alloc_new (w3.alloc (.cells #[.string (numS q), .string (denS q)] 24)) (.cells #[.string (numS q), .string (denS q)] 24))
        rw [hpos] at hnews
        have HNW := Lib.hid hnews
        have HBS := Lib.hid (show w.heap.size ≤ ((w3.alloc (.cells #[.string (numS q), .string (denS q)] 24)).alloc (.cells #[.string (numS q), .string (denS q)] 24)).heap.size from HNI.out.grown.size)
        clear hnews hpos
        go_wp2_with (at_builtin; refine wpList_append_own _ rfl _ _ 159 rfl w.heap.size 24 i0 _ 2 32 Tryz.underlying159 hi0' hz0 hz1 hz2 rfl (by decide) (.slice av DL cv) DL (fracCells D) rfl HOW.out ⟨w3.heap.size + 1, 0, none⟩ 1 1 [.string (numS q), .string (denS q)] rfl rfl HNW.out (by simp [Value.oneCell']) hml (by omega) HBS.out ?_)
        intro v5 w5 hown5 hgrow5 _
        have HNI5 := Lib.hid (HNI.out.push (qs := [q]) (by rw [HDL.out]; exact hown5) hgrow5 hb0 hg0 HE0.out)
        rw [← HTK.out] at HNI5
        clear hown5 hgrow5
        go_wp2
        go_roundg (L - (i + 1))
        case measure => omega
        case rel => exact ⟨i + 1, by omega, rfl, HNI5.out⟩
      · have HNC := Lib.hid hcell
        have TV := Lib.hid (fun W ga gc => value_any b g 0 L C i 5 { data := #[] } { data := #[] } { data := #[] } false 0 r s (some ⟨gi, 0, none⟩) qi.length Ci W ga hlt (by omega) HGB.out gc)
        have TI := Lib.hid (fun W gv ge => inside_arr qi r s gi Ci W hp2 hp1 gv ge)
        have HPV := Lib.hid hp5
        have HQI := Lib.hid hp1
        obtain ⟨M, hM⟩ : ∃ M, qi.length = M := ⟨_, rfl⟩
        have HM := Lib.hid hM
        have hM9 : M ≤ 1000 := by omega
        unfold arrVal' at HNC
        simp only [] at HNC
        rw [hM] at TV TI HNC
        have hpi := HP.out
        clear hcell hp1 hp2 hp5 hpi hM
        go_wp2_with fail
        refine (TV.out _ HNI.out.args HNC.out).mono ?_
        rintro e w2 ⟨rfl, ha, hg⟩
        replace HPV := Lib.hid (vals_kept HPV.out hg hp4 (Nat.lt_of_lt_of_le hp3 HNI.out.grown.size))
        replace HNI := Lib.hid (HNI.out.next ha hg HP.out HGB.out hb0 hg0)
        clear ha hg
        have hq := (Below.refl w2.heap.size w2).alloc (Nat.le_refl _) (.cells #[.int .i64 5, .string { data := #[] }, .string { data := #[] }, .string { data := #[] }, .bool false, .int .i64 0, .int .i64 r, .int .i64 s, .slice (some ⟨gi, 0, none⟩) M Ci] 30)
        replace HPV := Lib.hid (HPV.out.below hq)
        replace HNI := Lib.hid (HNI.out.below hq)
        clear hq
        go_wp2_with fail
        refine (TI.out _ HPV.out HNI.out.env).mono ?_
        rintro e w3 ⟨vI, rfl, hownI, henvI, hb⟩
        have hsz := HNI.out.grown.size
        replace HNI := Lib.hid (HNI.out.below hb)
        clear hb
        obtain ⟨gI, cI, rfl, hgI, hcI⟩ := hownI.cells HQI.out
        rw [HM.out]
        have hown := HNI.out.own
        unfold OwnF at hown
        rw [HDL.out] at hown
        obtain ⟨av, cv, hu⟩ := owns_form hown
        subst hu
        have HOW := Lib.hid hown
        clear hown
        have hml : DL + M ≤ maxLen := by unfold maxLen; omega
        have hnl : (fracCells qi).length = M * 2 := by rw [frac_len, HM.out]
        have HNW := Lib.hid hcI
        have HBS := Lib.hid (show w.heap.size ≤ w3.heap.size from HNI.out.grown.size)
        clear hownI henvI hgI hsz hcI
        go_wp2_with (at_builtin; refine wpList_append_own _ rfl _ _ 159 rfl w.heap.size 24 i0 _ 2 32 Tryz.underlying159 hi0' hz0 hz1 hz2 rfl (by decide) (.slice av DL cv) DL (fracCells D) rfl HOW.out ⟨gI, 0, none⟩ M cI (fracCells qi) rfl hnl HNW.out (frac_one qi) hml (by omega) HBS.out ?_)
        intro v5 w5 hown5 hgrow5 _
        have HNI5 := Lib.hid (HNI.out.push (qs := qi) (by rw [HDL.out, HM.out]; exact hown5) hgrow5 hb0 hg0 HE0.out)
        rw [← HTK.out] at HNI5
        clear hown5 hgrow5 hnl
        go_wp2
        go_roundg (L - (i + 1))
        case measure => omega
        case rel => exact ⟨i + 1, by omega, rfl, HNI5.out⟩
    · have hd : decide (i < L) = false := decide_eq_false hlt
      rw [hd]
      have hiL : i = L := by omega
      have HTK := Lib.hid (show qss.take i = qss by rw [hiL, ← HLL.out, ← HQL.out, List.take_length])
      rw [HTK.out] at HNI
      clear hiL hlt
      go_wp2
      go_ret
      exact ⟨_, rfl, HNI.out.own, HNI.out.env, HNI.out.grown⟩
end Go.Proofs.YtkbhlkinlcmgoaaGreatDoor.Num

/- the law's math at arguments that are numbers or arrays of numbers: SUM, SUMSQ. Conditions: all numbers fit; the tables lie as they are laid. -/
namespace Go.Proofs.YtkbhlkinlcmgoaaGreatDoor.Num
open Go.RowKit Go.Lib

/-- an argument that is a number or an array of numbers -/
def AArg (W : World) (v : Val) (qs : List Rat) : Prop :=
  (∃ q, v = numVal' q ∧ qs = [q]) ∨ ∃ r s g C, v = arrVal' r s g qs.length C ∧ 1 ≤ r ∧ r ≤ 1000 ∧ 1 ≤ s ∧ s ≤ 1000 ∧ r * s = (qs.length : Int) ∧ 0 < qs.length ∧ qs.length ≤ 1000 ∧ ValsAt W g 0 (numVals qs)
theorem AArg.below {W W' : World} {v : Val} {qs : List Rat} (h : AArg W v qs) (hb : Below W.heap.size W W') : AArg W' v qs := by
  rcases h with h | ⟨r, s, g, C, h1, h2, h3, h4, h5, h6, h7, h8, h9⟩
  · exact .inl h
  · exact .inr ⟨r, s, g, C, h1, h2, h3, h4, h5, h6, h7, h8, h9.below hb⟩
theorem items_lt {W : World} {g : Nat} {qs : List Rat} (h : ValsAt W g 0 (numVals qs)) (h0 : 0 < qs.length) : g < W.heap.size :=
  cell_lt (h.at 0 (by rw [numVals_len]; exact h0)).1
theorem items_ne {W : World} {g b L C n : Nat} {A : Option Addr} {qs : List Rat} (h : ValsAt W g 0 (numVals qs)) (h0 : 0 < qs.length) (ha : ArgsAt W b A L C n) : g ≠ b := by
  rintro rfl
  have h1 := (item_at h 0 h0 _ rfl).1
  rw [Nat.zero_mul] at h1
  have h2 := Lib.cell_of_heap ha 0
  rw [h1] at h2
  simp at h2
theorem AArg.narg {W : World} {v : Val} {qs : List Rat} {b L C n : Nat} {A : Option Addr} (h : AArg W v qs) (ha : ArgsAt W b A L C n) : NArg W b W.heap.size v qs := by
  rcases h with h | ⟨r, s, g, C, h1, h2, h3, h4, h5, h6, h7, h8, h9⟩
  · exact .inl h
  · exact .inr ⟨r, s, g, C, h1, h7, h8, items_lt h9 h7, items_ne h9 h7 ha, h9⟩
theorem AArg.check {W : World} {v : Val} {qs : List Rat} (h : AArg W v qs) (hq : ∀ q ∈ qs, fits q = true) (hE : Env W) : Calls Tryz.prog 40 #[v.agg] W fun e w' => e = .returned (.int .i64 0) ∧ Below W.heap.size W w' := by
  rcases h with ⟨q, rfl, rfl⟩ | ⟨r, s, g, C, rfl, h2, h3, h4, h5, h6, h7, h8, h9⟩
  · exact check_num q W (hq q (by simp)) hE
  · exact check_arr qs r s g C W h2 h3 h4 h5 h6 hq h8 h9 hE

/-- arguments in a row, each a number or an array -/
def Args2 (W : World) (vs : List Val) (qss : List (List Rat)) : Prop := qss.length = vs.length ∧ ∀ j (h : j < vs.length) (h' : j < qss.length), AArg W vs[j] qss[j]
theorem Args2.below {W W' : World} {vs : List Val} {qss : List (List Rat)} (h : Args2 W vs qss) (hb : Below W.heap.size W W') : Args2 W' vs qss := ⟨h.1, fun j hj hj' => (h.2 j hj hj').below hb⟩
theorem Args2.short {W : World} {vs : List Val} {qss : List (List Rat)} (h : Args2 W vs qss) : ∀ qs ∈ qss, qs.length ≤ 1000 := by
  intro qs hq
  obtain ⟨j, hj, rfl⟩ := List.mem_iff_getElem.1 hq
  rcases h.2 j (by rw [← h.1]; exact hj) hj with ⟨q, _, e⟩ | ⟨r, s, g, C, h1, h2, h3, h4, h5, h6, h7, h8, h9⟩
  · rw [e]; simp
  · exact h8

set_option maxHeartbeats 4000000 in
set_option maxRecDepth 100000 in
theorem fn_sum_mix (vs : List Val) (qss : List (List Rat)) (b g C : Nat) (w : World) (h9 : vs.length ≤ 300) (hA : Args2 w vs qss) (hq : ∀ qs ∈ qss, ∀ q ∈ qs, fits q = true) (h0 : 0 < qss.flatten.length) (h99 : qss.flatten.length ≤ 300000) (hf : ∀ k, k ≤ qss.flatten.length → fits (sumL (qss.flatten.take k)) = true) (ha : ArgsAt w b (some ⟨g, 0, none⟩) vs.length C 0) (hv : ValsAt w g 0 vs) (hgb : g ≠ b) (hg0 : g < w.heap.size) (hE : Env w) (hP : Past b) :
    Calls Tryz.prog 224 #[.pointer (some ⟨b, 0, none⟩)] w fun e w' => e = .returned (fracV (sumL qss.flatten)) ∧ w.grownBy w' (some b) := by
  have hb : Below w.heap.size w (w.alloc (.cells #[.string { data := #[] }, .string { data := #[] }] 24)) := (Below.refl _ _).alloc (Nat.le_refl _) _
  have HR := Lib.hid (heap_alloc_new w (.cells #[.string { data := #[] }, .string { data := #[] }] 24))
  have HL := Lib.hid hb
  have TN := Lib.hid (numbers_mix vs qss b g C (w.alloc (.cells #[.string { data := #[] }, .string { data := #[] }] 24)) h9 hA.1 hA.short hq (keep_block ha hb) (hv.below hb) (fun j hj hj' => ((hA.below hb).2 j hj hj').narg (show ArgsAt (w.alloc (.cells #[.string { data := #[] }, .string { data := #[] }] 24)) b (some ⟨g, 0, none⟩) vs.length C 0 from keep_block ha hb)) hgb (by simp; omega) (hE.below hb) hP)
  have NRB := Lib.hid (show w.heap.size ≠ b from Nat.ne_of_gt (heap_lt ha))
  have HQ := Lib.hid (show ∀ q ∈ qss.flatten, fits q = true from fun q hqm => by obtain ⟨qs, h1, h2⟩ := List.mem_flatten.1 hqm; exact hq qs h1 q h2)
  have HF := Lib.hid hf
  obtain ⟨qs, hqs⟩ : ∃ qs, qss.flatten = qs := ⟨_, rfl⟩
  rw [hqs] at TN HQ HF h0 h99 ⊢
  obtain ⟨L, hL⟩ : ∃ L, qs.length = L := ⟨_, rfl⟩
  have HLL := Lib.hid hL
  rw [hL] at h0 h99
  clear hb ha hv hgb hg0 hE hq hf hP hL hA hqs
  rw [fracV_is (sumL qs)]
  go_enter Tryz.func224, Tryz.ntmps224
  go_wp2_with fail
  refine TN.out.mono ?_
  rintro e w1 ⟨v, rfl, hown, henv, hg⟩
  obtain ⟨gg, cap, rfl, _, _, hfr⟩ := hown.at (by rw [HLL.out]; exact h0)
  have TT := Lib.hid (total_any qs gg cap w1 (by rw [HLL.out]; exact h0) (by rw [HLL.out]; omega) hfr HQ.out HF.out henv)
  rw [fracV_is (sumL qs)] at TT
  replace HR := Lib.hid (kept_block HR.out hg NRB.out)
  have HG := Lib.hid (kept_trans (kept_below (b := b) HL.out) hg)
  clear hown henv hg hfr
  go_wp2_with fail
  refine TT.out.mono ?_
  rintro e w2 ⟨rfl, hb⟩
  replace HR := Lib.hid (keep_block HR.out hb)
  replace HG := Lib.hid (kept_trans HG.out (kept_below hb))
  clear hb
  obtain ⟨⟨r0, r1⟩, rf0, rf1⟩ := two_at HR.out
  have hF := set2_at HR.out (.string (numS (sumL qs))) (.string (denS (sumL qs)))
  obtain ⟨⟨e0, e1⟩, _⟩ := two_at hF
  have HG2 := Lib.hid (kept2 HG.out (Nat.le_refl _) (.string (numS (sumL qs))) (.string (denS (sumL qs))))
  clear hF
  go_wp2
  refine bodyPost_ret (v := .agg #[.string (numS (sumL qs)), .string (denS (sumL qs))]) (by simp [results, Tryz.results224, go_sem, e0, e1]) rfl ⟨rfl, HG2.out⟩
end Go.Proofs.YtkbhlkinlcmgoaaGreatDoor.Num

/- package fmath: SUMSQ at numbers and arrays of numbers. Conditions: all numbers fit; the tables lie as they are laid. -/
namespace Go.Proofs.YtkbhlkinlcmgoaaGreatDoor.Num
open Go.RowKit Go.Lib

/-- a row of fractions in a block that may be written -/
def RowB (W : World) (g : Nat) (xs : List Rat) : Prop := ∃ cur, W.heap[g]? = some (.cells cur 24 (0, 0)) ∧ ∀ i (h : i < xs.length), cur[i * 2]? = some (.string (numS xs[i])) ∧ cur[i * 2 + 1]? = some (.string (denS xs[i]))
theorem RowB.below {W W' : World} {g : Nat} {xs : List Rat} (h : RowB W g xs) (hb : Below W.heap.size W W') : RowB W' g xs := by
  obtain ⟨cur, hg, hc⟩ := h
  exact ⟨cur, keep_block hg hb, hc⟩
theorem RowB.free {W : World} {g : Nat} {xs : List Rat} (h : RowB W g xs) (j : Nat) : W.frozen? ⟨g, j, none⟩ = false := by
  obtain ⟨cur, hg, hc⟩ := h
  rw [Lib.frozen_of_heap hg j]
/-- what stays while the numbers are squared: the row, in part squared; the result's block -/
structure SqI (w1 : World) (gg R : Nat) (qs : List Rat) (k : Nat) (W : World) : Prop where
  row : ∃ xs : List Rat, xs.length = qs.length ∧ (∀ j (h : j < xs.length) (h' : j < qs.length), xs[j] = if j < k then qs[j] * qs[j] else qs[j]) ∧ RowB W gg xs
  res : W.heap[R]? = some (.cells #[.string { data := #[] }, .string { data := #[] }] 24 (0, 0))
  env : Env W
  low : w1.grownBy W (some gg)
theorem SqI.step {w1 W W' : World} {gg R k : Nat} {qs : List Rat} (h : SqI w1 gg R qs k W) (hb : Below W.heap.size W W') : SqI w1 gg R qs k W' := by
  obtain ⟨⟨xs, h1, h2, h3⟩, h4, h5, h6⟩ := h
  exact ⟨⟨xs, h1, h2, h3.below hb⟩, keep_block h4 hb, h5.below hb, kept_trans h6 (kept_below hb)⟩
end Go.Proofs.YtkbhlkinlcmgoaaGreatDoor.Num

/- package value and fmath: Size, List, Inside, faults at arguments that are numbers or arrays. Conditions: all numbers fit; the tables lie as they are laid. -/
namespace Go.Proofs.YtkbhlkinlcmgoaaGreatDoor.Num
open Go.RowKit Go.Lib

/-- a number, or an array of r rows and s columns -/
def PArg (W : World) (v : Val) (r s : Int) (qs : List Rat) : Prop :=
  (∃ q, v = numVal' q ∧ qs = [q] ∧ r = 1 ∧ s = 1) ∨ ∃ g C, v = arrVal' r s g qs.length C ∧ 1 ≤ r ∧ r ≤ 1000 ∧ 1 ≤ s ∧ s ≤ 1000 ∧ r * s = (qs.length : Int) ∧ 0 < qs.length ∧ qs.length ≤ 1000 ∧ ValsAt W g 0 (numVals qs)
theorem PArg.below {W W' : World} {v : Val} {r s : Int} {qs : List Rat} (h : PArg W v r s qs) (hb : Below W.heap.size W W') : PArg W' v r s qs := by
  rcases h with h | ⟨g, C, h1, h2, h3, h4, h5, h6, h7, h8, h9⟩
  · exact .inl h
  · exact .inr ⟨g, C, h1, h2, h3, h4, h5, h6, h7, h8, h9.below hb⟩
theorem PArg.pos {W : World} {v : Val} {r s : Int} {qs : List Rat} (h : PArg W v r s qs) : 0 < qs.length ∧ qs.length ≤ 1000 ∧ r * s = (qs.length : Int) ∧ 1 ≤ r ∧ 1 ≤ s ∧ r ≤ 1000 ∧ s ≤ 1000 := by
  rcases h with ⟨q, h1, rfl, rfl, rfl⟩ | ⟨g, C, h1, h2, h3, h4, h5, h6, h7, h8, h9⟩
  · simp
  · exact ⟨h7, h8, h6, h2, h4, h3, h5⟩
theorem PArg.lt {W : World} {v : Val} {r s : Int} {qs : List Rat} (h : PArg W v r s qs) : ∀ g, v.A = some ⟨g, 0, none⟩ → g < W.heap.size := by
  intro g hg
  rcases h with ⟨q, rfl, _⟩ | ⟨g', C, rfl, h2, h3, h4, h5, h6, h7, h8, h9⟩
  · simp [numVal'] at hg
  · simp [arrVal'] at hg
    subst hg
    exact items_lt h9 h7

/-- arguments in a row, each with its shape -/
def PArgs (W : World) (vs : List Val) : Prop := ∀ j (h : j < vs.length), ∃ r s qs, PArg W vs[j] r s qs
theorem PArgs.below {W W' : World} {vs : List Val} (h : PArgs W vs) (hb : Below W.heap.size W W') : PArgs W' vs := fun j hj => by
  obtain ⟨r, s, qs, h⟩ := h j hj
  exact ⟨r, s, qs, h.below hb⟩
structure FauI (w : World) (g : Nat) (vs : List Val) (W : World) : Prop where
  vals : ValsAt W g 0 vs
  parts : PArgs W vs
  env : Env W
  low : Below w.heap.size w W
theorem FauI.step {w W W' : World} {g : Nat} {vs : List Val} (h : FauI w g vs W) (hb : Below W.heap.size W W') : FauI w g vs W' :=
  ⟨h.vals.below hb, h.parts.below hb, h.env.below hb, h.low.trans (hb.mono h.low.size)⟩
end Go.Proofs.YtkbhlkinlcmgoaaGreatDoor.Num

/- Two arguments, one argument: numbers or arrays of numbers. No conditions. -/
namespace Go.Proofs.YtkbhlkinlcmgoaaGreatDoor.Num
open Go.RowKit Go.Lib

end Go.Proofs.YtkbhlkinlcmgoaaGreatDoor.Num

/- the laws' own array: at most 12 numbers as one value. Conditions: the tables lie as they are laid. -/
namespace Go.Proofs.YtkbhlkinlcmgoaaGreatDoor.Num
open Go.RowKit Go.Lib

/-- whole numbers that came in -/
def CameInts (W : World) (A : Addr) (ns : List Int) : Prop := ∀ i (h : i < ns.length), W.cell? (A.add i) = some (.int .i64 ns[i])
theorem CameInts.below {W W' : World} {A : Addr} {ns : List Int} (h : CameInts W A ns) (hb : Below W.heap.size W W') : CameInts W' A ns := fun i hi => cell_below (h i hi) hb

theorem numVals_snoc (qs : List Rat) (q : Rat) : flat (numVals (qs ++ [q])) = flat (numVals qs) ++ (numVal' q).cells := by simp [numVals, flat]

/-- what stays while the values are collected: the result's block, the value's block, the row -/
structure ArrI (w : World) (c : Nat) (bv v : Value) (done : List Rat) (W : World) : Prop where
  res : W.heap[w.heap.size]? = some (.cells #[.int .i64 0, .string { data := #[] }, .string { data := #[] }, .string { data := #[] }, .bool false, .int .i64 0, .int .i64 0, .int .i64 0, .slice none 0 0] 30 (0, 0))
  box : W.heap[w.heap.size + 1]? = some (.cells #[.int .i64 5, .string { data := #[] }, .string { data := #[] }, .string { data := #[] }, .bool false, .int .i64 0, .int .i64 1, .int .i64 (c : Int), bv] 30 (0, 0))
  low : Below w.heap.size w W
  own : W.ownsRow (w.heap.size + 2) 30 9 v done.length (flat (numVals done))
theorem ArrI.step {w W W' : World} {c : Nat} {bv v : Value} {done : List Rat} (h : ArrI w c bv v done W) (hb : Below W.heap.size W W') : ArrI w c bv v done W' :=
  ⟨keep_block h.res hb, keep_block h.box hb, h.low.trans (hb.mono h.low.size), h.own.kept (only_of_below hb none) (by cases v.ownBlock <;> simp)⟩
theorem ArrI.size {w W : World} {c : Nat} {bv v : Value} {done : List Rat} (h : ArrI w c bv v done W) : w.heap.size + 2 ≤ W.heap.size := heap_lt h.box
end Go.Proofs.YtkbhlkinlcmgoaaGreatDoor.Num
