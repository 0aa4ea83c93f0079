/- Numbers as texts of digits, fractions, values and the functions of fmath: contracts of the program's functions, joined from smaller texts. Conditions stand at each theorem. -/
import Derived.Test.YtphfefmlappidaaGreatDoorFdcA
import Derived.Lib.SlicesCompact
import Derived.Lib.RowBridge
import Derived.Test.YtphfefmlappidaaGreatDoorNumH
import Derived.BigQuiet
import Derived.IntWalk
import Derived.Test.YtphfefmlappidaaGreatDoorFdcB
import Derived.Sort.OwnSorted
import Derived.Lib.MinMax

/- Holidays: sorted, none twice; counts of working days. Plain: no program. -/
namespace Go.Proofs.YtphfefmlappidaaGreatDoor.Num

theorem compactTo_sorted (d : Array Int) (n : Nat) (hs : ∀ i j, i < j → j < n → d[i]! ≤ d[j]!) : ∀ m, m ≤ n → (Lib.compactUpTo d m).Pairwise (· < ·) ∧ (∀ x ∈ Lib.compactUpTo d m, ∃ j, j < m ∧ d[j]! = x) ∧ (∀ j, j < m → d[j]! ∈ Lib.compactUpTo d m)
  | 0, _ => ⟨by unfold Lib.compactUpTo; simp, by unfold Lib.compactUpTo; simp, fun j hj => absurd hj (Nat.not_lt_zero _)⟩
  | m + 1, h => by
    obtain ⟨h1, h2, h3⟩ := compactTo_sorted d n hs m (by omega)
    rw [Lib.compactUpTo_succ]
    by_cases hk : Lib.keeps d m = true
    · rw [if_pos hk]
      refine ⟨?_, ?_, ?_⟩
      · rw [List.pairwise_append]
        refine ⟨h1, by simp, fun x hx y hy => ?_⟩
        obtain ⟨j, hj, rfl⟩ := h2 x hx
        simp only [List.mem_cons, List.not_mem_nil, or_false] at hy
        subst hy
        have hm : m ≠ 0 := by omega
        have hne : d[m]! ≠ d[m - 1]! := by
          unfold Lib.keeps at hk
          simp only [decide_eq_true_eq] at hk
          rcases hk with hk | hk
          · exact absurd hk hm
          · exact hk
        have ha : d[j]! ≤ d[m - 1]! := by
          by_cases e : j = m - 1
          · rw [e]; exact Int.le_refl _
          · exact hs j (m - 1) (by omega) (by omega)
        have hb : d[m - 1]! ≤ d[m]! := hs (m - 1) m (by omega) (by omega)
        omega
      · intro x hx
        rw [List.mem_append] at hx
        rcases hx with hx | hx
        · obtain ⟨j, hj, e⟩ := h2 x hx
          exact ⟨j, by omega, e⟩
        · simp only [List.mem_cons, List.not_mem_nil, or_false] at hx
          exact ⟨m, by omega, hx.symm⟩
      · intro j hj
        rw [List.mem_append]
        by_cases e : j = m
        · subst e; right; simp
        · left; exact h3 j (by omega)
    · rw [if_neg hk, List.append_nil]
      refine ⟨h1, fun x hx => ?_, fun j hj => ?_⟩
      · obtain ⟨j, hj, e⟩ := h2 x hx
        exact ⟨j, by omega, e⟩
      · by_cases e : j = m
        · subst e
          have hj0 : j ≠ 0 := by
            intro e0; subst e0; exact hk (by unfold Lib.keeps; simp)
          have he : d[j]! = d[j - 1]! := by
            unfold Lib.keeps at hk
            rw [decide_eq_true_eq, not_or, Decidable.not_not] at hk
            exact hk.2
          rw [he]; exact h3 (j - 1) (by omega)
        · exact h3 j (by omega)
theorem getBang (l : List Int) (i : Nat) (h : i < l.length) : l.toArray[i]! = l[i] := by
  rw [getElem!_pos _ i (by simpa using h)]; simp
theorem compact_sorted (l : List Int) (hs : l.Pairwise (· ≤ ·)) : (Lib.compact l).Pairwise (· < ·) ∧ ∀ x, x ∈ Lib.compact l ↔ x ∈ l := by
  obtain ⟨h1, h2, h3⟩ := compactTo_sorted l.toArray l.length (fun i j hij hj => by
    rw [getBang l i (by omega), getBang l j hj]
    exact List.pairwise_iff_getElem.1 hs i j (by omega) hj hij) l.length (Nat.le_refl _)
  refine ⟨h1, fun x => ⟨fun hx => ?_, fun hx => ?_⟩⟩
  · obtain ⟨j, hj, rfl⟩ := h2 x hx
    rw [getBang l j hj]; exact List.getElem_mem hj
  · obtain ⟨j, hj, rfl⟩ := List.getElem_of_mem hx
    have := h3 j hj
    rw [getBang l j hj] at this
    exact this

/-- a day that counts as a holiday -/
def holB (x : Int) : Bool := decide (1 ≤ x) && decide (x ≤ 2958464) && (decide (x % 7 ≠ 0) && decide (x % 7 ≠ 6))
def holsR (l : List Int) : List Int := Lib.compact ((l.filter holB).mergeSort fun x y => decide (x ≤ y))
theorem sorted_ms (l : List Int) : (l.mergeSort fun x y => decide (x ≤ y)).Pairwise (· ≤ ·) := by
  have h := List.pairwise_mergeSort (le := fun x y : Int => decide (x ≤ y)) (fun a b c h1 h2 => by simp at *; omega) (fun a b => by simp; omega) l
  exact h.imp (by intro a b h; simpa using h)
theorem hols_free (l : List Int) : Free (holsR l) := by
  obtain ⟨h1, h2⟩ := compact_sorted _ (sorted_ms (l.filter holB))
  refine ⟨h1, fun x hx => ?_⟩
  have hx := (h2 x).1 hx
  rw [List.mem_mergeSort, List.mem_filter] at hx
  have := hx.2
  unfold holB at this
  simp only [Bool.and_eq_true, decide_eq_true_eq] at this
  omega
theorem hols_len (l : List Int) : (holsR l).length ≤ l.length := by
  refine Nat.le_trans (Lib.compact_length_le _) ?_
  rw [List.length_mergeSort]
  exact List.length_filter_le _ _
theorem weekdays_zero : weekdaysR 0 = 0 := by decide
theorem count_zero {l : List Int} (h : Free l) : countR l 0 = 0 := by
  unfold countR
  rw [weekdays_zero, List.countP_eq_zero.2 (fun x hx => by have := (h.day x hx).1; simp; omega)]
  rfl
theorem count_nonneg {l : List Int} (h : Free l) {n : Int} (hn : 0 ≤ n) : 0 ≤ countR l n := by
  have := count_mono h hn
  rw [count_zero h] at this
  exact this
theorem count_le {l : List Int} (n : Int) : countR l n ≤ weekdaysR n := by unfold countR; omega
theorem count_ge {l : List Int} (n : Int) : weekdaysR n - l.length ≤ countR l n := by
  unfold countR
  have := List.countP_le_length (p := fun x => decide (x ≤ n)) (l := l)
  omega
theorem count_last {l : List Int} (h9 : l.length ≤ 30) {n k : Int} (h0 : 0 ≤ n) (hn : n ≤ 200000) (hk : k ≤ 100) : countR l n + k ≤ countR l 2958464 := by
  have h1 := count_le (l := l) n
  have h2 := count_ge (l := l) 2958464
  have h3 : weekdaysR 2958464 = 2113190 := by decide
  have h4 : weekdaysR n ≤ 5 * n / 7 + 5 := by unfold weekdaysR; omega
  omega
end Go.Proofs.YtphfefmlappidaaGreatDoor.Num

/- package value: arrays of numbers: Check, List, Size, Inside. Conditions: the items are numbers that fit; the tables lie as they are laid. -/
namespace Go.Proofs.YtphfefmlappidaaGreatDoor.Num
open Go.RowKit Go.Lib

/-- an array as a value, field by field -/
def arrVal' (r s : Int) (g L C : Nat) : Val := ⟨5, { data := #[] }, { data := #[] }, { data := #[] }, false, 0, r, s, some ⟨g, 0, none⟩, L, C⟩
theorem arrVal'_agg (r s : Int) (g L C : Nat) : (arrVal' r s g L C).agg = .agg #[.int .i64 5, .string { data := #[] }, .string { data := #[] }, .string { data := #[] }, .bool false, .int .i64 0, .int .i64 r, .int .i64 s, .slice (some ⟨g, 0, none⟩) L C] := rfl
/-- what stays while the items of an array are gone through -/
structure RowI (w : World) (g : Nat) (qs : List Rat) (W : World) : Prop where
  row : ValsAt W g 0 (numVals qs)
  env : Env W
  low : Below w.heap.size w W
theorem RowI.step {w W W' : World} {g : Nat} {qs : List Rat} (h : RowI w g qs W) (hb : Below W.heap.size W W') : RowI w g qs W' :=
  ⟨h.row.below hb, h.env.below hb, h.low.trans (hb.mono h.low.size)⟩
/-- the cells of item i -/
theorem item_at {W : World} {g : Nat} {qs : List Rat} (h : ValsAt W g 0 (numVals qs)) (i : Nat) (hi : i < qs.length) (q : Rat) (hq : qs[i] = q) :
    W.cell? ⟨g, i * 9, none⟩ = some (.int .i64 1) ∧ W.cell? ⟨g, i * 9 + 1, none⟩ = some (.string (numS q)) ∧ W.cell? ⟨g, i * 9 + 2, none⟩ = some (.string (denS q)) ∧ W.cell? ⟨g, i * 9 + 3, none⟩ = some (.string { data := #[] }) ∧ W.cell? ⟨g, i * 9 + 4, none⟩ = some (.bool false) ∧ W.cell? ⟨g, i * 9 + 5, none⟩ = some (.int .i64 0) ∧ W.cell? ⟨g, i * 9 + 6, none⟩ = some (.int .i64 0) ∧ W.cell? ⟨g, i * 9 + 7, none⟩ = some (.int .i64 0) ∧ W.cell? ⟨g, i * 9 + 8, none⟩ = some (.slice none 0 0) := by
  have hl : i < (numVals qs).length := by rw [numVals_len]; exact hi
  have := h.at i hl
  rw [numVals_at qs i hl, hq, Nat.zero_add] at this
  exact this

set_option maxHeartbeats 4000000 in
set_option maxRecDepth 100000 in
theorem array_ok (qs : List Rat) (r s : Int) (g C : Nat) (w : World) (hr : 1 ≤ r) (hr9 : r ≤ 1000) (hs : 1 ≤ s) (hs9 : s ≤ 1000) (hrs : r * s = (qs.length : Int)) (hq : ∀ q ∈ qs, fits q = true) (h9 : qs.length ≤ 1000) (hv : ValsAt w g 0 (numVals qs)) (hE : Env w) :
    Calls Tryz.prog 76 #[.agg #[.int .i64 5, .string { data := #[] }, .string { data := #[] }, .string { data := #[] }, .bool false, .int .i64 0, .int .i64 r, .int .i64 s, .slice (some ⟨g, 0, none⟩) qs.length C]] w fun e w' => e = .returned (.int .i64 0) ∧ Below w.heap.size w w' := by
  have hb : Below w.heap.size w (w.alloc (.cells #[.int .i64 5, .string { data := #[] }, .string { data := #[] }, .string { data := #[] }, .bool false, .int .i64 0, .int .i64 r, .int .i64 s, .slice (some ⟨g, 0, none⟩) qs.length C] 30)) := (Below.refl _ _).alloc (Nat.le_refl _) _
  have HI0 := Lib.hid (show RowI w g qs (w.alloc (.cells #[.int .i64 5, .string { data := #[] }, .string { data := #[] }, .string { data := #[] }, .bool false, .int .i64 0, .int .i64 r, .int .i64 s, .slice (some ⟨g, 0, none⟩) qs.length C] 30)) from ⟨hv.below hb, hE.below hb, hb⟩)
  have HQ := Lib.hid hq
  have d1 : decide (r < 1) = false := decide_eq_false (by omega)
  have d2 : decide (100000 < r) = false := decide_eq_false (by omega)
  have d3 : decide (s < 1) = false := decide_eq_false (by omega)
  have d4 : decide (100000 < s) = false := decide_eq_false (by omega)
  obtain ⟨L, hL⟩ : ∃ L, qs.length = L := ⟨_, rfl⟩
  have HLL := Lib.hid hL
  rw [hL] at hrs h9 HI0 ⊢
  have d5 : decide (100000 < (L : Int)) = false := decide_eq_false (by omega)
  have hwr : IntKind.i64.wrap (L : Int) = (L : Int) := IntWalk.i64_in _ (by omega)
  clear hb hv hE hq hL
  go_enter Tryz.func76, Tryz.ntmps76
  go_wp2_with fail
  go_loopg [42] L (fun gh v42 wx => ∃ k : Nat, v42 = .int .i64 (k : Int) ∧ k ≤ L ∧ gh = L - k ∧ RowI w g qs wx)
  case atStart => exact ⟨0, rfl, Nat.zero_le _, rfl, HI0.out⟩
  case round =>
    clear HI0
    obtain ⟨k, rfl, hk, rfl, hti⟩ := hrel
    have HTI := Lib.hid hti
    clear hti hrs hwr
    by_cases hlt : k < L
    · have hd : decide ((k : Int) < (L : Int)) = true := decide_eq_true (by omega)
      have hd2 : decide (k < L) = true := decide_eq_true hlt
      have hkq : k < qs.length := by rw [HLL.out]; exact hlt
      obtain ⟨q, hqq⟩ : ∃ q, qs[k] = q := ⟨_, rfl⟩
      have hfq : fits q = true := by rw [← hqq]; exact HQ.out _ (List.getElem_mem hkq)
      obtain ⟨c0, c1, c2, c3, c4, c5, c6, c7, c8⟩ := item_at HTI.out.row k hkq q hqq
      have TC := Lib.hid (fun W gg => check_num q W hfq gg)
      have hi0 : (0 : Int) ≤ (k : Int) := by omega
      have hi1 : (k : Int) < (L : Int) := by omega
      clear hfq hkq hqq
      have HTA := Lib.hid (HTI.out.step ((Below.refl wr.heap.size wr).alloc (Nat.le_refl _) (.cells #[.int .i64 1, .string (numS q), .string (denS q), .string { data := #[] }, .bool false, .int .i64 0, .int .i64 0, .int .i64 0, .slice none 0 0] 30)))
      go_wp2_with fail
      refine (TC.out _ HTA.out.env).mono ?_
      rintro e w2 ⟨rfl, hb⟩
      have HT2 := Lib.hid (HTA.out.step hb)
      clear hb c0 c1 c2 c3 c4 c5 c6 c7 c8
      go_wp2
      go_roundg (L - (k + 1))
      case measure => omega
      case rel => exact ⟨k + 1, by go_num, by omega, by omega, HT2.out⟩
    · have hd : decide ((k : Int) < (L : Int)) = false := decide_eq_false (by omega)
      have hd2 : decide (k < L) = false := decide_eq_false hlt
      clear hlt
      go_wp2
      go_ret
      exact ⟨rfl, HTI.out.low⟩

set_option maxHeartbeats 4000000 in
set_option maxRecDepth 100000 in
theorem check_arr (qs : List Rat) (r s : Int) (g C : Nat) (w : World) (hr : 1 ≤ r) (hr9 : r ≤ 1000) (hs : 1 ≤ s) (hs9 : s ≤ 1000) (hrs : r * s = (qs.length : Int)) (hq : ∀ q ∈ qs, fits q = true) (h9 : qs.length ≤ 1000) (hv : ValsAt w g 0 (numVals qs)) (hE : Env w) :
    Calls Tryz.prog 48 #[.agg #[.int .i64 5, .string { data := #[] }, .string { data := #[] }, .string { data := #[] }, .bool false, .int .i64 0, .int .i64 r, .int .i64 s, .slice (some ⟨g, 0, none⟩) qs.length C]] w fun e w' => e = .returned (.int .i64 0) ∧ Below w.heap.size w w' := by
  have TA := Lib.hid (fun W hvv gg => array_ok qs r s g C W hr hr9 hs hs9 hrs hq h9 hvv gg)
  have HX := Lib.hid (heap_alloc_new w (.cells #[.int .i64 5, .string { data := #[] }, .string { data := #[] }, .string { data := #[] }, .bool false, .int .i64 0, .int .i64 r, .int .i64 s, .slice (some ⟨g, 0, none⟩) qs.length C] 30))
  have HL := Lib.hid (show Below w.heap.size w (w.alloc (.cells #[.int .i64 5, .string { data := #[] }, .string { data := #[] }, .string { data := #[] }, .bool false, .int .i64 0, .int .i64 r, .int .i64 s, .slice (some ⟨g, 0, none⟩) qs.length C] 30)) from (Below.refl _ _).alloc (Nat.le_refl _) _)
  have HE := Lib.hid (hE.below HL.out)
  have HV := Lib.hid (hv.below HL.out)
  have TZ := Lib.hid (fun W => zeros_arr r s (some ⟨g, 0, none⟩) qs.length C W)
  obtain ⟨L, hL⟩ : ∃ L, qs.length = L := ⟨_, rfl⟩
  rw [hL] at TA HX HL HE TZ HV ⊢
  clear hE hv hr hr9 hs hs9 hrs hq h9 hL
  go_enter Tryz.func48, Tryz.ntmps48
  go_wp2_with fail
  refine (TZ.out _).mono ?_
  rintro e W1 ⟨rfl, hb⟩
  replace HX := Lib.hid (keep_block HX.out hb)
  replace HE := Lib.hid (HE.out.below hb)
  replace HV := Lib.hid (HV.out.below hb)
  replace HL := Lib.hid (HL.out.trans (hb.mono HL.out.size))
  clear hb
  obtain ⟨⟨x0, x1, x2, x3, x4, x5, x6, x7, x8⟩, _⟩ := nine_at HX.out
  go_wp2_with fail
  refine (TA.out _ HV.out HE.out).mono ?_
  rintro e W2 ⟨rfl, hb⟩
  replace HL := Lib.hid (HL.out.trans (hb.mono HL.out.size))
  clear hb
  go_wp2
  go_ret
  exact ⟨rfl, HL.out⟩

set_option maxHeartbeats 4000000 in
set_option maxRecDepth 100000 in
theorem list_arr (r s : Int) (g L C : Nat) (w : World) :
    Calls Tryz.prog 310 #[.agg #[.int .i64 5, .string { data := #[] }, .string { data := #[] }, .string { data := #[] }, .bool false, .int .i64 0, .int .i64 r, .int .i64 s, .slice (some ⟨g, 0, none⟩) L C]] w fun e w' => e = .returned (.slice (some ⟨g, 0, none⟩) L C) ∧ Below w.heap.size w w' := by
  have HL := Lib.hid (show Below w.heap.size w (w.alloc (.cells #[.int .i64 5, .string { data := #[] }, .string { data := #[] }, .string { data := #[] }, .bool false, .int .i64 0, .int .i64 r, .int .i64 s, .slice (some ⟨g, 0, none⟩) L C] 30)) from (Below.refl _ _).alloc (Nat.le_refl _) _)
  go_enter Tryz.func310, Tryz.ntmps310
  go_wp2
  go_ret
  exact ⟨rfl, HL.out⟩

set_option maxHeartbeats 4000000 in
set_option maxRecDepth 100000 in
theorem list_num (q : Rat) (w : World) :
    Calls Tryz.prog 310 #[.agg #[.int .i64 1, .string (numS q), .string (denS q), .string { data := #[] }, .bool false, .int .i64 0, .int .i64 0, .int .i64 0, .slice none 0 0]] w fun e w' => ∃ g, e = .returned (.slice (some ⟨g, 0, none⟩) 1 1) ∧ ValsAt w' g 0 (numVals [q]) ∧ Below w.heap.size w w' := by
  have HL := Lib.hid (show Below w.heap.size w (w.alloc (.cells #[.int .i64 1, .string (numS q), .string (denS q), .string { data := #[] }, .bool false, .int .i64 0, .int .i64 0, .int .i64 0, .slice none 0 0] 30)) from (Below.refl _ _).alloc (Nat.le_refl _) _)
  obtain ⟨W1, hW1⟩ : ∃ W1, w.alloc (.cells #[.int .i64 1, .string (numS q), .string (denS q), .string { data := #[] }, .bool false, .int .i64 0, .int .i64 0, .int .i64 0, .slice none 0 0] 30) = W1 := ⟨_, rfl⟩
  have HV := Lib.hid (vals_of_block (vs := numVals [q]) (heap_alloc_new (w.alloc (.cells #[.int .i64 1, .string (numS q), .string (denS q), .string { data := #[] }, .bool false, .int .i64 0, .int .i64 0, .int .i64 0, .slice none 0 0] 30)) (.cells #[.int .i64 1, .string (numS q), .string (denS q), .string { data := #[] }, .bool false, .int .i64 0, .int .i64 0, .int .i64 0, .slice none 0 0] 30)) rfl)
  have HB := Lib.hid (HL.out.alloc HL.out.size (.cells #[.int .i64 1, .string (numS q), .string (denS q), .string { data := #[] }, .bool false, .int .i64 0, .int .i64 0, .int .i64 0, .slice none 0 0] 30))
  clear hW1 W1
  rw [show (w.alloc (.cells #[.int .i64 1, .string (numS q), .string (denS q), .string { data := #[] }, .bool false, .int .i64 0, .int .i64 0, .int .i64 0, .slice none 0 0] 30)).heap.size = w.heap.size + 1 by simp] at HV
  go_enter Tryz.func310, Tryz.ntmps310
  go_wp2
  go_ret
  exact ⟨_, rfl, HV.out, HB.out⟩
end Go.Proofs.YtphfefmlappidaaGreatDoor.Num

/- package value: Inside at an array of numbers; Numbers where each argument is a number or an array of numbers. Conditions: all numbers fit; the tables lie as they are laid. -/
namespace Go.Proofs.YtphfefmlappidaaGreatDoor.Num
open Go.RowKit Go.Lib

theorem Env.low {W W' : World} {B : Nat} (h : Env W) (ho : ∀ k, k < B → W'.heap[k]? = W.heap[k]?) (hP : Past B) (hs : W.heap.size ≤ W'.heap.size) : Env W' := by
  refine ⟨?_, ?_, Nat.lt_of_lt_of_le h.room.1 hs, Nat.lt_of_lt_of_le h.room.2 hs⟩
  · have := h.tab
    unfold Tab Lib.TabIs World.var? at this ⊢
    have hgl : Tryz.prog.globalNamed "internal/strconv.uint64pow10" = some 2 := by kernel_rfl
    rw [hgl] at this ⊢
    simp only [Option.bind_some] at this ⊢
    rw [ho _ hP.2]; exact this
  · intro j hj
    have h1 := h.faults j hj
    have hl : j < faultTexts.size := hj
    rw [Array.getElem?_eq_getElem hl] at h1 ⊢
    simp only [World.cell?] at h1 ⊢
    rw [ho _ hP.1]; exact h1
theorem own_ge {B : Nat} {W : World} {v : Value} {qs : List Rat} (h : OwnF B v qs W) : ∀ r, v.ownBlock = some r → B ≤ r := by
  intro r hr
  rcases h.2 with ⟨rfl, _⟩ | ⟨g, cap, cur, rfl, hb, _⟩
  · simp [Value.ownBlock] at hr
  · simp [Value.ownBlock] at hr; omega
theorem OwnF.mono {B B' : Nat} {W : World} {v : Value} {qs : List Rat} (h : OwnF B v qs W) (hB : B' ≤ B) : OwnF B' v qs W := by
  refine ⟨h.1, ?_⟩
  rcases h.2 with h1 | ⟨g, cap, cur, e, hb, r⟩
  · exact .inl h1
  · exact .inr ⟨g, cap, cur, e, Nat.le_trans hB hb, r⟩
/-- the cells of an own row -/
theorem OwnF.cells {B : Nat} {v : Value} {qs : List Rat} {W : World} (h : OwnF B v qs W) (h0 : 0 < qs.length) : ∃ g cap, v = .slice (some ⟨g, 0, none⟩) qs.length cap ∧ B ≤ g ∧ ∀ j u, (fracCells qs)[j]? = some u → W.cell? ((⟨g, 0, none⟩ : Addr).add j) = some u := by
  rcases h.2 with ⟨_, h0'⟩ | ⟨g, cap, cur, rfl, hb, hg, hc1, hc2, hcs, htk⟩
  · exfalso; have := h0'; simp at this; omega
  · refine ⟨g, cap, rfl, hb, fun j u hj => ?_⟩
    rw [← htk] at hj
    have hl : j < qs.length * 2 := by
      have := (List.getElem?_eq_some_iff.1 hj).1
      simp only [List.length_take] at this
      omega
    rw [List.getElem?_take_of_lt hl] at hj
    rw [addr_add, Nat.zero_add, Lib.cell_of_heap hg j]
    simpa using hj
theorem frac_one (qs : List Rat) : ∀ u ∈ fracCells qs, u.oneCell' = true := by
  intro u hu
  unfold fracCells at hu
  obtain ⟨v, _, hv⟩ := List.mem_flatMap.1 hu
  simp only [List.mem_cons, List.not_mem_nil, or_false] at hv
  rcases hv with rfl | rfl <;> rfl
theorem frac_len : ∀ qs : List Rat, (fracCells qs).length = qs.length * 2
  | [] => rfl
  | q :: r => by
    have := frac_len r
    unfold fracCells at this ⊢
    rw [List.flatMap_cons, List.length_append, this, List.length_cons]
    show 2 + r.length * 2 = (r.length + 1) * 2
    omega
theorem fracCells_append (a b : List Rat) : fracCells (a ++ b) = fracCells a ++ fracCells b := by simp [fracCells]

/-- what stays while the items are collected; the row lies ahead of the base -/
structure InI (w : World) (g : Nat) (qs : List Rat) (v : Value) (done : List Rat) (W : World) : Prop where
  row : ValsAt W g 0 (numVals qs)
  env : Env W
  low : Below w.heap.size w W
  own : OwnF w.heap.size v done W
theorem InI.step {w W W' : World} {g : Nat} {qs done : List Rat} {v : Value} (h : InI w g qs v done W) (hb : Below W.heap.size W W') : InI w g qs v done W' :=
  ⟨h.row.below hb, h.env.below hb, h.low.trans (hb.mono h.low.size), h.own.kept (only_of_below hb none) (by cases v.ownBlock <;> simp)⟩
theorem vals_other {W W' : World} {g : Nat} {vs : List Val} (h : ValsAt W g 0 vs) (ho : W'.heap[g]? = W.heap[g]?) : ValsAt W' g 0 vs := by
  intro j u hj
  have := h j u hj
  rw [addr_add] at this ⊢
  simp only [World.cell?] at this ⊢
  rw [ho]; exact this
theorem InI.push {w W W' : World} {g : Nat} {qs done : List Rat} {v v' : Value} {q : Rat} (h : InI w g qs v done W) (ho : W'.ownsRow w.heap.size 23 2 v' (done.length + 1) (fracCells done ++ [.string (numS q), .string (denS q)])) (hg : W.grownBy W' v.ownBlock) (hg0 : g < w.heap.size) (hE0 : Past w.heap.size) : InI w g qs v' (done ++ [q]) W' := by
  have hother : ∀ k, k < w.heap.size → W'.heap[k]? = W.heap[k]? := fun k hk => hg.block k (Nat.lt_of_lt_of_le hk h.low.size) (fun e => by have := own_ge h.own k e.symm; omega)
  exact ⟨vals_other h.row (hother g hg0), h.env.low hother hE0 hg.size, h.low.grown hg h.low.size (fun r hr => own_ge h.own r hr), by unfold OwnF; rw [fracCells_snoc, List.length_append]; exact ho⟩

set_option maxHeartbeats 4000000 in
set_option maxRecDepth 100000 in
theorem inside_arr (qs : List Rat) (r s : Int) (g C : Nat) (w : World) (h9 : qs.length ≤ 1000) (h0 : 0 < qs.length) (hv : ValsAt w g 0 (numVals qs)) (hE : Env w) :
    Calls Tryz.prog 216 #[.agg #[.int .i64 5, .string { data := #[] }, .string { data := #[] }, .string { data := #[] }, .bool false, .int .i64 0, .int .i64 r, .int .i64 s, .slice (some ⟨g, 0, none⟩) qs.length C]] w fun e w' => ∃ v, e = .returned v ∧ OwnF w.heap.size v qs w' ∧ Env w' ∧ Below w.heap.size w w' := by
  have hb : Below w.heap.size w (w.alloc (.cells #[.int .i64 5, .string { data := #[] }, .string { data := #[] }, .string { data := #[] }, .bool false, .int .i64 0, .int .i64 r, .int .i64 s, .slice (some ⟨g, 0, none⟩) qs.length C] 30)) := (Below.refl _ _).alloc (Nat.le_refl _) _
  have HX := Lib.hid (heap_alloc_new w (.cells #[.int .i64 5, .string { data := #[] }, .string { data := #[] }, .string { data := #[] }, .bool false, .int .i64 0, .int .i64 r, .int .i64 s, .slice (some ⟨g, 0, none⟩) qs.length C] 30))
  have HE := Lib.hid (hE.below hb)
  have HL := Lib.hid hb
  have HV := Lib.hid (hv.below hb)
  obtain ⟨L, hL⟩ : ∃ L, qs.length = L := ⟨_, rfl⟩
  have HLL := Lib.hid hL
  rw [hL] at h0 h9 HX HE HL HV ⊢
  clear hv hL
  obtain ⟨i0, hi0', hz0, hz1, hz2⟩ := info_frac
  clear hb hE
  go_enter Tryz.func216, Tryz.ntmps216
  go_wp2_with fail
  refine (list_arr r s g L C _).mono ?_
  rintro e w1 ⟨rfl, hb⟩
  replace HX := Lib.hid (keep_block HX.out hb)
  replace HE := Lib.hid (HE.out.below hb)
  replace HV := Lib.hid (HV.out.below hb)
  replace HL := Lib.hid (HL.out.trans (hb.mono HL.out.size))
  clear hb
  have HGL := Lib.hid (show g < w1.heap.size from cell_lt (HV.out.at 0 (by rw [numVals_len, HLL.out]; exact h0)).1)
  have HPS := Lib.hid HE.out.room
  have HI0 := Lib.hid (show InI w1 g qs (.slice none 0 0) [] w1 from ⟨HV.out, HE.out, Below.refl _ _, World.ownsRow_nil _ _ _ _⟩)
  clear HV HE
  go_wp2_with fail
  go_loopg [3, 9] L (fun gh v3 v9 wx => ∃ k : Nat, v9 = .int .i64 (k : Int) ∧ k ≤ L ∧ gh = L - k ∧ InI w1 g qs v3 (qs.take k) wx)
  case atStart => exact ⟨0, rfl, Nat.zero_le _, rfl, HI0.out⟩
  case round =>
    clear HI0
    obtain ⟨k, rfl, hk, rfl, hti⟩ := hrel
    have HTI := Lib.hid hti
    clear hti
    by_cases hlt : k < L
    · have hd : decide ((k : Int) < (L : Int)) = true := decide_eq_true (by omega)
      have hd2 : decide (k < L) = true := decide_eq_true hlt
      have hkq : k < qs.length := by rw [HLL.out]; exact hlt
      obtain ⟨q, hqq⟩ : ∃ q, qs[k] = q := ⟨_, rfl⟩
      have HTK := Lib.hid (show qs.take (k + 1) = qs.take k ++ [q] by rw [List.take_succ_eq_append_getElem hkq, hqq])
      have HDL := Lib.hid (show (qs.take k).length = k by simp; omega)
      obtain ⟨c0, c1, c2, c3, c4, c5, c6, c7, c8⟩ := item_at HTI.out.row k hkq q hqq
      have hi0 : (0 : Int) ≤ (k : Int) := by omega
      have hi1 : (k : Int) < (L : Int) := by omega
      clear hkq hqq
      obtain ⟨W2, hW2⟩ : ∃ W2, wr.alloc (.cells #[.int .i64 1, .string (numS q), .string (denS q), .string { data := #[] }, .bool false, .int .i64 0, .int .i64 0, .int .i64 0, .slice none 0 0] 30) = W2 := ⟨_, rfl⟩
      have HT2 := Lib.hid (HTI.out.step ((Below.refl wr.heap.size wr).alloc (Nat.le_refl _) (.cells #[.int .i64 1, .string (numS q), .string (denS q), .string { data := #[] }, .bool false, .int .i64 0, .int .i64 0, .int .i64 0, .slice none 0 0] 30)))
      rw [hW2] at HT2
      have HT3 := Lib.hid (HT2.out.step ((Below.refl W2.heap.size W2).alloc (Nat.le_refl _) (.cells #[.string (numS q), .string (denS q)] 23)))
      have hown := HT3.out.own
      unfold OwnF at hown
      rw [HDL.out] at hown
      obtain ⟨av, cv, hu⟩ := owns_form hown
      subst hu
      have HOW := Lib.hid hown
      clear hown
      have hml : k + 1 ≤ maxLen := by unfold maxLen; omega
      have hpos : W2.heap.size = wr.heap.size + 1 := by rw [← hW2]; simp
      have hnews := World.news_of_block (cs := #[.string (numS q), .string (denS q)]) (t := 23) (fr := (0, 0)) (heap_alloc_new W2 (.cells #[.string (numS q), .string (denS q)] 23))
      rw [hpos] at hnews
      have HNW := Lib.hid hnews
      have HBS := Lib.hid (show w1.heap.size ≤ (W2.alloc (.cells #[.string (numS q), .string (denS q)] 23)).heap.size from HT3.out.low.size)
      rw [← hW2] at HOW HNW HBS
      have HW2 := Lib.hid hW2
      clear hnews hpos hW2
      go_wp2_with (at_builtin; refine wpList_append_own _ rfl _ _ 168 rfl w1.heap.size 23 i0 _ 2 32 Tryz.underlying168 hi0' hz0 hz1 hz2 rfl (by decide) (.slice av k cv) k (fracCells (qs.take k)) rfl HOW.out ⟨wr.heap.size + 1, 0, none⟩ 1 1 [.string (numS q), .string (denS q)] rfl rfl HNW.out (by simp [Value.oneCell']) hml (by omega) HBS.out ?_)
      intro v5 w5 hown5 hgrow5 _
      rw [HW2.out] at hgrow5
      have HT5 := Lib.hid (HT3.out.push (by rw [HDL.out]; exact hown5) hgrow5 HGL.out HPS.out)
      rw [← HTK.out] at HT5
      clear hown5 hgrow5 c0 c1 c2 c3 c4 c5 c6 c7 c8
      go_wp2
      go_roundg (L - (k + 1))
      case measure => omega
      case rel => exact ⟨k + 1, by go_num, by omega, by omega, HT5.out⟩
    · have hd : decide ((k : Int) < (L : Int)) = false := decide_eq_false (by omega)
      have hd2 : decide (k < L) = false := decide_eq_false hlt
      have hkL : k = L := by omega
      have HTK := Lib.hid (show qs.take k = qs by rw [hkL, ← HLL.out, List.take_length])
      rw [HTK.out] at HTI
      clear hkL hlt
      go_wp2
      go_ret
      exact ⟨_, rfl, HTI.out.own.mono HL.out.size, HTI.out.env, HL.out.trans (HTI.out.low.mono HL.out.size)⟩

set_option maxHeartbeats 4000000 in
set_option maxRecDepth 100000 in
theorem inside_num (q0 : Rat) (w : World) (hE : Env w) :
    Calls Tryz.prog 216 #[.agg #[.int .i64 1, .string (numS q0), .string (denS q0), .string { data := #[] }, .bool false, .int .i64 0, .int .i64 0, .int .i64 0, .slice none 0 0]] w fun e w' => ∃ v, e = .returned v ∧ OwnF w.heap.size v [q0] w' ∧ Env w' ∧ Below w.heap.size w w' := by
  have hb : Below w.heap.size w (w.alloc (.cells #[.int .i64 1, .string (numS q0), .string (denS q0), .string { data := #[] }, .bool false, .int .i64 0, .int .i64 0, .int .i64 0, .slice none 0 0] 30)) := (Below.refl _ _).alloc (Nat.le_refl _) _
  have HX := Lib.hid (heap_alloc_new w (.cells #[.int .i64 1, .string (numS q0), .string (denS q0), .string { data := #[] }, .bool false, .int .i64 0, .int .i64 0, .int .i64 0, .slice none 0 0] 30))
  have HE := Lib.hid (hE.below hb)
  have HL := Lib.hid hb
  obtain ⟨qs, hqs⟩ : ∃ qs, [q0] = qs := ⟨_, rfl⟩
  have HQS := Lib.hid hqs.symm
  obtain ⟨L, hL⟩ : ∃ L, L = 1 := ⟨_, rfl⟩
  have HLL := Lib.hid (show qs.length = L by rw [hL, ← hqs]; rfl)
  have h0 : 0 < L := by omega
  have h9 : L ≤ 1000 := by omega
  have TLN := Lib.hid (fun W => list_num q0 W)
  rw [hqs, ← hL] at TLN
  clear hqs hL
  obtain ⟨i0, hi0', hz0, hz1, hz2⟩ := info_frac
  clear hb hE
  go_enter Tryz.func216, Tryz.ntmps216
  go_wp2_with fail
  refine (TLN.out _).mono ?_
  rintro e w1 ⟨g, rfl, hv, hb⟩
  have HV := Lib.hid hv
  replace HX := Lib.hid (keep_block HX.out hb)
  replace HE := Lib.hid (HE.out.below hb)
  replace HL := Lib.hid (HL.out.trans (hb.mono HL.out.size))
  clear hb
  clear hv
  have HGL := Lib.hid (show g < w1.heap.size from cell_lt (HV.out.at 0 (by rw [numVals_len, HLL.out]; exact h0)).1)
  have HPS := Lib.hid HE.out.room
  have HI0 := Lib.hid (show InI w1 g qs (.slice none 0 0) [] w1 from ⟨HV.out, HE.out, Below.refl _ _, World.ownsRow_nil _ _ _ _⟩)
  clear HV HE
  go_wp2_with fail
  go_loopg [3, 9] L (fun gh v3 v9 wx => ∃ k : Nat, v9 = .int .i64 (k : Int) ∧ k ≤ L ∧ gh = L - k ∧ InI w1 g qs v3 (qs.take k) wx)
  case atStart => exact ⟨0, rfl, Nat.zero_le _, rfl, HI0.out⟩
  case round =>
    clear HI0
    obtain ⟨k, rfl, hk, rfl, hti⟩ := hrel
    have HTI := Lib.hid hti
    clear hti
    by_cases hlt : k < L
    · have hd : decide ((k : Int) < (L : Int)) = true := decide_eq_true (by omega)
      have hd2 : decide (k < L) = true := decide_eq_true hlt
      have hkq : k < qs.length := by rw [HLL.out]; exact hlt
      obtain ⟨q, hqq⟩ : ∃ q, qs[k] = q := ⟨_, rfl⟩
      have HTK := Lib.hid (show qs.take (k + 1) = qs.take k ++ [q] by rw [List.take_succ_eq_append_getElem hkq, hqq])
      have HDL := Lib.hid (show (qs.take k).length = k by simp; omega)
      obtain ⟨c0, c1, c2, c3, c4, c5, c6, c7, c8⟩ := item_at HTI.out.row k hkq q hqq
      have hi0 : (0 : Int) ≤ (k : Int) := by omega
      have hi1 : (k : Int) < (L : Int) := by omega
      clear hkq hqq
      obtain ⟨W2, hW2⟩ : ∃ W2, wr.alloc (.cells #[.int .i64 1, .string (numS q), .string (denS q), .string { data := #[] }, .bool false, .int .i64 0, .int .i64 0, .int .i64 0, .slice none 0 0] 30) = W2 := ⟨_, rfl⟩
      have HT2 := Lib.hid (HTI.out.step ((Below.refl wr.heap.size wr).alloc (Nat.le_refl _) (.cells #[.int .i64 1, .string (numS q), .string (denS q), .string { data := #[] }, .bool false, .int .i64 0, .int .i64 0, .int .i64 0, .slice none 0 0] 30)))
      rw [hW2] at HT2
      have HT3 := Lib.hid (HT2.out.step ((Below.refl W2.heap.size W2).alloc (Nat.le_refl _) (.cells #[.string (numS q), .string (denS q)] 23)))
      have hown := HT3.out.own
      unfold OwnF at hown
      rw [HDL.out] at hown
      obtain ⟨av, cv, hu⟩ := owns_form hown
      subst hu
      have HOW := Lib.hid hown
      clear hown
      have hml : k + 1 ≤ maxLen := by unfold maxLen; omega
      have hpos : W2.heap.size = wr.heap.size + 1 := by rw [← hW2]; simp
      have hnews := World.news_of_block (cs := #[.string (numS q), .string (denS q)]) (t := 23) (fr := (0, 0)) (heap_alloc_new W2 (.cells #[.string (numS q), .string (denS q)] 23))
      rw [hpos] at hnews
      have HNW := Lib.hid hnews
      have HBS := Lib.hid (show w1.heap.size ≤ (W2.alloc (.cells #[.string (numS q), .string (denS q)] 23)).heap.size from HT3.out.low.size)
      rw [← hW2] at HOW HNW HBS
      have HW2 := Lib.hid hW2
      clear hnews hpos hW2
      go_wp2_with (at_builtin; refine wpList_append_own _ rfl _ _ 168 rfl w1.heap.size 23 i0 _ 2 32 Tryz.underlying168 hi0' hz0 hz1 hz2 rfl (by decide) (.slice av k cv) k (fracCells (qs.take k)) rfl HOW.out ⟨wr.heap.size + 1, 0, none⟩ 1 1 [.string (numS q), .string (denS q)] rfl rfl HNW.out (by simp [Value.oneCell']) hml (by omega) HBS.out ?_)
      intro v5 w5 hown5 hgrow5 _
      rw [HW2.out] at hgrow5
      have HT5 := Lib.hid (HT3.out.push (by rw [HDL.out]; exact hown5) hgrow5 HGL.out HPS.out)
      rw [← HTK.out] at HT5
      clear hown5 hgrow5 c0 c1 c2 c3 c4 c5 c6 c7 c8
      go_wp2
      go_roundg (L - (k + 1))
      case measure => omega
      case rel => exact ⟨k + 1, by go_num, by omega, by omega, HT5.out⟩
    · have hd : decide ((k : Int) < (L : Int)) = false := decide_eq_false (by omega)
      have hd2 : decide (k < L) = false := decide_eq_false hlt
      have hkL : k = L := by omega
      have HTK := Lib.hid (show qs.take k = qs by rw [hkL, ← HLL.out, List.take_length])
      rw [HTK.out] at HTI
      clear hkL hlt
      go_wp2
      go_ret
      exact ⟨_, rfl, by have := HTI.out.own.mono HL.out.size; rwa [HQS.out] at this, HTI.out.env, HL.out.trans (HTI.out.low.mono HL.out.size)⟩

end Go.Proofs.YtphfefmlappidaaGreatDoor.Num

/- package fdate: the holidays of an argument, how many lie ahead of a day. Conditions: whole numbers; the tables lie as they are laid. -/
namespace Go.Proofs.YtphfefmlappidaaGreatDoor.Num
open Go.RowKit Go.Lib

/-- ints in a row of the call's own -/
def OwnI (B : Nat) (v : Value) (zs : List Int) (W : World) : Prop := W.ownsRow B 3 1 v zs.length (zs.map (Value.int .i64))
theorem info_int : ∃ i, Tryz.prog.info? 3 = some i ∧ i.zero = some (.int .i64 0) ∧ i.size = 1 ∧ i.bytes = 8 := info_parts (by kernel_rfl)
theorem OwnI.ge {B : Nat} {W : World} {v : Value} {zs : List Int} (h : OwnI B v zs W) : ∀ r, v.ownBlock = some r → B ≤ r ∧ r < W.heap.size := by
  intro r hr
  rcases h.2 with ⟨rfl, _⟩ | ⟨g, cap, cur, rfl, hb, hg, _⟩
  · simp [Value.ownBlock] at hr
  · simp [Value.ownBlock] at hr
    subst hr
    exact ⟨hb, heap_lt hg⟩
/-- what stays while the holidays are collected; the numbers lie ahead of the base -/
structure HolI (w : World) (g : Nat) (qs : List Rat) (v : Value) (zs : List Int) (W : World) : Prop where
  row : FracsAt W g qs
  env : Env W
  low : Below w.heap.size w W
  own : OwnI w.heap.size v zs W
theorem HolI.step {w W W' : World} {g : Nat} {qs : List Rat} {zs : List Int} {v : Value} (h : HolI w g qs v zs W) (hb : Below W.heap.size W W') : HolI w g qs v zs W' :=
  ⟨h.row.below hb, h.env.below hb, h.low.trans (hb.mono h.low.size), h.own.kept (only_of_below hb none) (by cases v.ownBlock <;> simp)⟩
theorem HolI.only {w W W' : World} {g P : Nat} {qs : List Rat} {zs : List Int} {v : Value} (h : HolI w g qs v zs W) (hg : W.grownBy W' (some P)) (hgP : g < w.heap.size) (hP : w.heap.size ≤ P) (hPs : Past w.heap.size) (hne : ∀ r, v.ownBlock = some r → r ≠ P) : HolI w g qs v zs W' := by
  have hother : ∀ k, k < w.heap.size → W'.heap[k]? = W.heap[k]? := fun k hk => hg.block k (Nat.lt_of_lt_of_le hk h.low.size) (fun e => by injection e; omega)
  refine ⟨fun i hi => ?_, h.env.low hother hPs hg.size, h.low.grown hg h.low.size (fun r hr => by injection hr; omega), h.own.kept hg ?_⟩
  · have := h.row i hi
    simp only [World.cell?] at this ⊢
    rw [hother g hgP]; exact this
  · cases hv : v.ownBlock with
    | none => exact .inl rfl
    | some r => right; intro e; injection e with e; exact hne r hv e
theorem HolI.push {w W W' : World} {g : Nat} {qs : List Rat} {zs : List Int} {v v' : Value} {z : Int} (h : HolI w g qs v zs W) (ho : W'.ownsRow w.heap.size 3 1 v' (zs.length + 1) (zs.map (Value.int .i64) ++ [.int .i64 z])) (hg : W.grownBy W' v.ownBlock) (hg0 : g < w.heap.size) (hE0 : Past w.heap.size) : HolI w g qs v' (zs ++ [z]) W' := by
  have hother : ∀ k, k < w.heap.size → W'.heap[k]? = W.heap[k]? := fun k hk => hg.block k (Nat.lt_of_lt_of_le hk h.low.size) (fun e => by have := (h.own.ge k e.symm).1; omega)
  refine ⟨fun i hi => ?_, h.env.low hother hE0 hg.size, h.low.grown hg h.low.size (fun r hr => (h.own.ge r hr).1), by unfold OwnI; rw [List.length_append, List.map_append]; exact ho⟩
  have := h.row i hi
  simp only [World.cell?] at this ⊢
  rw [hother g hg0]; exact this

open Go.Sort in
theorem holds_ints {w : World} {g : Nat} {cur : Array Value} {e : TypeId} {zs : List Int} (hb : w.heap[g]? = some (.cells cur e (0, 0))) (ht : cur.toList.take zs.length = zs.map (Value.int .i64)) : Holds (Value.int .i64) w g 0 zs.toArray := by
  intro j hj
  have hj' : j < zs.length := by simpa using hj
  refine ⟨?_, by simp [World.frozen?, hb]⟩
  have h1 : (cur.toList.take zs.length)[j]? = (zs.map (Value.int .i64))[j]? := by rw [ht]
  rw [List.getElem?_take_of_lt hj'] at h1
  simp only [World.cell?, hb, Nat.zero_add]
  simp only [Option.isSome_none, Bool.false_eq_true, if_false]
  rw [← Array.getElem?_toList, h1]
  simp [hj']
open Go.Sort in
theorem heap_row {w : World} {g n : Nat} {os : Array Obj} {cur : Array Value} {e : TypeId} {fr : Nat × Nat} (d : Array Int) (hb : w.heap[g]? = some (.cells cur e fr)) :
    (grow (putRow (Value.int .i64) (Sort.ahead w n) g 0 d) os).heap[g]? = some (.cells (putCells (Value.int .i64) 0 d cur) e fr) := by
  have hg : g < w.heap.size := (Array.getElem?_eq_some_iff.1 hb).1
  rw [heap_grow_old _ _ (by simpa using hg)]
  simp [putRow, mapBlock, Sort.ahead, Array.getElem?_modify, hb, onCells]
open Go.Sort in
theorem grown_row {w : World} {g n : Nat} {os : Array Obj} (d : Array Int) : w.grownBy (grow (putRow (Value.int .i64) (Sort.ahead w n) g 0 d) os) (some g) := by
  refine ⟨rfl, rfl, rfl, by simp, fun k hk hne => ?_⟩
  rw [heap_grow_old _ _ (by simpa using hk)]
  have : g ≠ k := fun e => hne (by rw [e])
  simp [putRow, mapBlock, Sort.ahead, Array.getElem?_modify, this]
open Go.Sort in
theorem take_row (cur : Array Value) (ts : List Int) (h : ts.length ≤ cur.size) : (putCells (Value.int .i64) 0 ts.toArray cur).toList.take ts.length = ts.map (Value.int .i64) := by
  apply List.ext_getElem?
  intro j
  by_cases hj : j < ts.length
  · rw [List.getElem?_take_of_lt hj, Array.getElem?_toList]
    simp [putCells, hj, show j < cur.size by omega]
  · rw [List.getElem?_take_eq_none (by omega), List.getElem?_eq_none (by simp; omega)]
/-- numbers that are only read from here on -/
def HolsAt (B : Nat) (v : Value) (zs : List Int) (W : World) : Prop := ∃ a C, v = .slice a zs.length C ∧ (zs ≠ [] → ∃ blk, a = some ⟨blk, 0, none⟩ ∧ B ≤ blk ∧ blk < W.heap.size ∧ ∀ j, j < zs.length → W.cell? ⟨blk, 0 + j, none⟩ = some (.int .i64 (zs.getD j 0)))
theorem HolsAt.below {B : Nat} {v : Value} {zs : List Int} {W W' : World} (h : HolsAt B v zs W) (hb : Below W.heap.size W W') : HolsAt B v zs W' := by
  obtain ⟨a, C, hv, h⟩ := h
  refine ⟨a, C, hv, fun hz => ?_⟩
  obtain ⟨blk, h1, h2, h3, h4⟩ := h hz
  exact ⟨blk, h1, h2, Nat.lt_of_lt_of_le h3 hb.size, fun j hj => cell_below (h4 j hj) hb⟩
/-- the tail: sorted, and equal neighbours gone -/
theorem sort_own {B : Nat} {v : Value} {zs : List Int} {w : World} (h : OwnI B v zs w) (h9 : zs.length ≤ 1000000) :
    Calls Tryz.prog 330 #[v] w fun e w' => e = .returned (.tuple #[]) ∧ OwnI B v (zs.mergeSort fun x y => decide (x ≤ y)) w' ∧ w.grownBy w' v.ownBlock := by
  by_cases hz : zs = []
  · subst hz
    obtain ⟨a, cap, rfl⟩ := owns_form h
    refine (Tryz.slices_Sort_int_none a cap w).mono ?_
    rintro e w' ⟨rfl, rfl⟩
    exact ⟨rfl, by rw [List.mergeSort_nil]; exact h, only_refl _ _⟩
  · rcases h.2 with ⟨_, h0⟩ | ⟨g, cap, cur, rfl, hb, hg, hc1, hc2, hcs, htk⟩
    · exact absurd (List.eq_nil_of_length_eq_zero h0) hz
    · rw [Nat.mul_one] at hcs htk
      refine (Tryz.slices_Sort_int g 0 cap zs w (holds_ints hg htk) (heap_lt hg) (by omega)).mono ?_
      rintro e w' ⟨rfl, n, os, rfl⟩
      refine ⟨rfl, ⟨by simp, .inr ⟨g, cap, _, by simp, hb, heap_row _ hg, by simp; exact hc1, hc2, ?_, ?_⟩⟩, grown_row _⟩
      · simp [Sort.putCells, hcs]
      · rw [Nat.mul_one]
        exact take_row cur _ (by simp; omega)
open Go.Sort in
theorem compact_own {B : Nat} {v : Value} {zs : List Int} {w : World} (h : OwnI B v zs w) (h9 : zs.length ≤ 1000000) :
    Calls Tryz.prog 331 #[v] w fun e w' => (∃ u, e = .returned u ∧ HolsAt B u (Lib.compact zs) w') ∧ w.grownBy w' v.ownBlock := by
  by_cases hz : zs = []
  · subst hz
    obtain ⟨a, cap, rfl⟩ := owns_form h
    refine (Tryz.slices_Compact_int_empty a cap w).mono ?_
    rintro e w' ⟨rfl, rfl⟩
    exact ⟨⟨_, rfl, a, cap, rfl, fun h => absurd rfl h⟩, only_refl _ _⟩
  · rcases h.2 with ⟨_, h0⟩ | ⟨g, cap, cur, rfl, hb, hg, hc1, hc2, hcs, htk⟩
    · exact absurd (List.eq_nil_of_length_eq_zero h0) hz
    · rw [Nat.mul_one] at hcs htk
      have hH := holds_ints hg htk
      refine (Tryz.slices_Compact_int g 0 cap zs w hH (by omega) hc1).mono ?_
      rintro e w' ⟨rfl, q, rfl⟩
      have hle := Lib.compact_length_le zs
      have hgr := grown_row (w := w) (g := g) (n := q) (os := #[]) (Lib.compact zs ++ List.replicate (zs.length - (Lib.compact zs).length) 0).toArray
      rw [grow_empty] at hgr
      have hhp := heap_row (w := w) (g := g) (n := q) (os := #[]) (Lib.compact zs ++ List.replicate (zs.length - (Lib.compact zs).length) 0).toArray hg
      rw [grow_empty] at hhp
      refine ⟨⟨_, rfl, _, cap, rfl, fun _ => ⟨g, rfl, hb, heap_lt hhp, fun j hj => ?_⟩⟩, hgr⟩
      rw [Lib.cell_of_heap hhp, Nat.zero_add]
      have hj2 : j < cur.size := by omega
      have hj3 : j < zs.length := by omega
      have hj4 : j < (Lib.compact zs).length + (zs.length - (Lib.compact zs).length) := by omega
      simp [putCells, hj2, List.getElem_append_left hj, List.getD, hj, hj4]
end Go.Proofs.YtphfefmlappidaaGreatDoor.Num

/- package fdate: the holidays of an argument. Conditions: whole numbers; the tables lie as they are laid. -/
namespace Go.Proofs.YtphfefmlappidaaGreatDoor.Num
open Go.RowKit Go.Lib

theorem HolsAt.mono {B B' : Nat} {v : Value} {zs : List Int} {W : World} (h : HolsAt B v zs W) (hB : B' ≤ B) : HolsAt B' v zs W := by
  obtain ⟨a, C, hv, h⟩ := h
  refine ⟨a, C, hv, fun hz => ?_⟩
  obtain ⟨blk, h1, h2, h3⟩ := h hz
  exact ⟨blk, h1, Nat.le_trans hB h2, h3⟩
theorem HolI.set {w W : World} {g P : Nat} {qs : List Rat} {zs : List Int} {v : Value} (h : HolI w g qs v zs W) (hgP : g < w.heap.size) (hP : w.heap.size ≤ P) (hPs : Past w.heap.size) (hne : ∀ r, v.ownBlock = some r → r ≠ P) (x y : Value) : HolI w g qs v zs ((W.setCell ⟨P, 0, none⟩ x).setCell ⟨P, 1, none⟩ y) :=
  h.only (only_setCell (p := ⟨P, 1, none⟩) (only_setCell (p := ⟨P, 0, none⟩) (only_refl W (some P)) (.inl rfl) x) (.inl rfl) y) hgP hP hPs hne

set_option linter.unusedSimpArgs false in
set_option linter.unusedVariables false in
set_option maxHeartbeats 8000000 in
set_option maxRecDepth 100000 in
theorem holidays_any (ms : List Int) (b g L C n : Nat) (r s : Int) (gi Ci : Nat) (W : World) (h : ArgsAt W b (some ⟨g, 0, none⟩) L C n) (hn : n < L) (hL : L ≤ 1000000000) (hne : g ≠ b) (hgi : gi ≠ b)
    (hc : CellsAt W g (0 + n * 9) (.int .i64 5) (.string { data := #[] }) (.string { data := #[] }) (.string { data := #[] }) (.bool false) (.int .i64 0) (.int .i64 r) (.int .i64 s) (.slice (some ⟨gi, 0, none⟩) ms.length Ci)) (h0 : 0 < ms.length) (h9 : ms.length ≤ 1000) (hms : ∀ m ∈ ms, 1 ≤ m ∧ m ≤ 2958464)
    (hv : ValsAt W gi 0 (numVals (ms.map fun m => ((m : Int) : Rat)))) (hE : Env W) (hP : Past b) :
    Calls Tryz.prog 283 #[.pointer (some ⟨b, 0, none⟩)] W fun e w' => (∃ v, e = .returned v ∧ HolsAt W.heap.size v (holsR ms) w') ∧ W.grownBy w' (some b) := by
  obtain ⟨qs, hqs⟩ : ∃ qs, ms.map (fun m => ((m : Int) : Rat)) = qs := ⟨_, rfl⟩
  have hql : qs.length = ms.length := by rw [← hqs, List.length_map]
  have TV := Lib.hid (fun W' a c => value_any b g 0 L C n 5 { data := #[] } { data := #[] } { data := #[] } false 0 r s (some ⟨gi, 0, none⟩) ms.length Ci W' a hn hL hne c)
  have TI := Lib.hid (fun W' hv hE => inside_arr qs r s gi Ci W' (by omega) (by omega) hv hE)
  rw [hqs] at hv
  rw [hql] at TI
  have hgl : gi < W.heap.size := cell_lt (hv.at 0 (by rw [numVals_len]; omega)).1
  have HA := Lib.hid h
  have HC := Lib.hid hc
  have HV := Lib.hid hv
  have HE := Lib.hid hE
  have HP := Lib.hid hP
  have HGI := Lib.hid hgi
  have HGL := Lib.hid hgl
  have HQS := Lib.hid hqs
  have HMS := Lib.hid hms
  have HQL := Lib.hid hql
  obtain ⟨M, hM⟩ : ∃ M, ms.length = M := ⟨_, rfl⟩
  have HM := Lib.hid hM
  rw [hM] at TV TI h0 h9
  obtain ⟨i0, hi0', hz0, hz1, hz2⟩ := info_int
  clear h hc hv hE hn hL hne hP hgi hgl hqs hms hql hM
  go_enter Tryz.func283, Tryz.ntmps283
  go_wp2_with fail
  refine (TV.out _ HA.out (by rw [← HM.out]; exact HC.out)).mono ?_
  rintro e W1 ⟨rfl, ha, hg⟩
  have HV1 := Lib.hid (vals_other HV.out (hg.block gi HGL.out (fun e => HGI.out (Option.some.inj e))))
  have HE1 := Lib.hid (HE.out.kept hg HP.out)
  have HG := Lib.hid hg
  clear ha hg HA HC HV
  go_wp2_with fail
  refine (TI.out _ HV1.out HE1.out).mono ?_
  rintro e W2 ⟨fv, rfl, hown, hE2, hb⟩
  obtain ⟨gF, capF, rfl, hgF, _, hfr⟩ := hown.at (by rw [HQL.out, HM.out]; exact h0)
  rw [HQL.out, HM.out]
  replace HG := Lib.hid (kept_trans HG.out (kept_below hb))
  have HGF := Lib.hid (show gF < W2.heap.size from cell_lt (hfr 0 (by rw [HQL.out, HM.out]; exact h0)).1)
  have HPS := Lib.hid hE2.room
  have HI0 := Lib.hid (show HolI W2 gF qs (.slice none 0 0) [] W2 from ⟨hfr, hE2, Below.refl _ _, World.ownsRow_nil _ _ _ _⟩)
  clear hown hE2 hb hfr hgF HV1 HE1
  go_wp2_with fail
  go_loopg [3, 13] M (fun gh v3 v13 wx => ∃ k : Nat, v13 = .int .i64 (k : Int) ∧ k ≤ M ∧ gh = M - k ∧ HolI W2 gF qs v3 ((ms.take k).filter holB) wx)
  case atStart => exact ⟨0, rfl, Nat.zero_le _, rfl, HI0.out⟩
  case round =>
    clear HI0
    obtain ⟨k, rfl, hk, rfl, hti⟩ := hrel
    have HTI := Lib.hid hti
    clear hti
    by_cases hlt : k < M
    · have hd : decide ((k : Int) < (M : Int)) = true := decide_eq_true (by omega)
      have hd2 : decide (k < M) = true := decide_eq_true hlt
      have hkm : k < ms.length := by rw [HM.out]; exact hlt
      have hkq : k < qs.length := by rw [HQL.out]; exact hkm
      obtain ⟨m, hmm⟩ : ∃ m, ms[k] = m := ⟨_, rfl⟩
      have hqk : qs[k] = ((m : Int) : Rat) := by
        have h1 : qs[k] = (ms.map fun m => ((m : Int) : Rat))[k]'(by rw [List.length_map]; exact hkm) := by congr 1; exact HQS.out.symm
        rw [h1, List.getElem_map, hmm]
      have hmr : 1 ≤ m ∧ m ≤ 2958464 := by rw [← hmm]; exact HMS.out _ (List.getElem_mem hkm)
      have HTK := Lib.hid (show (ms.take (k + 1)).filter holB = (ms.take k).filter holB ++ (if holB m then [m] else []) by
        rw [List.take_succ_eq_append_getElem hkm, List.filter_append, hmm]
        congr 1
        by_cases hh : holB m <;> simp [hh])
      have hlen : ((ms.take k).filter holB).length ≤ k := Nat.le_trans (List.length_filter_le _ _) (by simp; omega)
      obtain ⟨c0, c1⟩ := HTI.out.row k hkq
      rw [hqk] at c0 c1
      obtain ⟨q, hq⟩ : ∃ q : Rat, ((m : Int) : Rat) = q := ⟨_, rfl⟩
      have TF := Lib.hid (fun W g => floor_any ((m : Int) : Rat) W (fits_int m (by omega)) g)
      rw [Rat.floor_intCast, wroteV_ok (fits_int m (by omega))] at TF
      have TN := Lib.hid (fun W => int_ok m W (by omega))
      rw [hq] at c0 c1 TF TN
      rw [fracV_is q] at TF TN
      have hi0 : (0 : Int) ≤ (k : Int) := by omega
      have hi1 : (k : Int) < (M : Int) := by omega
      obtain ⟨W3, hW3⟩ : ∃ W3, wr.alloc (.cells #[.string (numS q), .string (denS q)] 23) = W3 := ⟨_, rfl⟩
      have hbx : Below wr.heap.size wr W3 := by rw [← hW3]; exact (Below.refl _ _).alloc (Nat.le_refl _) _
      have HB := Lib.hid (show W3.heap[wr.heap.size]? = some (.cells #[.string (numS q), .string (denS q)] 23 (0, 0)) by rw [← hW3]; exact heap_alloc_new wr _)
      have HT3 := Lib.hid (HTI.out.step hbx)
      have HOWN := Lib.hid (fun (x : Nat) (hx : _) => Nat.ne_of_lt (HTI.out.own.ge x hx).2)
      have HLW := Lib.hid HTI.out.low.size
      have EW3 := Lib.hid hW3
      clear hW3 hbx hkm hkq hmm hqk hq
      go_wp2_with fail
      rw [EW3.out]
      refine (TF.out _ HT3.out.env.tab).mono ?_
      rintro e W4 ⟨rfl, hb⟩
      have HB4 := Lib.hid (keep_block HB.out hb)
      have HT4 := Lib.hid (HT3.out.step hb)
      clear hb c0 c1 HT3 HB
      obtain ⟨⟨y0, y1⟩, g0, g1⟩ := two_at HB4.out
      have HT5 := Lib.hid (HT4.out.set HGF.out HLW.out HPS.out (fun r hr => HOWN.out r hr) (.string (numS q)) (.string (denS q)))
      have HB5 := Lib.hid (set2_at HB4.out (.string (numS q)) (.string (denS q)))
      obtain ⟨⟨z0, z1⟩, _⟩ := two_at HB5.out
      obtain ⟨W5, hW5⟩ : ∃ W5, ((W4.setCell ⟨wr.heap.size, 0, none⟩ (.string (numS q))).setCell ⟨wr.heap.size, 1, none⟩ (.string (denS q))) = W5 := ⟨_, rfl⟩
      rw [hW5] at HT5
      have EW5 := Lib.hid hW5
      clear hW5 HB5 HT4 HB4
      go_wp2_with fail
      rw [EW5.out]
      refine (TN.out _).mono ?_
      rintro e W6 ⟨rfl, hb⟩
      have HT6 := Lib.hid (HT5.out.step hb)
      clear hb z0 z1 y0 y1 g0 g1 HT5
      have hw7 : m.tmod 7 = m % 7 := Int.tmod_eq_emod_of_nonneg (by omega)
      have t1 : decide (1 ≤ m) = true := decide_eq_true hmr.1
      have t2 : decide (m ≤ 2958464) = true := decide_eq_true hmr.2
      have hh : holB m = (decide (m % 7 ≠ 0) && decide (m % 7 ≠ 6)) := by unfold holB; rw [t1, t2]; rfl
      by_cases h7 : m % 7 = 0
      · rw [hh, decide_eq_false (by omega : ¬ m % 7 ≠ 0), Bool.false_and, if_neg (by decide), List.append_nil] at HTK
        rw [← HTK.out] at HT6
        clear hh
        go_wp2
        go_roundg (M - (k + 1))
        case measure => omega
        case rel => exact ⟨k + 1, by go_num, by omega, by omega, HT6.out⟩
      · have t3 : (m % 7 == 0) = false := beq_eq_false_iff_ne.2 h7
        by_cases h6 : m % 7 = 6
        · rw [hh, decide_eq_false (by omega : ¬ m % 7 ≠ 6), Bool.and_false, if_neg (by decide), List.append_nil] at HTK
          rw [← HTK.out] at HT6
          clear h7 hh t3
          go_wp2
          go_roundg (M - (k + 1))
          case measure => omega
          case rel => exact ⟨k + 1, by go_num, by omega, by omega, HT6.out⟩
        · rw [hh, decide_eq_true h7, decide_eq_true h6, Bool.and_true, if_pos rfl] at HTK
          have t4 : (m % 7 == 6) = false := beq_eq_false_iff_ne.2 h6
          have t5 : (m % 7 != 0) = true := bne_iff_ne.2 h7
          have t6 : (m % 7 != 6) = true := bne_iff_ne.2 h6
          have t7 : decide (m % 7 = 0) = false := decide_eq_false h7
          have t8 : decide (m % 7 = 6) = false := decide_eq_false h6
          clear hh
          have hown := HT6.out.own
          unfold OwnI at hown
          obtain ⟨av, cv, hu⟩ := owns_form hown
          subst hu
          have HOW := Lib.hid hown
          obtain ⟨N, hN⟩ : ∃ N, ((ms.take k).filter holB).length = N := ⟨_, rfl⟩
          rw [hN] at HOW hlen ⊢
          have HN := Lib.hid hN
          clear hown hN
          have hml : N + 1 ≤ maxLen := by unfold maxLen; omega
          have HNW := Lib.hid (World.news_of_block (cs := #[.int .i64 m]) (t := 3) (fr := (0, 0)) (heap_alloc_new W6 (.cells #[.int .i64 m] 3)))
          have HT7 := Lib.hid (HT6.out.step ((Below.refl W6.heap.size W6).alloc (Nat.le_refl _) (.cells #[.int .i64 m] 3)))
          have hown := HT7.out.own
          unfold OwnI at hown
          rw [HN.out] at hown
          have HOW7 := Lib.hid hown
          have HBS := Lib.hid (show W2.heap.size ≤ (W6.alloc (.cells #[.int .i64 m] 3)).heap.size from HT7.out.low.size)
          clear hown HOW
          go_wp2_with (at_builtin; refine wpList_append_own _ rfl _ _ 37 rfl W2.heap.size 3 i0 _ 1 8 Tryz.underlying37 hi0' hz0 hz1 hz2 rfl (by decide) (.slice av N cv) N (((ms.take k).filter holB).map (Value.int .i64)) rfl HOW7.out ⟨W6.heap.size, 0, none⟩ 1 1 [.int .i64 m] rfl rfl HNW.out (by simp [Value.oneCell']) hml (by omega) HBS.out ?_)
          intro v5 w5 hown5 hgrow5 _
          have HT8 := Lib.hid (HT7.out.push (by rw [HN.out]; exact hown5) (by rw [HN.out]; exact hgrow5) HGF.out HPS.out)
          rw [← HTK.out] at HT8
          clear hown5 hgrow5
          go_wp2
          go_roundg (M - (k + 1))
          case measure => omega
          case rel => exact ⟨k + 1, by go_num, by omega, by omega, HT8.out⟩
    · have hd : decide ((k : Int) < (M : Int)) = false := decide_eq_false (by omega)
      have hd2 : decide (k < M) = false := decide_eq_false hlt
      have hkM : k = M := by omega
      have HTK := Lib.hid (show ms.take k = ms by rw [hkM, ← HM.out, List.take_length])
      rw [HTK.out] at HTI
      have hlf : (ms.filter holB).length ≤ 1000 := Nat.le_trans (List.length_filter_le _ _) (by rw [HM.out]; exact h9)
      have TS := Lib.hid (sort_own HTI.out.own (by omega))
      have HLO := Lib.hid HTI.out.low
      have HGE := Lib.hid (fun x hx => (HTI.out.own.ge x hx).1)
      have HLF := Lib.hid hlf
      clear hkM hlt hlf
      go_wp2_with fail
      refine TS.out.mono ?_
      rintro e W3 ⟨rfl, hown, hg⟩
      have TC := Lib.hid (compact_own hown (by rw [List.length_mergeSort]; exact Nat.le_trans HLF.out (by decide)))
      have HL3 := Lib.hid (HLO.out.grown hg HLO.out.size (fun r hr => HGE.out r hr))
      clear hown hg
      go_wp2_with fail
      refine TC.out.mono ?_
      rintro e W4 ⟨⟨u, rfl, hh⟩, hg⟩
      have HL4 := Lib.hid (HL3.out.grown hg HL3.out.size (fun r hr => HGE.out r hr))
      go_wp2
      go_ret
      exact ⟨⟨_, rfl, hh.mono HG.out.size⟩, kept_trans HG.out (kept_below HL4.out)⟩
end Go.Proofs.YtphfefmlappidaaGreatDoor.Num

/- package fdate: weekdays, free, NETWORKDAYS, WORKDAY over their arguments. Conditions: whole numbers; the tables lie as they are laid. -/
namespace Go.Proofs.YtphfefmlappidaaGreatDoor.Num
open Go.RowKit Go.Lib

theorem vals_kept2 {W W' : World} {g b : Nat} {vs : List Val} (h : ValsAt W g 0 vs) (hg : W.grownBy W' (some b)) (hne : g ≠ b) (hlt : g < W.heap.size) : ValsAt W' g 0 vs :=
  vals_other h (hg.block g hlt (fun e => hne (Option.some.inj e)))
set_option linter.unusedSimpArgs false in
set_option linter.unusedVariables false in
set_option maxHeartbeats 4000000 in
set_option maxRecDepth 100000 in
theorem weekdays_any (n : Int) (w : World) (h0 : 0 ≤ n) (h1 : n ≤ 10000000) : Calls Tryz.prog 284 #[.int .i64 n] w fun e w' => e = .returned (.int .i64 (weekdaysR n)) ∧ w' = w := by
  unfold weekdaysR
  go_enter Tryz.func284, Tryz.ntmps284
  go_wp2
  go_ret
  exact ⟨by first | rfl | (congr 2; omega), rfl⟩

/-- how many holidays are not after a day -/
def freeR (zs : List Int) (n : Int) : Int := (zs.countP (fun x => decide (x ≤ n)) : Nat)
theorem freeR_bounds (zs : List Int) (n : Int) (h9 : zs.length ≤ 1000000) : 0 ≤ freeR zs n ∧ freeR zs n ≤ 1000000 := by
  unfold freeR
  have := List.countP_le_length (p := fun x => decide (x ≤ n)) (l := zs)
  omega
theorem weekdaysR_bounds (n : Int) (h0 : 0 ≤ n) (h1 : n ≤ 10000000) : 0 ≤ weekdaysR n ∧ weekdaysR n ≤ 10000000 := by unfold weekdaysR; omega
set_option linter.unusedSimpArgs false in
set_option linter.unusedVariables false in
set_option maxHeartbeats 4000000 in
set_option maxRecDepth 100000 in
theorem free_any (B : Nat) (v : Value) (zs : List Int) (n : Int) (w : World) (h : HolsAt B v zs w) (hs : zs.Pairwise (· < ·)) (h9 : zs.length ≤ 1000000) (h0 : 0 ≤ n) (h1 : n ≤ 10000000) : Calls Tryz.prog 285 #[v, .int .i64 n] w fun e w' => e = .returned (.int .i64 (freeR zs n)) ∧ Below w.heap.size w w' := by
  have TB : ∀ W, HolsAt B v zs W → Calls Tryz.prog 332 #[v, .int .i64 (n + 1)] W fun e w' => (∃ t, e = .returned (.tuple #[.int .i64 (freeR zs n), .bool t])) ∧ Below W.heap.size W w' := by
    intro W h
    obtain ⟨a, C, rfl, hc⟩ := h
    by_cases hz : zs = []
    · subst hz
      refine (Tryz.slices_BinarySearch_int_empty a C (n + 1) W).mono ?_
      rintro e w' ⟨rfl, rfl⟩
      exact ⟨⟨_, rfl⟩, Below.refl _ _⟩
    · obtain ⟨blk, rfl, _, _, hcell⟩ := hc hz
      refine (Tryz.slices_BinarySearch_int blk 0 zs.length C zs (n + 1) W (Nat.le_refl _) (by omega) hcell (by rw [List.take_length]; exact hs.imp (fun h => by omega))).mono ?_
      rintro e w' ⟨rfl, q, rfl⟩
      refine ⟨⟨(zs.take zs.length).contains (n + 1), ?_⟩, below_none (only_drewN (only_refl W none) q)⟩
      rw [List.take_length]
      have e1 : zs.countP (fun x => decide (x < n + 1)) = zs.countP (fun x => decide (x ≤ n)) := by
        apply List.countP_congr
        intro x _
        simp only [decide_eq_true_eq]
        omega
      rw [e1]; rfl
  have HT := Lib.hid (TB w h)
  obtain ⟨a, C, rfl, _⟩ := h
  obtain ⟨L, hL⟩ : ∃ L, zs.length = L := ⟨_, rfl⟩
  rw [hL] at HT ⊢
  clear TB hL hs
  go_enter Tryz.func285, Tryz.ntmps285
  go_wp2_with fail
  refine HT.out.mono ?_
  rintro e w1 ⟨⟨t, rfl⟩, hb⟩
  go_wp2
  go_ret
  exact ⟨rfl, hb⟩

set_option linter.unusedSimpArgs false in
set_option linter.unusedVariables false in
set_option maxHeartbeats 4000000 in
set_option maxRecDepth 100000 in
theorem fd_NETUP (b g C : Nat) (W : World) (q0 q1 : Rat) (p q r s : Int) (gi Ci : Nat) (ms : List Int) (hq0 : fits q0 = true) (hN0 : q0.floor = p) (hq1 : fits q1 = true) (hN1 : q1.floor = q) (hgi : gi ≠ b) (h0 : 0 < ms.length) (h9 : ms.length ≤ 1000) (hms : ∀ m ∈ ms, 1 ≤ m ∧ m ≤ 2958464) (hv : ValsAt W gi 0 (numVals (ms.map fun m => ((m : Int) : Rat)))) (ha : ArgsAt W b (some ⟨g, 0, none⟩) 3 C 0) (hne : g ≠ b) (hc0 : NumCells W g (0 + 0 * 9) q0) (hc1 : NumCells W g (0 + 1 * 9) q1) (hc2 : CellsAt W g (0 + 2 * 9) (.int .i64 5) (.string { data := #[] }) (.string { data := #[] }) (.string { data := #[] }) (.bool false) (.int .i64 0) (.int .i64 r) (.int .i64 s) (.slice (some ⟨gi, 0, none⟩) ms.length Ci)) (hE : Env W) (hP : Past b) (hpq : p ≤ q) (h1 : 1 ≤ p) (h2 : q ≤ 2958464) :
    Calls Tryz.prog 179 #[.pointer (some ⟨b, 0, none⟩)] W fun e w' => e = .returned (.int .i64 ((countR (holsR ms) q - countR (holsR ms) (p - 1)))) ∧ W.grownBy w' (some b) := by
  have T0 := Lib.hid (fun W' a c e => fd_day b g 3 C 0 q0 p W' a (by decide) (by decide) hne c hq0 hN0 (by omega) (by omega) e hP)
  have T1 := Lib.hid (fun W' a c e => fd_day b g 3 C 1 q1 q W' a (by decide) (by decide) hne c hq1 hN1 (by omega) (by omega) e hP)
  have T2 := Lib.hid (fun W' a c hv e => holidays_any ms b g 3 C 2 r s gi Ci W' a (by decide) (by decide) hne hgi c h0 h9 hms hv e hP)
  have hF := hols_free ms
  have hl9 : (holsR ms).length ≤ 1000000 := Nat.le_trans (hols_len ms) (by omega)
  obtain ⟨zs, hzs⟩ : ∃ zs, holsR ms = zs := ⟨_, rfl⟩
  rw [hzs] at T2 hF hl9 ⊢
  have TFr := Lib.hid (fun B v n W h h0 h1 => free_any B v zs n W h hF.ord hl9 h0 h1)
  have HV := Lib.hid hv
  have HGL := Lib.hid (show gi < W.heap.size from cell_lt (hv.at 0 (by rw [numVals_len, List.length_map]; exact h0)).1)
  have HGI := Lib.hid hgi
  have HA := Lib.hid ha
  have HE := Lib.hid hE
  have HP := Lib.hid hP
  have NG := Lib.hid hne
  have HG := Lib.hid (only_refl W (some b))
  have HC0 := Lib.hid hc0
  have HC1 := Lib.hid hc1
  have HC2 := Lib.hid hc2
  have hres : (countR zs q - countR zs (p - 1)) = (weekdaysR q - weekdaysR (p - 1) - freeR zs q + freeR zs (p - 1)) := by unfold countR freeR; omega
  rw [hres]
  have b1 := weekdaysR_bounds q (by omega) (by omega)
  have b2 := weekdaysR_bounds (p - 1) (by omega) (by omega)
  have b3 := freeR_bounds zs q hl9
  have b4 := freeR_bounds zs (p - 1) hl9
  have TW1 := Lib.hid (fun W => weekdays_any q W (by omega) (by omega))
  have TW2 := Lib.hid (fun W => weekdays_any (p - 1) W (by omega) (by omega))
  have TF1 := Lib.hid (fun B v W h => TFr.out B v q W h (by omega) (by omega))
  have TF2 := Lib.hid (fun B v W h => TFr.out B v (p - 1) W h (by omega) (by omega))
  obtain ⟨wa, hwa⟩ : ∃ z, weekdaysR q = z := ⟨_, rfl⟩
  obtain ⟨wb, hwb⟩ : ∃ z, weekdaysR (p - 1) = z := ⟨_, rfl⟩
  obtain ⟨fa, hfa⟩ : ∃ z, freeR zs q = z := ⟨_, rfl⟩
  obtain ⟨fb, hfb⟩ : ∃ z, freeR zs (p - 1) = z := ⟨_, rfl⟩
  rw [hwa] at TW1 b1 ⊢
  rw [hwb] at TW2 b2 ⊢
  rw [hfa] at TF1 b3 ⊢
  rw [hfb] at TF2 b4 ⊢
  have dlt : decide (q < p) = false := by exact decide_eq_false (by omega)
  clear ha hE hP hne hc0 hc1 hc2 hq0 hN0 hq1 hN1 hgi hv hzs hF hl9 h9 hms h0 TFr hres hwa hwb hfa hfb
  go_enter Tryz.func179, Tryz.ntmps179
  go_wp2_with fail
  refine (T0.out _ HA.out HC0.out HE.out).mono ?_
  rintro e W1 ⟨rfl, ha, hg⟩
  replace HA := Lib.hid ha
  replace HE := Lib.hid (HE.out.kept hg HP.out)
  replace HV := Lib.hid (vals_kept2 HV.out hg HGI.out (Nat.lt_of_lt_of_le HGL.out HG.out.size))
  replace HG := Lib.hid (kept_trans HG.out hg)
  replace HC0 := Lib.hid (HC0.out.kept hg NG.out)
  replace HC1 := Lib.hid (HC1.out.kept hg NG.out)
  replace HC2 := Lib.hid (HC2.out.kept hg NG.out)
  clear ha hg
  go_wp2_with fail
  refine (T1.out _ HA.out HC1.out HE.out).mono ?_
  rintro e W2 ⟨rfl, ha, hg⟩
  replace HA := Lib.hid ha
  replace HE := Lib.hid (HE.out.kept hg HP.out)
  replace HV := Lib.hid (vals_kept2 HV.out hg HGI.out (Nat.lt_of_lt_of_le HGL.out HG.out.size))
  replace HG := Lib.hid (kept_trans HG.out hg)
  replace HC0 := Lib.hid (HC0.out.kept hg NG.out)
  replace HC1 := Lib.hid (HC1.out.kept hg NG.out)
  replace HC2 := Lib.hid (HC2.out.kept hg NG.out)
  clear ha hg
  go_wp2_with fail
  refine (T2.out _ HA.out HC2.out HV.out HE.out).mono ?_
  rintro e W3 ⟨⟨v, rfl, hh⟩, hg⟩
  have HH := Lib.hid hh
  replace HG := Lib.hid (kept_trans HG.out hg)
  clear hh hg
  go_wp2_with fail
  refine (TW1.out _).mono ?_
  rintro e W4 ⟨rfl, rfl⟩
  go_wp2_with fail
  refine (TW2.out _).mono ?_
  rintro e W5 ⟨rfl, rfl⟩
  go_wp2_with fail
  refine (TF1.out _ _ _ HH.out).mono ?_
  rintro e W6 ⟨rfl, hb⟩
  replace HG := Lib.hid (kept_trans HG.out (kept_below hb))
  replace HH := Lib.hid (HH.out.below hb)
  clear hb
  go_wp2_with fail
  refine (TF2.out _ _ _ HH.out).mono ?_
  rintro e W7 ⟨rfl, hb⟩
  replace HG := Lib.hid (kept_trans HG.out (kept_below hb))
  replace HH := Lib.hid (HH.out.below hb)
  clear hb
  go_wp2
  go_ret
  exact ⟨by first | rfl | (congr 2; omega), HG.out⟩

set_option linter.unusedSimpArgs false in
set_option linter.unusedVariables false in
set_option maxHeartbeats 4000000 in
set_option maxRecDepth 100000 in
theorem fd_NETDOWN (b g C : Nat) (W : World) (q0 q1 : Rat) (p q r s : Int) (gi Ci : Nat) (ms : List Int) (hq0 : fits q0 = true) (hN0 : q0.floor = p) (hq1 : fits q1 = true) (hN1 : q1.floor = q) (hgi : gi ≠ b) (h0 : 0 < ms.length) (h9 : ms.length ≤ 1000) (hms : ∀ m ∈ ms, 1 ≤ m ∧ m ≤ 2958464) (hv : ValsAt W gi 0 (numVals (ms.map fun m => ((m : Int) : Rat)))) (ha : ArgsAt W b (some ⟨g, 0, none⟩) 3 C 0) (hne : g ≠ b) (hc0 : NumCells W g (0 + 0 * 9) q0) (hc1 : NumCells W g (0 + 1 * 9) q1) (hc2 : CellsAt W g (0 + 2 * 9) (.int .i64 5) (.string { data := #[] }) (.string { data := #[] }) (.string { data := #[] }) (.bool false) (.int .i64 0) (.int .i64 r) (.int .i64 s) (.slice (some ⟨gi, 0, none⟩) ms.length Ci)) (hE : Env W) (hP : Past b) (hpq : q < p) (h1 : 1 ≤ q) (h2 : p ≤ 2958464) :
    Calls Tryz.prog 179 #[.pointer (some ⟨b, 0, none⟩)] W fun e w' => e = .returned (.int .i64 (-(countR (holsR ms) p - countR (holsR ms) (q - 1)))) ∧ W.grownBy w' (some b) := by
  have T0 := Lib.hid (fun W' a c e => fd_day b g 3 C 0 q0 p W' a (by decide) (by decide) hne c hq0 hN0 (by omega) (by omega) e hP)
  have T1 := Lib.hid (fun W' a c e => fd_day b g 3 C 1 q1 q W' a (by decide) (by decide) hne c hq1 hN1 (by omega) (by omega) e hP)
  have T2 := Lib.hid (fun W' a c hv e => holidays_any ms b g 3 C 2 r s gi Ci W' a (by decide) (by decide) hne hgi c h0 h9 hms hv e hP)
  have hF := hols_free ms
  have hl9 : (holsR ms).length ≤ 1000000 := Nat.le_trans (hols_len ms) (by omega)
  obtain ⟨zs, hzs⟩ : ∃ zs, holsR ms = zs := ⟨_, rfl⟩
  rw [hzs] at T2 hF hl9 ⊢
  have TFr := Lib.hid (fun B v n W h h0 h1 => free_any B v zs n W h hF.ord hl9 h0 h1)
  have HV := Lib.hid hv
  have HGL := Lib.hid (show gi < W.heap.size from cell_lt (hv.at 0 (by rw [numVals_len, List.length_map]; exact h0)).1)
  have HGI := Lib.hid hgi
  have HA := Lib.hid ha
  have HE := Lib.hid hE
  have HP := Lib.hid hP
  have NG := Lib.hid hne
  have HG := Lib.hid (only_refl W (some b))
  have HC0 := Lib.hid hc0
  have HC1 := Lib.hid hc1
  have HC2 := Lib.hid hc2
  have hres : -(countR zs p - countR zs (q - 1)) = -(weekdaysR p - weekdaysR (q - 1) - freeR zs p + freeR zs (q - 1)) := by unfold countR freeR; omega
  rw [hres]
  have b1 := weekdaysR_bounds p (by omega) (by omega)
  have b2 := weekdaysR_bounds (q - 1) (by omega) (by omega)
  have b3 := freeR_bounds zs p hl9
  have b4 := freeR_bounds zs (q - 1) hl9
  have TW1 := Lib.hid (fun W => weekdays_any p W (by omega) (by omega))
  have TW2 := Lib.hid (fun W => weekdays_any (q - 1) W (by omega) (by omega))
  have TF1 := Lib.hid (fun B v W h => TFr.out B v p W h (by omega) (by omega))
  have TF2 := Lib.hid (fun B v W h => TFr.out B v (q - 1) W h (by omega) (by omega))
  obtain ⟨wa, hwa⟩ : ∃ z, weekdaysR p = z := ⟨_, rfl⟩
  obtain ⟨wb, hwb⟩ : ∃ z, weekdaysR (q - 1) = z := ⟨_, rfl⟩
  obtain ⟨fa, hfa⟩ : ∃ z, freeR zs p = z := ⟨_, rfl⟩
  obtain ⟨fb, hfb⟩ : ∃ z, freeR zs (q - 1) = z := ⟨_, rfl⟩
  rw [hwa] at TW1 b1 ⊢
  rw [hwb] at TW2 b2 ⊢
  rw [hfa] at TF1 b3 ⊢
  rw [hfb] at TF2 b4 ⊢
  have dlt : decide (q < p) = true := by exact decide_eq_true hpq
  clear ha hE hP hne hc0 hc1 hc2 hq0 hN0 hq1 hN1 hgi hv hzs hF hl9 h9 hms h0 TFr hres hwa hwb hfa hfb
  go_enter Tryz.func179, Tryz.ntmps179
  go_wp2_with fail
  refine (T0.out _ HA.out HC0.out HE.out).mono ?_
  rintro e W1 ⟨rfl, ha, hg⟩
  replace HA := Lib.hid ha
  replace HE := Lib.hid (HE.out.kept hg HP.out)
  replace HV := Lib.hid (vals_kept2 HV.out hg HGI.out (Nat.lt_of_lt_of_le HGL.out HG.out.size))
  replace HG := Lib.hid (kept_trans HG.out hg)
  replace HC0 := Lib.hid (HC0.out.kept hg NG.out)
  replace HC1 := Lib.hid (HC1.out.kept hg NG.out)
  replace HC2 := Lib.hid (HC2.out.kept hg NG.out)
  clear ha hg
  go_wp2_with fail
  refine (T1.out _ HA.out HC1.out HE.out).mono ?_
  rintro e W2 ⟨rfl, ha, hg⟩
  replace HA := Lib.hid ha
  replace HE := Lib.hid (HE.out.kept hg HP.out)
  replace HV := Lib.hid (vals_kept2 HV.out hg HGI.out (Nat.lt_of_lt_of_le HGL.out HG.out.size))
  replace HG := Lib.hid (kept_trans HG.out hg)
  replace HC0 := Lib.hid (HC0.out.kept hg NG.out)
  replace HC1 := Lib.hid (HC1.out.kept hg NG.out)
  replace HC2 := Lib.hid (HC2.out.kept hg NG.out)
  clear ha hg
  go_wp2_with fail
  refine (T2.out _ HA.out HC2.out HV.out HE.out).mono ?_
  rintro e W3 ⟨⟨v, rfl, hh⟩, hg⟩
  have HH := Lib.hid hh
  replace HG := Lib.hid (kept_trans HG.out hg)
  clear hh hg
  go_wp2_with fail
  refine (TW1.out _).mono ?_
  rintro e W4 ⟨rfl, rfl⟩
  go_wp2_with fail
  refine (TW2.out _).mono ?_
  rintro e W5 ⟨rfl, rfl⟩
  go_wp2_with fail
  refine (TF1.out _ _ _ HH.out).mono ?_
  rintro e W6 ⟨rfl, hb⟩
  replace HG := Lib.hid (kept_trans HG.out (kept_below hb))
  replace HH := Lib.hid (HH.out.below hb)
  clear hb
  go_wp2_with fail
  refine (TF2.out _ _ _ HH.out).mono ?_
  rintro e W7 ⟨rfl, hb⟩
  replace HG := Lib.hid (kept_trans HG.out (kept_below hb))
  replace HH := Lib.hid (HH.out.below hb)
  clear hb
  go_wp2
  go_ret
  exact ⟨by first | rfl | (congr 2; omega), HG.out⟩

end Go.Proofs.YtphfefmlappidaaGreatDoor.Num

/- package fdate: the working days that are not after a day. Conditions: holidays in order. -/
namespace Go.Proofs.YtphfefmlappidaaGreatDoor.Num
open Go.RowKit Go.Lib

set_option linter.unusedVariables false in
/-- what the operations of region 1 yield -/
def CntKs1 (w : World) (B : Nat) (v : Value) (d wa fa : Int) : List RK :=
  [.pure (.int .i64 d),
   .pure (.int .i64 wa),
   .pure (v),
   .pure (.int .i64 d),
   .pure (.int .i64 fa),
   .pure (.int .i64 (wa - fa)),
   .pure (.int .i64 (wa - fa))]
set_option linter.unusedSimpArgs false in
set_option linter.unusedVariables false in
set_option maxHeartbeats 4000000 in
set_option maxRecDepth 100000 in
theorem count_any (B B0 : Nat) (v : Value) (zs : List Int) (d : Int) (w : World) (hB : w.heap[B]? = some (.cells #[v] 37 (0, 0))) (h : HolsAt B0 v zs w) (hF : Free zs) (h9 : zs.length ≤ 1000000) (h0 : 0 ≤ d) (h1 : d ≤ 10000000) :
    Calls Tryz.prog 286 #[.int .i64 d, .pointer (some ⟨B, 0, none⟩)] w fun e w' => e = .returned (.int .i64 (countR zs d)) ∧ Below w.heap.size w w' := by
  have TW := Lib.hid (fun W => weekdays_any d W h0 h1)
  have TF := Lib.hid (fun W h => free_any B0 v zs d W h hF.ord h9 h0 h1)
  have b1 := weekdaysR_bounds d h0 h1
  have b2 := freeR_bounds zs d h9
  have hres : countR zs d = weekdaysR d - freeR zs d := rfl
  rw [hres]
  obtain ⟨wa, hwa⟩ : ∃ z, weekdaysR d = z := ⟨_, rfl⟩
  obtain ⟨fa, hfa⟩ : ∃ z, freeR zs d = z := ⟨_, rfl⟩
  rw [hwa] at TW b1 ⊢
  rw [hfa] at TF b2 ⊢
  have HB := Lib.hid hB
  have HH := Lib.hid h
  have hw1 : IntKind.i64.wrap (wa - fa) = wa - fa := IntWalk.i64_in _ (by omega)
  clear hB h hF h9 hwa hfa hres
  go_enter Tryz.func286, Tryz.ntmps286
  go_wp2_with fail
  have hok : okB 7 (CntKs1 w B v d wa fa) = true := by kernel_rfl
  have hna := noAny_of (ks := (CntKs1 w B v d wa fa)) (by kernel_rfl)
  have hla := lasts_of hna
  refine wp_region_facts (row := none) (w := w) 7 (CntKs1 w B v d wa fa) [some 4, some 5, some 6, some 7, some 8, some 9, some 3] (by kernel_rfl) (by kernel_rfl) rfl [undef, undef, undef, undef, undef, undef, (.int .i64 0)] ?h00 (Fs.start_olds hla rfl (only_refl w none) trivial) ?hs ?hd
  case h00 => simp only [putO, layT_some, layT_none, layT_nil, List.setIfInBounds_toArray, List.set_cons_zero, List.set_cons_succ]
  case hs =>
    rintro listed vs Wr hF i hi hun hpre
    obtain ⟨s0, s1, s2, s3, s4, s5, s6, hvs⟩ := exl_of 7 vs (fun l => vs = l) hF.len rfl
    subst hvs
    have hge := Nat.zero_le i
    simp only [putO, layT_some, layT_none, layT_nil, List.setIfInBounds_toArray, List.set_cons_zero, List.set_cons_succ]
    rcases Nat.lt_or_ge i 3 with hlt | hgt
    · replace hi := hlt
      clear hlt
      rcases Nat.lt_or_ge i 1 with hlt | hgt
      · replace hi := hlt
        clear hlt
        have he : i = 0 := Nat.le_antisymm (Nat.le_of_lt_succ hi) hge
        subst he
        refine step_of ⟨some 4, _, _, _, _, _⟩ rfl (fun K' hK => ?_)
        go_simp
        refine hK.out _ _ ⟨_, hF.pure hok hla hpre rfl (Below.refl _ _), ?fr⟩
        case fr => simp only [putO, layT_some, layT_none, layT_nil, List.setIfInBounds_toArray, List.set_cons_zero, List.set_cons_succ]
      · replace hge : 1 ≤ i := hgt
        clear hgt
        rcases Nat.lt_or_ge i 2 with hlt | hgt
        · replace hi := hlt
          clear hlt
          have he : i = 1 := Nat.le_antisymm (Nat.le_of_lt_succ hi) hge
          subst he
          have p0 := hpre 0 (by kernel_rfl)
          have e0 : s0 = .int .i64 d := hF.get 0 _ rfl (.inr p0)
          subst e0
          refine step_of ⟨some 5, _, _, _, _, _⟩ rfl (fun K' hK => ?_)
          go_simp
          go_at_call 284
          (with_reducible refine (TW.out _).mono ?_)
          rintro e Wq ⟨rfl, hq⟩
          subst hq
          refine hK.out _ _ ⟨_, hF.pure hok hla hpre rfl (Below.refl _ _), ?fr⟩
          case fr => simp only [putO, layT_some, layT_none, layT_nil, List.setIfInBounds_toArray, List.set_cons_zero, List.set_cons_succ]
        · replace hge : 2 ≤ i := hgt
          clear hgt
          have he : i = 2 := Nat.le_antisymm (Nat.le_of_lt_succ hi) hge
          subst he
          have cHB0 := Lib.cell_of_heap (keep_block HB.out (below_none hF.low)) 0
          refine step_of ⟨some 6, _, _, _, _, _⟩ rfl (fun K' hK => ?_)
          go_simp
          refine hK.out _ _ ⟨_, hF.pure hok hla hpre rfl (Below.refl _ _), ?fr⟩
          case fr => simp only [putO, layT_some, layT_none, layT_nil, List.setIfInBounds_toArray, List.set_cons_zero, List.set_cons_succ]
    · replace hge : 3 ≤ i := hgt
      clear hgt
      rcases Nat.lt_or_ge i 5 with hlt | hgt
      · replace hi := hlt
        clear hlt
        rcases Nat.lt_or_ge i 4 with hlt | hgt
        · replace hi := hlt
          clear hlt
          have he : i = 3 := Nat.le_antisymm (Nat.le_of_lt_succ hi) hge
          subst he
          refine step_of ⟨some 7, _, _, _, _, _⟩ rfl (fun K' hK => ?_)
          go_simp
          refine hK.out _ _ ⟨_, hF.pure hok hla hpre rfl (Below.refl _ _), ?fr⟩
          case fr => simp only [putO, layT_some, layT_none, layT_nil, List.setIfInBounds_toArray, List.set_cons_zero, List.set_cons_succ]
        · replace hge : 4 ≤ i := hgt
          clear hgt
          have he : i = 4 := Nat.le_antisymm (Nat.le_of_lt_succ hi) hge
          subst he
          have p2 := hpre 2 (by kernel_rfl)
          have e2 : s2 = v := hF.get 2 _ rfl (.inr p2)
          subst e2
          have p3 := hpre 3 (by kernel_rfl)
          have e3 : s3 = .int .i64 d := hF.get 3 _ rfl (.inr p3)
          subst e3
          refine step_of ⟨some 8, _, _, _, _, _⟩ rfl (fun K' hK => ?_)
          go_simp
          go_at_call 285
          (with_reducible refine (TF.out _ (HH.out.below (below_none hF.low))).mono ?_)
          rintro e Wq ⟨rfl, hq⟩
          refine hK.out _ _ ⟨_, hF.pure hok hla hpre rfl hq, ?fr⟩
          case fr => simp only [putO, layT_some, layT_none, layT_nil, List.setIfInBounds_toArray, List.set_cons_zero, List.set_cons_succ]
      · replace hge : 5 ≤ i := hgt
        clear hgt
        rcases Nat.lt_or_ge i 6 with hlt | hgt
        · replace hi := hlt
          clear hlt
          have he : i = 5 := Nat.le_antisymm (Nat.le_of_lt_succ hi) hge
          subst he
          have p1 := hpre 1 (by kernel_rfl)
          have e1 : s1 = .int .i64 wa := hF.get 1 _ rfl (.inr p1)
          subst e1
          have p4 := hpre 4 (by kernel_rfl)
          have e4 : s4 = .int .i64 fa := hF.get 4 _ rfl (.inr p4)
          subst e4
          refine step_of ⟨some 9, _, _, _, _, _⟩ rfl (fun K' hK => ?_)
          go_simp
          refine hK.out _ _ ⟨_, hF.pure hok hla hpre rfl (Below.refl _ _), ?fr⟩
          case fr => simp only [putO, layT_some, layT_none, layT_nil, List.setIfInBounds_toArray, List.set_cons_zero, List.set_cons_succ]
        · replace hge : 6 ≤ i := hgt
          clear hgt
          have he : i = 6 := Nat.le_antisymm (Nat.le_of_lt_succ hi) hge
          subst he
          have p5 := hpre 5 (by kernel_rfl)
          have e5 : s5 = .int .i64 (wa - fa) := hF.get 5 _ rfl (.inr p5)
          subst e5
          refine step_of ⟨some 3, _, _, _, _, _⟩ rfl (fun K' hK => ?_)
          go_simp
          refine hK.out _ _ ⟨_, hF.pure hok hla hpre rfl (Below.refl _ _), ?fr⟩
          case fr => simp only [putO, layT_some, layT_none, layT_nil, List.setIfInBounds_toArray, List.set_cons_zero, List.set_cons_succ]
  case hd =>
    rintro listed vs W2 hF hall
    obtain ⟨s0, s1, s2, s3, s4, s5, s6, hvs⟩ := exl_of 7 vs (fun l => vs = l) hF.len rfl
    subst hvs
    have e5 : s5 = .int .i64 (wa - fa) := hF.get 5 _ rfl (.inr (hall 5 (by decide)))
    subst e5
    have e6 : s6 = .int .i64 (wa - fa) := hF.get 6 _ rfl (.inr (hall 6 (by decide)))
    subst e6
    have HQ := Lib.hid hF.low
    clear hF hall hok hna hla
    simp only [putO, layT_some, layT_none, layT_nil, List.setIfInBounds_toArray, List.set_cons_zero, List.set_cons_succ]
    have HQ2 := below_none HQ.out
    go_wp2
    go_ret
    exact ⟨rfl, HQ2⟩
end Go.Proofs.YtphfefmlappidaaGreatDoor.Num

/- package fdate: WORKDAY over its arguments, some days ahead. Conditions: whole numbers; the tables lie as they are laid. -/
namespace Go.Proofs.YtphfefmlappidaaGreatDoor.Num
open Go.RowKit Go.Lib

/-- what stays while the day is searched -/
structure WdI (W : World) (b B : Nat) (v : Value) (zs : List Int) (Wr : World) : Prop where
  box : Wr.heap[B]? = some (.cells #[v] 37 (0, 0))
  hols : HolsAt W.heap.size v zs Wr
  grown : W.grownBy Wr (some b)
theorem WdI.step {W Wr W' : World} {b B : Nat} {v : Value} {zs : List Int} (h : WdI W b B v zs Wr) (hb : Below Wr.heap.size Wr W') : WdI W b B v zs W' :=
  ⟨keep_block h.box hb, h.hols.below hb, kept_trans h.grown (kept_below hb)⟩
set_option linter.unusedSimpArgs false in
set_option linter.unusedVariables false in
set_option maxHeartbeats 4000000 in
set_option maxRecDepth 100000 in
theorem fd_WORKDAY (b g C : Nat) (W : World) (q0 q1 : Rat) (p q r s : Int) (gi Ci : Nat) (ms : List Int) (hq0 : fits q0 = true) (hN0 : q0.floor = p) (hq1 : fits q1 = true) (hN1 : q1.floor = q) (hgi : gi ≠ b) (h0 : 0 < ms.length) (h9 : ms.length ≤ 1000) (hms : ∀ m ∈ ms, 1 ≤ m ∧ m ≤ 2958464) (hv : ValsAt W gi 0 (numVals (ms.map fun m => ((m : Int) : Rat)))) (ha : ArgsAt W b (some ⟨g, 0, none⟩) 3 C 0) (hne : g ≠ b) (hc0 : NumCells W g (0 + 0 * 9) q0) (hc1 : NumCells W g (0 + 1 * 9) q1) (hc2 : CellsAt W g (0 + 2 * 9) (.int .i64 5) (.string { data := #[] }) (.string { data := #[] }) (.string { data := #[] }) (.bool false) (.int .i64 0) (.int .i64 r) (.int .i64 s) (.slice (some ⟨gi, 0, none⟩) ms.length Ci)) (hE : Env W) (hP : Past b) (d : Int) (hq : 1 ≤ q) (hq9 : q ≤ 1000) (h1 : 1 ≤ p) (h2 : p ≤ 200000) (hd0 : 1 ≤ d) (hd1 : d ≤ 2958464) (hw1 : countR (holsR ms) p + q ≤ countR (holsR ms) d) (hw2 : countR (holsR ms) (d - 1) < countR (holsR ms) p + q) :
    Calls Tryz.prog 180 #[.pointer (some ⟨b, 0, none⟩)] W fun e w' => e = .returned (.int .i64 d) ∧ W.grownBy w' (some b) := by
  have T0 := Lib.hid (fun W' a c e => fd_day b g 3 C 0 q0 p W' a (by decide) (by decide) hne c hq0 hN0 (by omega) (by omega) e hP)
  have T1 := Lib.hid (fun W' a c e => argWhole_any b g 0 3 C 1 q1 W' a (by decide) (by decide) hne c hq1 (by omega) (by omega) e hP)
  rw [hN1] at T1
  have T2 := Lib.hid (fun W' a c hv e => holidays_any ms b g 3 C 2 r s gi Ci W' a (by decide) (by decide) hne hgi c h0 h9 hms hv e hP)
  have hF := hols_free ms
  have hl9 : (holsR ms).length ≤ 1000000 := Nat.le_trans (hols_len ms) (by omega)
  obtain ⟨zs, hzs⟩ : ∃ zs, holsR ms = zs := ⟨_, rfl⟩
  rw [hzs] at T2 hF hl9 hw1 hw2
  have TFr := Lib.hid (fun B v n W h h0 h1 => free_any B v zs n W h hF.ord hl9 h0 h1)
  have HV := Lib.hid hv
  have HGL := Lib.hid (show gi < W.heap.size from cell_lt (hv.at 0 (by rw [numVals_len, List.length_map]; exact h0)).1)
  have HGI := Lib.hid hgi
  have HA := Lib.hid ha
  have HE := Lib.hid hE
  have HP := Lib.hid hP
  have NG := Lib.hid hne
  have HG := Lib.hid (only_refl W (some b))
  have HC0 := Lib.hid hc0
  have HC1 := Lib.hid hc1
  have HC2 := Lib.hid hc2
  have TC := Lib.hid (fun B v W x hB h h0 h1 => count_any B W.heap.size v zs x W hB h hF hl9 h0 h1)
  have TC2 := Lib.hid (fun B v Wr x hB h h0 h1 => count_any B W.heap.size v zs x Wr hB h hF hl9 h0 h1)
  have hmono := fun {x y : Int} (hxy : x ≤ y) => count_mono hF hxy
  have hc0 := count_nonneg hF (show (0 : Int) ≤ p by omega)
  have hcp := weekdaysR_bounds p (by omega) (by omega)
  have hcp2 := count_le (l := zs) p
  have hz0 := count_zero hF
  have hlast : countR zs p + q ≤ countR zs 2958464 := Int.le_trans hw1 (hmono hd1)
  obtain ⟨cp, hcpe⟩ : ∃ z, countR zs p = z := ⟨_, rfl⟩
  obtain ⟨cl, hcle⟩ : ∃ z, countR zs 2958464 = z := ⟨_, rfl⟩
  have TP := Lib.hid (fun B v Wr hB h => TC2.out B v Wr p hB h (by omega) (by omega))
  have TL := Lib.hid (fun B v Wr hB h => TC2.out B v Wr 2958464 hB h (by decide) (by decide))
  rw [hcpe] at TP hw1 hw2 hc0 hcp2 hlast
  rw [hcle] at TL hlast
  obtain ⟨wt, hwt⟩ : ∃ z, cp + q = z := ⟨_, rfl⟩
  rw [hwt] at hw1 hw2 hlast
  have HWT := Lib.hid hwt
  have hwb : 1 ≤ wt ∧ wt ≤ 10001000 := by omega
  have dq0 : (q == 0) = false := beq_eq_false_iff_ne.2 (by omega)
  have dq1 : decide (q < 0) = false := decide_eq_false (by omega)
  have dw1 : decide (cp + q < 1) = false := decide_eq_false (by omega)
  have dw2 : decide (cl < cp + q) = false := decide_eq_false (by omega)
  have hww : IntKind.i64.wrap (cp + q) = cp + q := IntWalk.i64_in _ (by omega)
  have HMO := Lib.hid (fun (x y : Int) (hxy : x ≤ y) => count_mono hF hxy)
  have HW1 := Lib.hid hw1
  have HW2 := Lib.hid hw2
  have HZ0 := Lib.hid hz0
  have HW8 := Lib.hid hwb
  have HCL := Lib.hid hcle
  have HLA := Lib.hid hlast
  have HD := Lib.hid (And.intro hd0 hd1)
  have hmf : ∀ (fn : Fn) (first cap : Array Value) (w : World), (Instr.makeFunc fn first cap).run Tryz.prog w = .ok (.func fn first cap) w := fun _ _ _ _ => rfl
  clear ha hE hP hne hc1 hc2 hq0 hN0 hq1 hN1 hgi hv hzs hF hl9 h9 hms h0 TC TFr hmono hc0 hcp hcp2 hz0 hlast hcpe hcle hwt hwb hw1 hw2 hq9 hd0 hd1
  go_enter Tryz.func180, Tryz.ntmps180
  go_wp2_with fail
  refine (T0.out _ HA.out HC0.out HE.out).mono ?_
  rintro e W1 ⟨rfl, ha, hg⟩
  replace HA := Lib.hid ha
  replace HE := Lib.hid (HE.out.kept hg HP.out)
  replace HV := Lib.hid (vals_kept2 HV.out hg HGI.out (Nat.lt_of_lt_of_le HGL.out HG.out.size))
  replace HG := Lib.hid (kept_trans HG.out hg)
  replace HC0 := Lib.hid (HC0.out.kept hg NG.out)
  replace HC1 := Lib.hid (HC1.out.kept hg NG.out)
  replace HC2 := Lib.hid (HC2.out.kept hg NG.out)
  clear ha hg
  go_wp2_with fail
  refine (T1.out _ HA.out HC1.out HE.out).mono ?_
  rintro e W2 ⟨rfl, ha, hg⟩
  replace HA := Lib.hid ha
  replace HE := Lib.hid (HE.out.kept hg HP.out)
  replace HV := Lib.hid (vals_kept2 HV.out hg HGI.out (Nat.lt_of_lt_of_le HGL.out HG.out.size))
  replace HG := Lib.hid (kept_trans HG.out hg)
  replace HC0 := Lib.hid (HC0.out.kept hg NG.out)
  replace HC1 := Lib.hid (HC1.out.kept hg NG.out)
  replace HC2 := Lib.hid (HC2.out.kept hg NG.out)
  clear ha hg
  go_wp2_with fail
  refine (T2.out _ HA.out HC2.out HV.out HE.out).mono ?_
  rintro e W3 ⟨⟨v, rfl, hh⟩, hg⟩
  obtain ⟨va, vn, vC, rfl⟩ : ∃ a n C, v = .slice a n C := by obtain ⟨a, C, e, _⟩ := hh; exact ⟨a, _, C, e⟩
  have HH := Lib.hid (hh.mono HG.out.size)
  replace HG := Lib.hid (kept_trans HG.out hg)
  clear hh hg
  have hb : Below W3.heap.size W3 (W3.alloc (.cells #[.slice va vn vC] 37)) := (Below.refl _ _).alloc (Nat.le_refl _) _
  have HI := Lib.hid (show WdI W b W3.heap.size (.slice va vn vC) zs (W3.alloc (.cells #[.slice va vn vC] 37)) from ⟨heap_alloc_new W3 _, HH.out.below hb, kept_trans HG.out (kept_below hb)⟩)
  obtain ⟨B, hB⟩ : ∃ B, W3.heap.size = B := ⟨_, rfl⟩
  obtain ⟨W4, hW4⟩ : ∃ W4, W3.alloc (.cells #[.slice va vn vC] 37) = W4 := ⟨_, rfl⟩
  rw [hW4, hB] at HI
  have EB := Lib.hid hB
  have EW := Lib.hid hW4
  clear hb hB hW4 HH HG HA HC0 HC1 HC2 HE HV T0 T1 T2
  go_wp2_with fail
  rw [EW.out, EB.out]
  refine (TP.out _ _ _ HI.out.box HI.out.hols).mono ?_
  rintro e W5 ⟨rfl, hb⟩
  replace HI := Lib.hid (HI.out.step hb)
  clear hb
  go_wp2_with fail
  refine (TL.out _ _ _ HI.out.box HI.out.hols).mono ?_
  rintro e W6 ⟨rfl, hb⟩
  replace HI := Lib.hid (HI.out.step hb)
  clear hb
  go_wp2_with fail
  refine (wrong_no _).mono ?_
  rintro e W7 ⟨rfl, rfl⟩
  go_wp2_with fail
  simp only [HWT.out]
  go_loopg [8, 9] 2958464 (fun gh v8 v9 wx => ∃ lo hi : Int, v8 = .int .i64 lo ∧ v9 = .int .i64 hi ∧ 0 ≤ lo ∧ lo < hi ∧ hi ≤ 2958464 ∧ countR zs lo < wt ∧ wt ≤ countR zs hi ∧ gh = (hi - lo).toNat ∧ WdI W b B (.slice va vn vC) zs wx)
  case atStart => exact ⟨0, 2958464, rfl, rfl, by decide, by decide, by decide, by rw [HZ0.out]; exact HW8.out.1, by rw [HCL.out]; exact HLA.out, rfl, HI.out⟩
  case round =>
    clear HI
    obtain ⟨lo, hi, rfl, rfl, hlo0, hlh, hhi, hclo, hchi, rfl, hI⟩ := hrel
    have HI := Lib.hid hI
    have HCLO := Lib.hid hclo
    have HCHI := Lib.hid hchi
    clear hI hclo hchi
    by_cases hlt : 1 < hi - lo
    · have dd : decide (1 < hi - lo) = true := decide_eq_true hlt
      have hq2 : (lo + hi).tdiv 2 = (lo + hi) / 2 := Int.tdiv_eq_ediv_of_nonneg (by omega)
      obtain ⟨m, hm⟩ : ∃ m, (lo + hi) / 2 = m := ⟨_, rfl⟩
      have hm0 : lo < m ∧ m < hi := by omega
      have HM := Lib.hid hm
      have TM := Lib.hid (fun B v Wr hB h => TC2.out B v Wr m hB h (by omega) (by omega))
      obtain ⟨cm, hcm⟩ : ∃ z, countR zs m = z := ⟨_, rfl⟩
      rw [hcm] at TM
      have HCM := Lib.hid hcm
      clear hm hcm hq2
      go_wp2_with fail
      simp only [HM.out]
      refine (TM.out _ _ _ HI.out.box HI.out.hols).mono ?_
      rintro e w2 ⟨rfl, hb⟩
      replace HI := Lib.hid (HI.out.step hb)
      clear hb
      by_cases hc : wt ≤ cm
      · have dc : decide (wt ≤ cm) = true := decide_eq_true hc
        go_wp2
        go_roundg (m - lo).toNat
        case measure => omega
        case rel => exact ⟨lo, m, rfl, rfl, hlo0, hm0.1, by omega, HCLO.out, by rw [HCM.out]; exact hc, rfl, HI.out⟩
      · have dc : decide (wt ≤ cm) = false := decide_eq_false hc
        go_wp2
        go_roundg (hi - m).toNat
        case measure => omega
        case rel => exact ⟨m, hi, rfl, rfl, by omega, hm0.2, hhi, by rw [HCM.out]; omega, HCHI.out, rfl, HI.out⟩
    · have dd : decide (1 < hi - lo) = false := decide_eq_false hlt
      have hde : hi = d := by
        have a1 := HCLO.out
        have a2 := HCHI.out
        have a3 := HW1.out
        have a4 := HW2.out
        rcases Int.lt_trichotomy hi d with h | h | h
        · have := HMO.out hi (d - 1) (by omega)
          omega
        · exact h
        · have := HMO.out d lo (by omega)
          omega
      subst hde
      clear hlt
      go_wp2
      go_ret
      exact ⟨rfl, HI.out.grown⟩

end Go.Proofs.YtphfefmlappidaaGreatDoor.Num
