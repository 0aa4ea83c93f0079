/- slices.Clone of rows of texts that came in, slices.DeleteFunc over the clone, and slices.EqualFunc of owned rows with rows that lie anywhere: two equal tables compare as equal. Conditions: the rows lie as they came in. -/
import Derived.Test.YtjndiielolphgaaDoorCsvDelete3
import Derived.Test.YtjndiielolphgaaDoorCsvPrintPlain
import Derived.Test.YtjndiielolphgaaDoorCsvStrRows
import Derived.Test.YtjndiielolphgaaDoorCsvEqual
import Derived.Test.YtjndiielolphgaaDoorShelf
import Derived.Deep.AppendLies
namespace Go.Proofs.YtjndiielolphgaaDoor
open Go.RowKit Go.Deep Go.ChangeShapes Go.WideShapes

/-! ### texts that lie anywhere -/
theorem equalStrsAt_any {w : World} {B1 : Nat} {S : TypeId} {v1 v2 : Value} {s1 s2 : List Csv.Bytes} (h1 : OwnStrs S B1 v1 s1 w) (h2 : StrsAt w v2 s2) (m2 : s2.length ≤ 1000000000) :
    Calls Tryd.prog 23 #[v1, v2] w fun e w' => e = .returned (.bool (decide (s1 = s2))) ∧ ∃ q, w' = w.drewN q := by
  obtain ⟨A2, c2, rfl, hc2⟩ := h2
  rcases strs_at h1 with ⟨rfl, a1, c1, rfl⟩ | ⟨g1, c1, rfl, m1, k1⟩
  · refine (Tryd.slices_Equal_string_empty a1 _ c1 s2.length c2 w (by omega)).mono fun e w' ⟨h, h'⟩ => ⟨?_, 0, h'⟩
    rw [h]
    cases s2 <;> simp
  · by_cases hs2 : s2 = []
    · subst hs2
      by_cases he : s1 = []
      · subst he
        exact (Tryd.slices_Equal_string_empty _ A2 c1 0 c2 w (by omega)).mono fun e w' ⟨h, h'⟩ => ⟨by rw [h]; rfl, 0, h'⟩
      · refine (Tryd.slices_Equal_string_lens _ A2 s1.length c1 0 c2 w (by intro h; exact he (List.eq_nil_of_length_eq_zero h))).mono fun e w' ⟨h, h'⟩ => ⟨?_, 0, h'⟩
        rw [h]; simp [he]
    · obtain ⟨b, o, rfl, _⟩ := hc2 0 (List.length_pos_iff.2 hs2)
      refine (Tryd.slices_Equal_string g1 0 s1.length c1 b o s2.length c2 (baOf s1) (baOf s2) w (by simp [baOf]) (by simp [baOf]) (by unfold maxLen at m1; omega) (by omega) k1 (fun j hj => ?_)).mono fun e w' ⟨h, h'⟩ => ⟨?_, h'⟩
      · have hj' : j < s2.length := by simpa [baOf] using hj
        obtain ⟨b', o', hA, hcell⟩ := hc2 j hj'
        simp only [Option.some.injEq, Addr.mk.injEq, and_true] at hA
        obtain ⟨rfl, rfl⟩ := hA
        rw [hcell]
        simp [baOf, ba, List.getD, hj']
      · rw [h]
        have e1 : (baOf s1).take s1.length = baOf s1 := List.take_of_length_le (by simp [baOf])
        have e2 : (baOf s2).take s2.length = baOf s2 := List.take_of_length_le (by simp [baOf])
        rw [e1, e2]
        exact ret_bool (by rw [decide_eq_decide]; exact baOf_inj s1 s2)

set_option maxHeartbeats 1000000 in
theorem lawClosureAt_any {w : World} {B1 : Nat} {S : TypeId} {v1 v2 : Value} {s1 s2 : List Csv.Bytes} (h1 : OwnStrs S B1 v1 s1 w) (h2 : StrsAt w v2 s2) (m2 : s2.length ≤ 1000000000) :
    Calls Tryd.prog 22 #[v1, v2] w fun e w' => e = .returned (.bool (decide (s1 = s2))) ∧ ∃ q, w' = w.drewN q := by
  have H1 := Lib.hid h1; clear h1
  have H2 := Lib.hid h2; clear h2
  go_enter Tryd.func22, Tryd.ntmps22
  go_wp2_with fail
  refine (equalStrsAt_any (by exact H1.out) (by exact H2.out) m2).mono ?_
  rintro e w' ⟨rfl, q, rfl⟩
  go_wp2
  go_ret
  exact ⟨rfl, _, rfl⟩

theorem StrsAt.drewN {w : World} {v : Value} {l : List Csv.Bytes} (h : StrsAt w v l) (q : Nat) : StrsAt (w.drewN q) v l := h

set_option maxHeartbeats 1000000 in
set_option maxRecDepth 100000 in
theorem equalRowsAt_true {w : World} {B1 : Nat} {T S : TypeId} {v1 v2 : Value} {rows : List (List Csv.Bytes)} (h1 : OwnRows T S B1 v1 rows w) (h2 : RowsAt w v2 rows) (hl : rows.length ≤ 1000000000) (hm : ∀ r ∈ rows, r.length ≤ 1000000000) :
    Calls Tryd.prog 21 #[v1, v2, .func (.func 22) #[] #[]] w fun e w' => e = .returned (.bool true) ∧ ∃ q, w' = w.drewN q := by
  obtain ⟨vs1, o1, r1⟩ := h1
  obtain ⟨A2, c2, rfl, k2⟩ := h2
  have L1 := r1.length
  have hlen : rows.length ≤ 9223372036854775807 := by omega
  rcases owns_at o1 with ⟨z1, _, a1, c1, rfl⟩ | ⟨g1, c1, rfl, m1, k1⟩
  · have zb : rows.length = 0 := z1
    clear o1 k2 r1 L1 z1
    try rw [zb]
    clear zb
    go_enter Tryd.func21, Tryd.ntmps21
    go_wp2
    refine wp_loop_rounds 1 ?_
    rw [rounds_succ]
    go_wp2
    go_ret
    exact ⟨rfl, 0, rfl⟩
  · have K1 := Lib.hid k1; clear k1
    have K2 := Lib.hid k2; clear k2
    have RH1 := Lib.hid r1; clear r1
    have HL1 := Lib.hid L1; clear L1
    have HM := Lib.hid hm; clear hm
    clear o1 m1
    go_enter Tryd.func21, Tryd.ntmps21
    go_wp2
    go_loopg [17] rows.length (fun g i wx => ∃ k q : Nat, k + g = rows.length ∧ i = .int .i64 k ∧ wx = w.drewN q)
    case atStart => exact ⟨0, 0, by omega, rfl, rfl⟩
    case round =>
      obtain ⟨k, q, hk, rfl, rfl⟩ := hrel
      by_cases hlt : k < rows.length
      · have hltb : decide ((k : Int) < (rows.length : Int)) = true := decide_eq_true (by omega)
        have hltn : decide (k < rows.length) = true := decide_eq_true hlt
        have b1 : k < vs1.length := by rw [HL1.out]; exact hlt
        have e1 := K1.out k b1
        simp only [Nat.zero_add] at e1
        have S1 := Lib.hid (RH1.out.at k b1 hlt)
        obtain ⟨b2, o2, u, rfl, e2, s2⟩ := K2.out k hlt
        have S2 := Lib.hid s2; clear s2
        go_wp2_with fail
        refine (lawClosureAt_any (by exact S1.out) (by exact S2.out) (HM.out _ (List.getElem_mem hlt))).mono ?_
        rintro e w' ⟨rfl, q2, rfl⟩
        simp only [decide_true]
        go_wp2
        go_roundg (gk - 1)
        case measure => omega
        case rel => exact ⟨k + 1, q + q2, by omega, by go_num, by simp⟩
      · have hltb : decide ((k : Int) < (rows.length : Int)) = false := decide_eq_false (by omega)
        have hltn : decide (k < rows.length) = false := decide_eq_false hlt
        go_wp2
        go_ret
        exact ⟨rfl, _, rfl⟩

/-! ### slices.Clone -/
/-- what slices.Clone hands back: a row of the call's own, whose cells are slices of these texts -/
structure Cloned (w : World) (v : Value) (rows : List (List Csv.Bytes)) (w' : World) : Prop where
  below : Below w.heap.size w w'
  form : (rows = [] ∧ ∃ A C, v = .slice A 0 C) ∨ ∃ (g cap : Nat) (ps : List URow) (cs : Array Value), v = .slice (some ⟨g, 0, none⟩) rows.length cap ∧ w.heap.size ≤ g ∧ rows.length ≤ cap ∧ cap ≤ maxLen ∧ ps.map (·.2) = rows ∧
    w'.heap[g]? = some (.cells cs 35 (0, 0)) ∧ rows.length ≤ cs.size ∧ (∀ (i : Nat) (h : i < ps.length), cs[i]? = some ps[i].1) ∧ ∀ p ∈ ps, StrsAt w p.1 p.2

theorem info_strs : ∃ i0, Tryd.prog.info? 35 = some i0 ∧ i0.zero = some (.slice none 0 0) ∧ i0.size = 1 ∧ i0.bytes = 24 := info_parts (by kernel_rfl)

/-- the cells of rows that came in, and their texts -/
theorem rows_pairs {w : World} {b o C : Nat} {rows : List (List Csv.Bytes)} (h : RowsAt w (.slice (some ⟨b, o, none⟩) rows.length C) rows) :
    ∃ ps : List URow, ps.map (·.2) = rows ∧ (∀ (i : Nat) (hi : i < ps.length), w.cell? ⟨b, o + i, none⟩ = some ps[i].1) ∧ ∀ p ∈ ps, StrsAt w p.1 p.2 := by
  obtain ⟨A, C', hv, hc⟩ := h
  simp only [Value.slice.injEq, true_and] at hv
  obtain ⟨rfl, rfl⟩ := hv
  have hu : ∀ i, i < rows.length → ∃ u, w.cell? ⟨b, o + i, none⟩ = some u ∧ StrsAt w u (rows.getD i []) := by
    intro i hi
    obtain ⟨b', o', u, hA, hcell, hs⟩ := hc i hi
    simp only [Option.some.injEq, Addr.mk.injEq, and_true] at hA
    obtain ⟨rfl, rfl⟩ := hA
    exact ⟨u, hcell, by simpa [List.getD, hi] using hs⟩
  obtain ⟨U, hU⟩ := choose_lt hu
  refine ⟨(List.range rows.length).map fun i => (U i, rows.getD i []), ?_, ?_, ?_⟩
  · apply List.ext_getElem
    · simp
    · intro i h1 h2
      simp [List.getD, h2]
  · intro i hi
    have hi' : i < rows.length := by simpa using hi
    simpa using (hU i hi').1
  · intro p hp
    obtain ⟨i, hi, rfl⟩ := List.mem_map.1 hp
    exact (hU i (List.mem_range.1 hi)).2

theorem strs_form {w : World} {v : Value} {l : List Csv.Bytes} (h : StrsAt w v l) : ∃ A C, v = .slice A l.length C := let ⟨A, C, h, _⟩ := h; ⟨A, C, h⟩

set_option maxHeartbeats 2000000 in
set_option maxRecDepth 100000 in
theorem clone_empty (a : Addr) (C : Nat) (w : World) :
    Calls Tryd.prog 18 #[.slice (some a) 0 C] w fun e w' => (∃ A' C', e = .returned (.slice A' 0 C')) ∧ Below w.heap.size w w' := by
  obtain ⟨i0, hi, hz0, hz1, hz2⟩ := info_strs
  have qT : ∀ (w : World) (a : Option Addr) (n c n' c' : Nat), (binOp .eql 31 (.slice a n c) (.slice none n' c')).run Tryd.prog w = .ok (.bool a.isNone) w := fun w a n c n' c' => Lib.run_eql_slice_nil w _ _ a n c n' c' Tryd.underlying31
  go_enter Tryd.func18, Tryd.ntmps18
  go_wp2_with (at_builtin; refine wpList_append_own _ rfl _ _ 31 rfl w.heap.size 35 i0 (.slice none 0 0) 1 24 Tryd.underlying31 hi hz0 hz1 hz2 rfl (by decide) _ _ _ rfl (World.ownsRow_made w #[] 0 (Nat.le_refl _) (Nat.zero_le _) rfl) a 0 C [] rfl (by simp) (by intro j u hj; simp at hj) (by intro u hu; cases hu) (by unfold maxLen; omega) (by omega) (by simp) ?_)
  intro v' w1 hown hgrow hnil
  obtain ⟨A', C', rfl⟩ := owns_form hown
  go_wp2
  go_ret
  exact ⟨⟨A', C', rfl⟩, ((Below.refl _ w).alloc (Nat.le_refl _) _).grown hgrow (by simp) (by intro k hk; simp [Value.ownBlock] at hk; omega)⟩

theorem clone_any (v : Value) (rows : List (List Csv.Bytes)) (w : World) (hrows : RowsAt w v rows) (hl : rows.length ≤ 1000000000) :
    Calls Tryd.prog 18 #[v] w fun e w' => ∃ v', e = .returned v' ∧ Cloned w v' rows w' := by
  by_cases he : rows = []
  · subst he
    obtain ⟨A, C, rfl, _⟩ := hrows
    cases A with
    | none => exact (Tryd.slices_Clone_nil 0 C w).mono fun e w' ⟨h1, h2⟩ => ⟨_, h1, by rw [h2]; exact ⟨Below.refl _ _, .inl ⟨rfl, _, _, rfl⟩⟩⟩
    | some a => exact (clone_empty a C w).mono fun e w' ⟨⟨A', C', h1⟩, h2⟩ => ⟨_, h1, h2, .inl ⟨rfl, _, _, rfl⟩⟩
  · obtain ⟨A, C, rfl, hc⟩ := hrows
    obtain ⟨b, o, _, rfl, _⟩ := hc 0 (List.length_pos_iff.2 he)
    obtain ⟨ps, hps, hcell, hstr⟩ := rows_pairs (w := w) (b := b) (o := o) (C := C) (rows := rows) ⟨some ⟨b, o, none⟩, C, rfl, hc⟩
    obtain ⟨i0, hi, hz0, hz1, hz2⟩ := info_strs
    have hpl : ps.length = rows.length := by rw [← hps]; simp
    refine (Tryd.slices_Clone i0 (.slice none 0 0) 1 24 hi hz0 hz1 hz2 rfl (by decide) (fun w => Tryd.sizeOf35 w) b o rows.length C (ps.map (·.1)) w (by simp [hpl]) (by unfold maxLen; omega) (by omega) ?_ ?_).mono ?_
    · intro j u hj
      obtain ⟨hj1, hj2⟩ := List.getElem?_eq_some_iff.1 hj
      have hj3 : j < ps.length := by simpa using hj1
      rw [hcell j hj3, ← hj2]; simp
    · intro u hu
      obtain ⟨p, hp, rfl⟩ := List.mem_map.1 hu
      obtain ⟨A, C, h⟩ := strs_form (hstr p hp)
      rw [h]; rfl
    · rintro e w' ⟨v', h1, h2, h3, h4⟩
      refine ⟨v', h1, h4, .inr ?_⟩
      rcases h2.2 with ⟨rfl, _⟩ | ⟨g, cap, cur, rfl, hb, hg, hc1, hc2, hcs, htk⟩
      · exact absurd rfl h3
      · refine ⟨g, cap, ps, cur, rfl, hb, hc1, hc2, hps, hg, by omega, fun i hi => ?_, hstr⟩
        have hi1 : i < (ps.map (·.1)).length := by simpa using hi
        have e : (cur.toList.take (rows.length * 1))[i]? = some ps[i].1 := by rw [htk, List.getElem?_eq_getElem hi1]; simp
        rw [List.getElem?_take_of_lt (by omega)] at e
        simpa using e

/-! ### slices.DeleteFunc behind slices.Clone -/
set_option maxHeartbeats 2000000 in
set_option maxRecDepth 100000 in
theorem delete_empty (A : Option Addr) (C : Nat) (w : World) :
    Calls Tryd.prog 17 #[.slice A 0 C, .func (.func 19) #[] #[]] w fun e w' => e = .returned (.slice A 0 C) ∧ w' = w := by
  have hi : Calls Tryd.prog 34 #[.slice A 0 C, .func (.func 19) #[] #[]] w fun e w' => e = .returned (.int .i64 (-1)) ∧ w' = w := by
    go_enter Tryd.func34, Tryd.ntmps34
    go_wp2
    refine wp_loop_rounds 1 ?_
    rw [rounds_succ]
    go_wp2
    go_ret
    exact ⟨rfl, rfl⟩
  have HI := Lib.hid hi; clear hi
  go_enter Tryd.func17, Tryd.ntmps17
  go_wp2_with fail
  refine HI.out.mono ?_
  rintro e w1 ⟨rfl, rfl⟩
  go_wp2
  go_ret
  exact ⟨rfl, rfl⟩

def full (rows : List (List Csv.Bytes)) : List (List Csv.Bytes) := rows.filter fun r => !r.isEmpty
theorem filt_map (ps : List URow) : (filt ps).map (·.2) = full (ps.map (·.2)) := by
  unfold filt full
  rw [List.filter_map]; rfl

theorem deleted_any (v : Value) (rows : List (List Csv.Bytes)) (w w1 : World) (hcl : Cloned w v rows w1) (hl : rows.length ≤ 1000000000) :
    Calls Tryd.prog 17 #[v, .func (.func 19) #[] #[]] w1 fun e w' => ∃ v', e = .returned v' ∧ RowsAt w' v' (full rows) ∧ Below w.heap.size w w' := by
  obtain ⟨hbelow, hform⟩ := hcl
  rcases hform with ⟨rfl, A, C, rfl⟩ | ⟨g, cap, ps, cs, rfl, hb, hc1, hc2, hps, hg, hcs, hcell, hstr⟩
  · refine (delete_empty A C w1).mono fun e w' ⟨h1, h2⟩ => ⟨_, h1, ⟨A, C, rfl, fun i hi => absurd hi (by simp [full])⟩, by rw [h2]; exact hbelow⟩
  · have hpl : ps.length = rows.length := by rw [← hps]; simp
    refine (delete_any g rows.length cap ps cs w1 hpl hl hc1 hc2 (fun i hi => strs_form (hstr _ (List.getElem_mem hi))) hg hcs hcell).mono ?_
    rintro e w' ⟨h1, h2, h3⟩
    have hbl : Below w.heap.size w w' := hbelow.trans (below_of_only h2 hb hbelow.size)
    have hfl : (filt ps).length = (full rows).length := by rw [← hps, ← filt_map]; simp
    refine ⟨_, h1, ⟨some ⟨g, 0, none⟩, cap, by rw [hfl], fun i hi => ?_⟩, hbl⟩
    have hi2 : i < (filt ps).length := by omega
    refine ⟨g, 0, (filt ps)[i].1, rfl, h3 i hi2, ?_⟩
    have hmem : (filt ps)[i] ∈ ps := (List.mem_filter.1 (List.getElem_mem hi2)).1
    have e2 : (full rows)[i] = (filt ps)[i].2 := by
      have : full rows = (filt ps).map (·.2) := by rw [filt_map, hps]
      simp [this]
    rw [e2]
    exact (hstr _ hmem).below hbl
theorem full_ne (rows : List (List Csv.Bytes)) : ∀ r ∈ full rows, r ≠ [] := by
  intro r hr h
  subst h
  simp [full] at hr
theorem full_any (rows : List (List Csv.Bytes)) : (full rows).any List.isEmpty = false := by
  rw [List.any_eq_false]
  intro r hr
  have := full_ne rows r hr
  cases r with
  | nil => exact absurd rfl this
  | cons _ _ => simp
theorem full_mem {rows : List (List Csv.Bytes)} {r : List Csv.Bytes} (h : r ∈ full rows) : r ∈ rows := (List.mem_filter.1 h).1
theorem full_len (rows : List (List Csv.Bytes)) : (full rows).length ≤ rows.length := List.length_filter_le _ _
end Go.Proofs.YtjndiielolphgaaDoor
