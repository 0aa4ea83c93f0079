/- strings.IndexAny at a set of ASCII bytes, four at least: the first place of one of them, whatever the text holds. Conditions: the text is shorter than 4294967281 bytes, the set has 4 to 1000 bytes, all ASCII. -/
import Derived.Test.YtjndiielolphgaaDoorIndexRune
import Derived.Lib.IndexAny
namespace Go.Proofs.YtjndiielolphgaaDoor
open Go.RowKit

theorem ascii_list {s : ByteArray} (h : Ascii s) : ∀ (j : Nat) b, s.data.toList[j]? = some b → b.toNat < 128 := by
  intro j b hb
  obtain ⟨hj, rfl⟩ := List.getElem?_eq_some_iff.1 hb
  exact h j (by simpa using hj)

theorem get_pos (s : ByteArray) (k : Nat) (h : k < s.size) : s.get! k = s[k]'h := by
  simp [ByteArray.get!, getElem!_pos, h]
  rfl

/-- what a rune that is no ASCII byte takes: one byte or more, none of them ASCII -/
theorem decode_span (s : ByteArray) (pos : Nat) (h : pos < s.size) (ha : 128 ≤ (s[pos]'h).toNat) :
    1 ≤ (Utf8.decode s pos).2 ∧ pos + (Utf8.decode s pos).2 ≤ s.size ∧ ∀ j (hj : j < s.size), pos ≤ j → j < pos + (Utf8.decode s pos).2 → 128 ≤ (s[j]'hj).toNat := by
  have hn : ¬ (s[pos]'h).toNat < 128 := by omega
  have one : 1 ≤ 1 ∧ pos + 1 ≤ s.size ∧ ∀ j (hj : j < s.size), pos ≤ j → j < pos + 1 → 128 ≤ (s[j]'hj).toNat :=
    ⟨by omega, by omega, fun j hj h1 h2 => by obtain rfl : j = pos := by omega
                                              exact ha⟩
  have byte : ∀ k, pos + k < s.size ∧ (s.get! (pos + k)).toNat / 64 = 2 → ∃ hk : pos + k < s.size, 128 ≤ (s[pos + k]'hk).toNat := by
    rintro k ⟨h1, h2⟩
    rw [get_pos s _ h1] at h2
    exact ⟨h1, by omega⟩
  simp only [Utf8.decode, get_at s pos h, hn, if_false]
  split
  · rename_i hb
    simp only [Bool.and_eq_true, decide_eq_true_eq, beq_iff_eq] at hb
    obtain ⟨k1, b1⟩ := byte 1 hb.2
    split
    · refine ⟨by omega, by show pos + 2 ≤ s.size; omega, fun j hj h1 h2 => ?_⟩
      have h2 : j < pos + 2 := h2
      rcases (show j = pos ∨ j = pos + 1 by omega) with rfl | rfl
      · exact ha
      · exact b1
    · exact one
  · split
    · rename_i hb
      simp only [Bool.and_eq_true, decide_eq_true_eq, beq_iff_eq] at hb
      obtain ⟨k1, b1⟩ := byte 1 hb.1.2
      obtain ⟨k2, b2⟩ := byte 2 hb.2
      split
      · refine ⟨by omega, by show pos + 3 ≤ s.size; omega, fun j hj h1 h2 => ?_⟩
        have h2 : j < pos + 3 := h2
        rcases (show j = pos ∨ j = pos + 1 ∨ j = pos + 2 by omega) with rfl | rfl | rfl
        · exact ha
        · exact b1
        · exact b2
      · exact one
    · split
      · rename_i hb
        simp only [Bool.and_eq_true, decide_eq_true_eq, beq_iff_eq] at hb
        obtain ⟨k1, b1⟩ := byte 1 hb.1.1.2
        obtain ⟨k2, b2⟩ := byte 2 hb.1.2
        obtain ⟨k3, b3⟩ := byte 3 hb.2
        split
        · refine ⟨by omega, by show pos + 4 ≤ s.size; omega, fun j hj h1 h2 => ?_⟩
          have h2 : j < pos + 4 := h2
          rcases (show j = pos ∨ j = pos + 1 ∨ j = pos + 2 ∨ j = pos + 3 by omega) with rfl | rfl | rfl | rfl
          · exact ha
          · exact b1
          · exact b2
          · exact b3
        · exact one
      · exact one

theorem noAny_span {s chars : ByteArray} (hc : Ascii chars) {i n : Nat} (h : Lib.NoAny s.data.toList chars.data.toList i)
    (hh : ∀ j (hj : j < s.size), i ≤ j → j < i + n → 128 ≤ (s[j]'hj).toNat) : Lib.NoAny s.data.toList chars.data.toList (i + n) := by
  intro j b hj hb
  rcases Nat.lt_or_ge j i with h1 | h1
  · exact h j b h1 hb
  · obtain ⟨hjl, rfl⟩ := List.getElem?_eq_some_iff.1 hb
    have hjs : j < s.size := by simpa using hjl
    have h128 := hh j hjs h1 hj
    cases hcon : chars.data.toList.contains s.data.toList[j] with
    | false => rfl
    | true =>
      rw [List.contains_iff_mem] at hcon
      obtain ⟨k, hk, e⟩ := List.mem_iff_getElem.1 hcon
      have h3 := hc k (by simpa using hk)
      have e2 : (chars[k]'(by simpa using hk)) = s[j]'hjs := e
      rw [e2] at h3
      omega

set_option maxHeartbeats 2000000 in
set_option maxRecDepth 100000 in
theorem indexAny_short (s chars : ByteArray) (w : World) (h4 : 4 ≤ chars.size) (hcs : chars.size ≤ 1000) (h8 : s.size ≤ 8) (ha : Ascii chars) :
    Calls Tryd.prog 42 #[.string s, .string chars] w fun e w' => e = .returned (.int .i64 (Lib.indexAny s.data.toList chars.data.toList)) ∧ Below w.heap.size w w' := by
  have HA := Lib.hid ha; clear ha
  have hemp : chars.toList.isEmpty = false := by
    rw [Lib.toList_data]
    cases h : chars.data.toList with
    | nil => have := Lib.size_eq chars; rw [h, List.length_nil] at this; omega
    | cons _ _ => rfl
  have hn1 : ((chars.size : Int) == 1) = false := beq_eq_false_iff_ne.2 (by omega)
  have h8z : decide ((8 : Int) < (s.size : Int)) = false := decide_eq_false (by omega)
  obtain ⟨K, hK⟩ : ∃ K, w.heap.size = K := ⟨_, rfl⟩
  have HK := Lib.hid hK
  go_enter Tryd.func42, Tryd.ntmps42
  go_wp2_with (go_at_call 48; refine (Tryd.strings_shouldUseASCIISet _ _).mono ?_; rintro e w' ⟨rfl, hw⟩; rw [hw, h8z])
  go_loopg [9, 10] s.size (fun g _ _ wx => ∃ i : Nat, i ≤ s.size ∧ s.size ≤ i + g ∧ wx.heap[K]? = some (.stringIter s i) ∧ Below K w wx ∧ Lib.NoAny s.data.toList chars.data.toList i)
  case atStart => exact ⟨0, by omega, by omega, by rw [← HK.out]; exact heap_alloc_new w _, by rw [← HK.out]; exact (Below.refl _ _).alloc (Nat.le_refl _) _, Lib.NoAny.zero _ _⟩
  case round =>
    obtain ⟨i, hi1, hi2, hheap, hbel, hno⟩ := hrel
    have HN := Lib.hid hno; clear hno
    have HB := Lib.hid hbel; clear hbel
    have HH := Lib.hid hheap; clear hheap
    by_cases hi : i < s.size
    · by_cases hx : (s[i]'hi).toNat < 128
      · have hnx := fun ty => Lib.run_next_ascii_at (P := Tryd.prog) wr K s i ty HH.out hi hx
        have hxl := Lib.data_getElem? s i hi
        obtain ⟨x, hxe⟩ : ∃ x : UInt8, s[i]'hi = x := ⟨_, rfl⟩
        rw [hxe] at hnx hx hxl
        clear hxe
        have Hx := Lib.hid hxl; clear hxl
        have hcon := Lib.contains_iff_indexByte chars.data.toList x
        have hback : ((x.toNat : Int)).toNat.toUInt8 = x := by simp
        have HI : Hid ((wr.iterAt K s (i + 1)).heap[K]? = some (.stringIter s (i + 1))) := Lib.iterAt_heap _ _ _ _ _ HH.out
        have HB2 : Hid (Below K w (wr.iterAt K s (i + 1))) := Lib.below_iterAt HB.out (Nat.le_refl _) _ _
        cases hin : chars.data.toList.contains x
        · rw [hin] at hcon
          have hlt : ¬ ((0 : Int) ≤ Lib.indexByte chars.data.toList x) := of_decide_eq_false hcon.symm
          clear hcon
          have HIN := Lib.hid hin; clear hin
          have HN2 := Lib.hid (HN.out.succ Hx.out HIN.out)
          go_wp2_with (go_at_call 47; refine (Tryd.strings_IndexRune_ascii _ _ _ (by omega) (by omega)).mono ?_; rintro e w' ⟨rfl, hw⟩; rw [hw, hback])
          go_roundg (gk - 1)
          case measure => omega
          case rel => exact ⟨i + 1, by omega, by omega, HI.out, HB2.out, HN2.out⟩
        · rw [hin] at hcon
          have hge : (0 : Int) ≤ Lib.indexByte chars.data.toList x := of_decide_eq_true hcon.symm
          clear hcon
          have HIN := Lib.hid hin; clear hin
          have HR := Lib.hid (Lib.indexAny_hit HN.out Hx.out HIN.out)
          go_wp2_with (go_at_call 47; refine (Tryd.strings_IndexRune_ascii _ _ _ (by omega) (by omega)).mono ?_; rintro e w' ⟨rfl, hw⟩; rw [hw, hback])
          go_ret
          exact ⟨by rw [HR.out]; rfl, by rw [HK.out]; exact HB2.out⟩
      · have hx : 128 ≤ (s[i]'hi).toNat := by omega
        have hnx := fun ty => Lib.run_next_any_at (P := Tryd.prog) wr K s i ty HH.out hi
        have hd := decode_high s i hi hx
        obtain ⟨d1, d2, d3⟩ := decode_span s i hi hx
        have HN2 := Lib.hid (noAny_span HA.out HN.out d3)
        clear d3
        obtain ⟨r, hr⟩ : ∃ r, (Utf8.decode s i).1 = r := ⟨_, rfl⟩
        obtain ⟨n, hn⟩ : ∃ n, (Utf8.decode s i).2 = n := ⟨_, rfl⟩
        rw [hr, hn] at hnx
        rw [hn] at HN2 d1 d2
        have hr128 := hd.1
        rw [hr] at hr128
        clear hd hr hn hx
        have HI := Lib.hid (Lib.iterAt_heap wr K s i (i + n) HH.out)
        have HB2 := Lib.hid (Lib.below_iterAt HB.out (Nat.le_refl _) s (i + n))
        have HL : Hid (K < (wr.iterAt K s (i + n)).heap.size) := heap_lt HI.out
        go_wp2_with (go_at_call 47; refine (indexRune_high _ _ _ (by omega) (by omega) HA.out (by omega)).mono ?_; rintro e w' ⟨rfl, hw⟩)
        go_roundg (gk - 1)
        case measure => omega
        case rel => exact ⟨i + n, by omega, by omega, (hw.block K HL.out).trans HI.out, HB2.out.trans (hw.mono (Nat.le_of_lt HL.out)), HN2.out⟩
    · have hnx := fun ty => Lib.run_next_end_at (P := Tryd.prog) wr K s i ty HH.out hi
      have hlen : i = s.data.toList.length := by rw [← Lib.size_eq]; omega
      have HR : Hid (Lib.indexAny s.data.toList chars.data.toList = -1) := Lib.indexAny_none (by rw [← hlen]; exact HN.out)
      clear hlen
      go_wp2
      go_ret
      exact ⟨by rw [HR.out]; rfl, by rw [HK.out]; exact HB.out⟩

theorem indexAny_any (s chars : ByteArray) (w : World) (hs : s.size < 4294967281) (h4 : 4 ≤ chars.size) (hcs : chars.size ≤ 1000) (ha : Ascii chars) :
    Calls Tryd.prog 42 #[.string s, .string chars] w fun e w' => e = .returned (.int .i64 (Lib.indexAny s.data.toList chars.data.toList)) ∧ Below w.heap.size w w' := by
  by_cases h8 : s.size ≤ 8
  · exact indexAny_short s chars w h4 hcs h8 ha
  · refine (Tryd.strings_IndexAny_long (fun _ => by kernel_rfl) s chars w (by omega) (by omega) hs (by omega) (ascii_list ha)).mono fun e w' ⟨h1, h2⟩ => ⟨h1, ?_⟩
    rw [h2]
    exact ((Below.refl _ _).alloc (Nat.le_refl _) _).alloc (by simp) _
end Go.Proofs.YtjndiielolphgaaDoor
