/- strings.IndexRune at a rune that is no ASCII one, in a text of ASCII bytes, four at least: it returns -1. Conditions: the text is of 4 to 1000 bytes, all ASCII; the rune is at least 128. -/
import Derived.Test.YtjndiielolphgaaDoorShelf
import Derived.Test.YtjndiielolphgaaDoorRows
import Derived.Test.YtjndiielolphgaaDoorKit
import Derived.Laws.Runes
import Derived.Deep.LoopGhost
namespace Go.Proofs.YtjndiielolphgaaDoor
open Go.RowKit

def Ascii (s : ByteArray) : Prop := ∀ j (h : j < s.size), (s[j]'h).toNat < 128

theorem indexByte_high (l : List UInt8) (c : UInt8) (h : ∀ b ∈ l, b.toNat < 128) (hc : 128 ≤ c.toNat) : Lib.indexByte l c = -1 := by
  induction l with
  | nil => rfl
  | cons b l ih =>
    have hb := h b (by simp)
    have hne : (b == c) = false := by
      rw [beq_eq_false_iff_ne]; rintro rfl; omega
    have := ih (fun x hx => h x (by simp [hx]))
    simp [Lib.indexByte, hne, this]

theorem ascii_mem {s : ByteArray} (h : Ascii s) (i j : Nat) : ∀ b ∈ (s.extract i j).data.toList, b.toNat < 128 := by
  intro b hb
  rw [Lib.extract_data] at hb
  have hb := List.mem_of_mem_drop (List.mem_of_mem_take hb)
  obtain ⟨k, hk, rfl⟩ := List.mem_iff_getElem.1 hb
  exact h k (by simpa using hk)

theorem indexByte_is (s : ByteArray) (c : Int) (w : World) (h : Lib.indexByte s.data.toList c.toNat.toUInt8 = -1) :
    Calls Tryd.prog 54 #[.string s, .int .u8 c] w fun e w' => e = .returned (.int .i64 (-1)) ∧ w' = w := by
  have := Tryd.strings_IndexByte s c w
  rw [h] at this
  exact this

set_option maxHeartbeats 1000000 in
set_option maxRecDepth 100000 in
theorem indexRune_bad (s : ByteArray) (r : Int) (w : World) (h128 : 128 ≤ r) (hne : (r == 65533) = false) (hv : Lib.validRune r = false) :
    Calls Tryd.prog 47 #[.string s, .int .i32 r] w fun e w' => e = .returned (.int .i64 (-1)) ∧ w' = w := by
  have V := Lib.hid hv; clear hv
  go_enter Tryd.func47, Tryd.ntmps47
  go_wp2_with (go_at_call 55; refine (Tryd.utf8_ValidRune _ _).mono ?_; rintro e w' ⟨rfl, rfl⟩; rw [V.out])
  go_ret
  exact ⟨rfl, rfl⟩

set_option maxHeartbeats 1000000 in
set_option maxRecDepth 100000 in
theorem indexRune_err (s : ByteArray) (w : World) (hs : s.size ≤ 1000) (ha : Ascii s) :
    Calls Tryd.prog 47 #[.string s, .int .i32 65533] w fun e w' => e = .returned (.int .i64 (-1)) ∧ Below w.heap.size w w' := by
  have HA := Lib.hid ha; clear ha
  go_enter Tryd.func47, Tryd.ntmps47
  go_wp2
  go_loopg [5, 6] s.size (fun g _ _ wx => ∃ i : Nat, i + g = s.size ∧ wx = w.iter s i)
  case atStart => exact ⟨0, by omega, rfl⟩
  case round =>
    obtain ⟨i, hig, rfl⟩ := hrel
    cases gk with
    | zero =>
      obtain rfl : i = s.size := by omega
      have hnx := run_next_end (P := Tryd.prog) w s s.size
      go_wp2
      go_ret
      exact ⟨rfl, (Below.refl _ _).alloc (Nat.le_refl _) _⟩
    | succ g =>
      have hi : i < s.size := by omega
      have hx := HA.out i hi
      obtain ⟨x, hxe⟩ : ∃ x : Nat, (s[i]'hi).toNat = x := ⟨_, rfl⟩
      have hnx := fun ty => run_next_ascii (P := Tryd.prog) w s i ty hi hx
      rw [hxe] at hnx hx
      clear hxe
      have hb : ((x : Int) == 65533) = false := by rw [beq_eq_false_iff_ne]; omega
      go_wp2
      go_roundg g
      case measure => omega
      case rel => exact ⟨i + 1, by omega, rfl⟩

set_option maxHeartbeats 1000000 in
set_option maxRecDepth 100000 in
theorem indexRune_valid (s : ByteArray) (r : Int) (w : World) (hs : s.size ≤ 1000) (h4 : 4 ≤ s.size) (ha : Ascii s) (h128 : 128 ≤ r) (hne : (r == 65533) = false) (hv : Lib.validRune r = true) (hu : Utf8.valid r = true) :
    Calls Tryd.prog 47 #[.string s, .int .i32 r] w fun e w' => e = .returned (.int .i64 (-1)) ∧ Below w.heap.size w w' := by
  have HA := Lib.hid ha; clear ha
  have V := Lib.hid hv; clear hv
  obtain ⟨f1, f2, f3⟩ := encode_facts r hu h128
  obtain ⟨rs, hrs⟩ : ∃ rs, Utf8.encode r = rs := ⟨_, rfl⟩
  rw [hrs] at f1 f2
  have f4 : ∀ h : rs.size - 1 < rs.size, 128 ≤ (rs[rs.size - 1]'h).toNat := by subst hrs; exact f3
  clear f3
  have hlt : rs.size - 1 < rs.size := by omega
  have g1 : rs.size - 1 < s.size := by omega
  have e : (rs.size : Int) - 1 = ((rs.size - 1 : Nat) : Int) := by omega
  have E := Lib.hid e; clear e
  have h5 := f4 hlt
  have h6 := HA.out _ g1
  obtain ⟨k, hk⟩ : ∃ k, rs.size - 1 = k := ⟨_, rfl⟩
  rw [hk] at hlt g1 E
  have hr : ∃ x : UInt8, rs[k]'hlt = x ∧ 128 ≤ x.toNat := ⟨_, rfl, by subst hk; exact h5⟩
  have hq : ∃ y : UInt8, s[k]'g1 = y ∧ y.toNat < 128 := ⟨_, rfl, by subst hk; exact h6⟩
  clear h5 h6 f4 hk
  obtain ⟨x, hx, hx2⟩ := hr
  obtain ⟨y, hy, hy2⟩ := hq
  have hxy : ((y.toNat : Int) != (x.toNat : Int)) = true := by rw [bne_iff_ne]; omega
  go_enter Tryd.func47, Tryd.ntmps47
  go_wp2_with (go_at_call 55; refine (Tryd.utf8_ValidRune _ _).mono ?_; rintro e w' ⟨rfl, rfl⟩; rw [V.out])
  go_step3
  go_wp2
  rw [E.out]
  refine wp_loop_rounds 1 ?_
  rw [rounds_succ]
  go_wp2
  go_step3
  go_wp2
  go_quiet (fail)
  go_wp2
  go_quiet ((go_at_call 54; exact quiet_add_same (indexByte_is _ _ _ (indexByte_high _ _ (ascii_mem HA.out _ _) (by simpa using hx2)))))
  go_wp2
  rw [Exit.noGoto_ret]
  go_wp2
  rw [Exit.noGoto_ret]
  go_wp2
  go_ret
  exact ⟨rfl, below_drewN (Below.refl _ _) _⟩

theorem valid_same (r : Int) : Lib.validRune r = Utf8.valid r := by
  rw [Bool.eq_iff_iff]; simp [Lib.validRune, Utf8.valid]; omega

/-- at whatever rune that is no ASCII one -/
theorem indexRune_high (s : ByteArray) (r : Int) (w : World) (hs : s.size ≤ 1000) (h4 : 4 ≤ s.size) (ha : Ascii s) (h128 : 128 ≤ r) :
    Calls Tryd.prog 47 #[.string s, .int .i32 r] w fun e w' => e = .returned (.int .i64 (-1)) ∧ Below w.heap.size w w' := by
  by_cases he : r = 65533
  · subst he; exact indexRune_err s w hs ha
  · have hne : (r == 65533) = false := by rw [beq_eq_false_iff_ne]; exact he
    cases hb : Lib.validRune r with
    | false => exact (indexRune_bad s r w h128 hne hb).mono fun _ _ ⟨h1, h2⟩ => ⟨h1, by rw [h2]; exact Below.refl _ _⟩
    | true => exact indexRune_valid s r w hs h4 ha h128 hne hb (by rw [← valid_same]; exact hb)
end Go.Proofs.YtjndiielolphgaaDoor
