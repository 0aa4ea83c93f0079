/- The walk of (*csv.reader).end: it takes the end of a record. Conditions: the reader lies in a block of three cells, the place is inside the text. -/
import Derived.Test.YtjndiielolphgaaDoorCsvPlain
import Derived.Test.YtjndiielolphgaaDoorShelf
import Derived.Test.YtjndiielolphgaaDoorRows
import Derived.Test.YtjndiielolphgaaDoorKit
namespace Go.Proofs.YtjndiielolphgaaDoor
open Go.RowKit

theorem hasPrefix_is (s p : ByteArray) (w : World) (b : Bool) (h : Lib.hasPrefix s.data.toList p.data.toList = b) :
    Calls Tryd.prog 38 #[.string s, .string p] w fun e w' => e = .returned (.bool b) ∧ w' = w := by
  subst h; exact Tryd.strings_HasPrefix s p w

set_option maxHeartbeats 400000 in
theorem end_one (s : ByteArray) (i : Nat) (r : Nat) (w : World) (hs : s.size ≤ 4000000000) (hi : i ≤ s.size)
    (h0 : w.cell? ⟨r, 0, none⟩ = some (.string s)) (h1 : w.cell? ⟨r, 1, none⟩ = some (.int .i64 i)) (hf : w.frozen? ⟨r, 1, none⟩ = false)
    (p1 : Lib.hasPrefix (s.extract i s.size).data.toList [10] = true) :
    Calls Tryd.prog 36 #[.pointer (some ⟨r, 0, none⟩)] w fun e w' => e = .returned (.bool true) ∧ ∃ n, w' = (w.setCell ⟨r, 1, none⟩ (.int .i64 (i + 1))).drewN n := by
  have P1 := Lib.hid p1; clear p1
  have i0 : ∀ w, (Instr.index 88 (.agg #[.string { data := #[10] }, .string { data := #[13, 10] }]) (.int .i64 0)).run Tryd.prog w = .ok (.string { data := #[10] }) w := fun _ => by kernel_rfl
  go_enter Tryd.func36, Tryd.ntmps36
  go_wp2
  refine wp_loop_rounds 1 ?_
  rw [rounds_succ]
  go_wp2
  go_quiet ((go_at_call 38; exact Calls.quiet_of_same (hasPrefix_is _ _ _ true P1.out)))
  go_wp2
  go_ret
  exact ⟨rfl, _, rfl⟩
set_option maxHeartbeats 400000 in
theorem end_two (s : ByteArray) (i : Nat) (r : Nat) (w : World) (hs : s.size ≤ 4000000000) (hi : i ≤ s.size)
    (h0 : w.cell? ⟨r, 0, none⟩ = some (.string s)) (h1 : w.cell? ⟨r, 1, none⟩ = some (.int .i64 i)) (hf : w.frozen? ⟨r, 1, none⟩ = false)
    (p1 : Lib.hasPrefix (s.extract i s.size).data.toList [10] = false) (p2 : Lib.hasPrefix (s.extract i s.size).data.toList [13, 10] = true) :
    Calls Tryd.prog 36 #[.pointer (some ⟨r, 0, none⟩)] w fun e w' => e = .returned (.bool true) ∧ ∃ n, w' = (w.setCell ⟨r, 1, none⟩ (.int .i64 (i + 2))).drewN n := by
  have P1 := Lib.hid p1; clear p1
  have P2 := Lib.hid p2; clear p2
  have i0 : ∀ w, (Instr.index 88 (.agg #[.string { data := #[10] }, .string { data := #[13, 10] }]) (.int .i64 0)).run Tryd.prog w = .ok (.string { data := #[10] }) w := fun _ => by kernel_rfl
  have i1 : ∀ w, (Instr.index 88 (.agg #[.string { data := #[10] }, .string { data := #[13, 10] }]) (.int .i64 1)).run Tryd.prog w = .ok (.string { data := #[13, 10] }) w := fun _ => by kernel_rfl
  go_enter Tryd.func36, Tryd.ntmps36
  go_wp2
  refine wp_loop_rounds 2 ?_
  rw [rounds_succ]
  go_wp2
  go_quiet ((go_at_call 38; exact Calls.quiet_of_same (hasPrefix_is _ _ _ false P1.out)))
  go_wp2
  rw [rounds_succ]
  go_wp2
  go_quiet ((go_at_call 38; exact quiet_add_same (hasPrefix_is _ _ _ true P2.out)))
  go_wp2
  go_ret
  exact ⟨rfl, _, rfl⟩
set_option maxHeartbeats 400000 in
theorem end_none (s : ByteArray) (i : Nat) (r : Nat) (w : World) (hs : s.size ≤ 4000000000) (hi : i ≤ s.size)
    (h0 : w.cell? ⟨r, 0, none⟩ = some (.string s)) (h1 : w.cell? ⟨r, 1, none⟩ = some (.int .i64 i)) (hf : w.frozen? ⟨r, 1, none⟩ = false)
    (p1 : Lib.hasPrefix (s.extract i s.size).data.toList [10] = false) (p2 : Lib.hasPrefix (s.extract i s.size).data.toList [13, 10] = false) (b : Bool) (hb : (i == s.size) = b) :
    Calls Tryd.prog 36 #[.pointer (some ⟨r, 0, none⟩)] w fun e w' => e = .returned (.bool b) ∧ ∃ n, w' = w.drewN n := by
  have P1 := Lib.hid p1; clear p1
  have P2 := Lib.hid p2; clear p2
  have B := Lib.hid hb; clear hb
  have i0 : ∀ w, (Instr.index 88 (.agg #[.string { data := #[10] }, .string { data := #[13, 10] }]) (.int .i64 0)).run Tryd.prog w = .ok (.string { data := #[10] }) w := fun _ => by kernel_rfl
  have i1 : ∀ w, (Instr.index 88 (.agg #[.string { data := #[10] }, .string { data := #[13, 10] }]) (.int .i64 1)).run Tryd.prog w = .ok (.string { data := #[13, 10] }) w := fun _ => by kernel_rfl
  go_enter Tryd.func36, Tryd.ntmps36
  go_wp2
  refine wp_loop_rounds 3 ?_
  rw [rounds_succ]
  go_wp2
  go_quiet ((go_at_call 38; exact Calls.quiet_of_same (hasPrefix_is _ _ _ false P1.out)))
  go_wp2
  rw [rounds_succ]
  go_wp2
  go_quiet ((go_at_call 38; exact quiet_add_same (hasPrefix_is _ _ _ false P2.out)))
  go_wp2
  rw [rounds_succ]
  go_wp2
  go_quiet (fail)
  go_wp2
  go_ret
  exact ⟨by rw [← B.out]; exact ret_bool (int_beq _ _), _, by rw [World.drewN_drewN]⟩
end Go.Proofs.YtjndiielolphgaaDoor
