/- The walk of the reference's Rune: the character at the head of a text and its length, (0, 0) where there is none that is right. Conditions: the text is not empty. -/
import Derived.Test.YtjndiielolphgaaDoorRows
import Derived.Test.YtjndiielolphgaaDoorKit
import Derived.Lib.DecodeN
import Derived.Laws.BitsLemmas
import Derived.Laws.BitsAllLaws
namespace Go.Proofs.YtjndiielolphgaaDoor
open Go.RowKit

theorem wraps_i64' (n : Int) (h0 : 0 ≤ n) (h1 : n < 2 ^ 40) : IntKind.i64.wrap n = n := by rw [IntKind.wrap_i64]; omega
theorem i64_and31 (n : Nat) (h : n < 256) : bits .and .i64 (n : Int) 31 = (n : Int) % 32 := bits_mask .i64 40 (by decide) wraps_i64' 5 (by decide) n (by omega) (by omega)
theorem i64_and15 (n : Nat) (h : n < 256) : bits .and .i64 (n : Int) 15 = (n : Int) % 16 := bits_mask .i64 40 (by decide) wraps_i64' 4 (by decide) n (by omega) (by omega)
theorem i64_and7 (n : Nat) (h : n < 256) : bits .and .i64 (n : Int) 7 = (n : Int) % 8 := bits_mask .i64 40 (by decide) wraps_i64' 3 (by decide) n (by omega) (by omega)
theorem i64_join6 (x : Int) (y : Nat) (h0 : 0 ≤ x) (h1 : x < 1073741824) (_hy : y < 256) : bits .or .i64 (x * 64) ((y : Int) % 64) = x * 64 + (y : Int) % 64 :=
  bits_join .i64 40 (by decide) wraps_i64' 6 _ _ (by omega) (by omega) (by omega) (by omega) (by omega) (by omega)
theorem u8_and63 (n : Nat) (h : n < 256) : bits .and .u8 (n : Int) 63 = (n : Int) % 64 := by
  rw [show (63 : Int) = ((63 : Nat) : Int) from rfl, u8_and_nat n 63 h (by omega), nat_mask6]; omega
set_option maxRecDepth 100000 in
theorem nat_and192 : ∀ n, n < 256 → n &&& 192 = n / 64 * 64 := by decide
theorem u8_and192 (n : Nat) (h : n < 256) : bits .and .u8 (n : Int) 192 = ((n / 64 * 64 : Nat) : Int) := by
  rw [show (192 : Int) = ((192 : Nat) : Int) from rfl, u8_and_nat n 192 h (by omega), nat_and192 n h]
theorem cont_yes (n : Nat) (h : n < 256) (hc : n / 64 = 2) : bits .and .u8 (n : Int) 192 = 128 := by rw [u8_and192 n h, hc]; rfl
theorem cont_no (n : Nat) (h : n < 256) (hc : ¬ n / 64 = 2) : ((bits .and .u8 (n : Int) 192) != 128) = true := by
  rw [u8_and192 n h, bne_iff_ne]; omega

set_option maxHeartbeats 1000000 in
set_option maxRecDepth 100000 in
theorem rune_ascii (s : ByteArray) (x0 : Nat) (w : World) (hn : 1 ≤ s.size) (hs : s.size ≤ 4000000000) (h0 : (s[0]'(by omega)).toNat = x0) (m0 : x0 < 256) (u0 : x0 < 128) :
    Calls Tryd.prog 25 #[.string s] w fun e w' => e = .returned (.tuple #[.int .i64 x0, .int .i64 1]) ∧ w' = w := by
  go_enter Tryd.func25, Tryd.ntmps25
  go_wp2
  go_ret2
  exact ⟨rfl, rfl⟩
set_option maxHeartbeats 1000000 in
set_option maxRecDepth 100000 in
theorem rune_low (s : ByteArray) (x0 : Nat) (w : World) (hn : 1 ≤ s.size) (hs : s.size ≤ 4000000000) (h0 : (s[0]'(by omega)).toNat = x0) (m0 : x0 < 256) (l0 : 128 ≤ x0) (u0 : x0 < 194) :
    Calls Tryd.prog 25 #[.string s] w fun e w' => e = .returned (.tuple #[.int .i64 0, .int .i64 0]) ∧ w' = w := by
  go_enter Tryd.func25, Tryd.ntmps25
  go_wp2
  go_ret2
  exact ⟨rfl, rfl⟩
set_option maxHeartbeats 1000000 in
set_option maxRecDepth 100000 in
theorem rune_high (s : ByteArray) (x0 : Nat) (w : World) (hn : 1 ≤ s.size) (hs : s.size ≤ 4000000000) (h0 : (s[0]'(by omega)).toNat = x0) (m0 : x0 < 256) (l0 : 245 ≤ x0) :
    Calls Tryd.prog 25 #[.string s] w fun e w' => e = .returned (.tuple #[.int .i64 0, .int .i64 0]) ∧ w' = w := by
  go_enter Tryd.func25, Tryd.ntmps25
  go_wp2
  go_ret2
  exact ⟨rfl, rfl⟩
set_option maxHeartbeats 1000000 in
set_option maxRecDepth 100000 in
theorem rune_short2 (s : ByteArray) (x0 : Nat) (w : World) (hn : 1 ≤ s.size) (hs : s.size ≤ 4000000000) (h0 : (s[0]'(by omega)).toNat = x0) (m0 : x0 < 256) (l0 : 194 ≤ x0) (u0 : x0 < 224) (hk : s.size < 2) :
    Calls Tryd.prog 25 #[.string s] w fun e w' => e = .returned (.tuple #[.int .i64 0, .int .i64 0]) ∧ w' = w := by
  have bm := i64_and31 x0 m0
  go_enter Tryd.func25, Tryd.ntmps25
  go_wp2
  go_ret2
  exact ⟨rfl, rfl⟩
set_option maxHeartbeats 1000000 in
set_option maxRecDepth 100000 in
theorem rune_cont21 (s : ByteArray) (x0 x1 : Nat) (w : World) (hn : 2 ≤ s.size) (hs : s.size ≤ 4000000000) (h0 : (s[0]'(by omega)).toNat = x0) (m0 : x0 < 256) (h1 : (s[1]'(by omega)).toNat = x1) (m1 : x1 < 256) (l0 : 194 ≤ x0) (u0 : x0 < 224) (hk : 2 ≤ s.size)  (q1 : ¬ x1 / 64 = 2) :
    Calls Tryd.prog 25 #[.string s] w fun e w' => e = .returned (.tuple #[.int .i64 0, .int .i64 0]) ∧ w' = w := by
  have bm := i64_and31 x0 m0
  have c1 := cont_no x1 m1 q1
  clear q1
  go_enter Tryd.func25, Tryd.ntmps25
  go_wp2
  refine wp_loop_rounds 1 ?_
  rw [rounds_succ]
  go_wp2
  go_ret2
  exact ⟨rfl, rfl⟩
set_option maxHeartbeats 1000000 in
set_option maxRecDepth 100000 in
theorem rune_ok2 (s : ByteArray) (x0 x1 : Nat) (w : World) (hn : 2 ≤ s.size) (hs : s.size ≤ 4000000000) (h0 : (s[0]'(by omega)).toNat = x0) (m0 : x0 < 256) (h1 : (s[1]'(by omega)).toNat = x1) (m1 : x1 < 256) (l0 : 194 ≤ x0) (u0 : x0 < 224) (q1 : x1 / 64 = 2)  :
    Calls Tryd.prog 25 #[.string s] w fun e w' => e = .returned (.tuple #[.int .i64 (((x0 : Int) % 32) * 64 + (x1 : Int) % 64), .int .i64 2]) ∧ w' = w := by
  have bm := i64_and31 x0 m0
  have c1 := cont_yes x1 m1 q1
  have d1 := u8_and63 x1 m1
  have o1' := i64_join6 ((x0 : Int) % 32) x1 (by omega) (by omega) m1
  obtain ⟨c, hc⟩ : ∃ c : Int, ((x0 : Int) % 32) * 64 + (x1 : Int) % 64 = c := ⟨_, rfl⟩
  have o1 := o1'.trans hc
  clear o1'
  rw [hc]
  have t0 : decide (c < 128) = false := decide_eq_false (by omega)
  have t1 : decide (55296 ≤ c) = false := decide_eq_false (by omega)
  have t2 : decide (1114111 < c) = false := decide_eq_false (by omega)
  clear hc
  clear q1
  go_enter Tryd.func25, Tryd.ntmps25
  go_wp2
  refine wp_loop_rounds 2 ?_
  rw [rounds_succ]
  go_wp2
  rw [rounds_succ]
  go_wp2
  go_ret2
  exact ⟨rfl, rfl⟩
set_option maxHeartbeats 1000000 in
set_option maxRecDepth 100000 in
theorem rune_short3 (s : ByteArray) (x0 : Nat) (w : World) (hn : 1 ≤ s.size) (hs : s.size ≤ 4000000000) (h0 : (s[0]'(by omega)).toNat = x0) (m0 : x0 < 256) (l0 : 224 ≤ x0) (u0 : x0 < 240) (hk : s.size < 3) :
    Calls Tryd.prog 25 #[.string s] w fun e w' => e = .returned (.tuple #[.int .i64 0, .int .i64 0]) ∧ w' = w := by
  have bm := i64_and15 x0 m0
  go_enter Tryd.func25, Tryd.ntmps25
  go_wp2
  go_ret2
  exact ⟨rfl, rfl⟩
set_option maxHeartbeats 1000000 in
set_option maxRecDepth 100000 in
theorem rune_cont31 (s : ByteArray) (x0 x1 : Nat) (w : World) (hn : 2 ≤ s.size) (hs : s.size ≤ 4000000000) (h0 : (s[0]'(by omega)).toNat = x0) (m0 : x0 < 256) (h1 : (s[1]'(by omega)).toNat = x1) (m1 : x1 < 256) (l0 : 224 ≤ x0) (u0 : x0 < 240) (hk : 3 ≤ s.size)  (q1 : ¬ x1 / 64 = 2) :
    Calls Tryd.prog 25 #[.string s] w fun e w' => e = .returned (.tuple #[.int .i64 0, .int .i64 0]) ∧ w' = w := by
  have bm := i64_and15 x0 m0
  have c1 := cont_no x1 m1 q1
  clear q1
  go_enter Tryd.func25, Tryd.ntmps25
  go_wp2
  refine wp_loop_rounds 1 ?_
  rw [rounds_succ]
  go_wp2
  go_ret2
  exact ⟨rfl, rfl⟩
set_option maxHeartbeats 1000000 in
set_option maxRecDepth 100000 in
theorem rune_cont32 (s : ByteArray) (x0 x1 x2 : Nat) (w : World) (hn : 3 ≤ s.size) (hs : s.size ≤ 4000000000) (h0 : (s[0]'(by omega)).toNat = x0) (m0 : x0 < 256) (h1 : (s[1]'(by omega)).toNat = x1) (m1 : x1 < 256) (h2 : (s[2]'(by omega)).toNat = x2) (m2 : x2 < 256) (l0 : 224 ≤ x0) (u0 : x0 < 240) (hk : 3 ≤ s.size) (q1 : x1 / 64 = 2) (q2 : ¬ x2 / 64 = 2) :
    Calls Tryd.prog 25 #[.string s] w fun e w' => e = .returned (.tuple #[.int .i64 0, .int .i64 0]) ∧ w' = w := by
  have bm := i64_and15 x0 m0
  have c1 := cont_yes x1 m1 q1
  have d1 := u8_and63 x1 m1
  have o1 := i64_join6 ((x0 : Int) % 16) x1 (by omega) (by omega) m1
  have c2 := cont_no x2 m2 q2
  clear q1 q2
  go_enter Tryd.func25, Tryd.ntmps25
  go_wp2
  refine wp_loop_rounds 2 ?_
  rw [rounds_succ]
  go_wp2
  rw [rounds_succ]
  go_wp2
  go_ret2
  exact ⟨rfl, rfl⟩
set_option maxHeartbeats 1000000 in
set_option maxRecDepth 100000 in
theorem rune_ok3 (s : ByteArray) (x0 x1 x2 : Nat) (w : World) (hn : 3 ≤ s.size) (hs : s.size ≤ 4000000000) (h0 : (s[0]'(by omega)).toNat = x0) (m0 : x0 < 256) (h1 : (s[1]'(by omega)).toNat = x1) (m1 : x1 < 256) (h2 : (s[2]'(by omega)).toNat = x2) (m2 : x2 < 256) (l0 : 224 ≤ x0) (u0 : x0 < 240) (q1 : x1 / 64 = 2) (q2 : x2 / 64 = 2) (g1 : 2048 ≤ (((x0 : Int) % 16) * 64 + (x1 : Int) % 64) * 64 + (x2 : Int) % 64) (g2 : (((x0 : Int) % 16) * 64 + (x1 : Int) % 64) * 64 + (x2 : Int) % 64 < 55296) :
    Calls Tryd.prog 25 #[.string s] w fun e w' => e = .returned (.tuple #[.int .i64 ((((x0 : Int) % 16) * 64 + (x1 : Int) % 64) * 64 + (x2 : Int) % 64), .int .i64 3]) ∧ w' = w := by
  have bm := i64_and15 x0 m0
  have c1 := cont_yes x1 m1 q1
  have d1 := u8_and63 x1 m1
  have o1 := i64_join6 ((x0 : Int) % 16) x1 (by omega) (by omega) m1
  have c2 := cont_yes x2 m2 q2
  have d2 := u8_and63 x2 m2
  have o2' := i64_join6 (((x0 : Int) % 16) * 64 + (x1 : Int) % 64) x2 (by omega) (by omega) m2
  obtain ⟨c, hc⟩ : ∃ c : Int, (((x0 : Int) % 16) * 64 + (x1 : Int) % 64) * 64 + (x2 : Int) % 64 = c := ⟨_, rfl⟩
  have o2 := o2'.trans hc
  clear o2'
  rw [hc] at g1 g2
  rw [hc]
  have t0 : decide (c < 2048) = false := decide_eq_false (by omega)
  have t1 : decide (55296 ≤ c) = false := decide_eq_false (by omega)
  have t2 : decide (1114111 < c) = false := decide_eq_false (by omega)
  clear g1 g2
  clear hc
  clear q1 q2
  go_enter Tryd.func25, Tryd.ntmps25
  go_wp2
  refine wp_loop_rounds 3 ?_
  rw [rounds_succ]
  go_wp2
  rw [rounds_succ]
  go_wp2
  rw [rounds_succ]
  go_wp2
  go_ret2
  exact ⟨rfl, rfl⟩
set_option maxHeartbeats 1000000 in
set_option maxRecDepth 100000 in
theorem rune_okb3 (s : ByteArray) (x0 x1 x2 : Nat) (w : World) (hn : 3 ≤ s.size) (hs : s.size ≤ 4000000000) (h0 : (s[0]'(by omega)).toNat = x0) (m0 : x0 < 256) (h1 : (s[1]'(by omega)).toNat = x1) (m1 : x1 < 256) (h2 : (s[2]'(by omega)).toNat = x2) (m2 : x2 < 256) (l0 : 224 ≤ x0) (u0 : x0 < 240) (q1 : x1 / 64 = 2) (q2 : x2 / 64 = 2) (g1 : 57344 ≤ (((x0 : Int) % 16) * 64 + (x1 : Int) % 64) * 64 + (x2 : Int) % 64) :
    Calls Tryd.prog 25 #[.string s] w fun e w' => e = .returned (.tuple #[.int .i64 ((((x0 : Int) % 16) * 64 + (x1 : Int) % 64) * 64 + (x2 : Int) % 64), .int .i64 3]) ∧ w' = w := by
  have bm := i64_and15 x0 m0
  have c1 := cont_yes x1 m1 q1
  have d1 := u8_and63 x1 m1
  have o1 := i64_join6 ((x0 : Int) % 16) x1 (by omega) (by omega) m1
  have c2 := cont_yes x2 m2 q2
  have d2 := u8_and63 x2 m2
  have o2' := i64_join6 (((x0 : Int) % 16) * 64 + (x1 : Int) % 64) x2 (by omega) (by omega) m2
  obtain ⟨c, hc⟩ : ∃ c : Int, (((x0 : Int) % 16) * 64 + (x1 : Int) % 64) * 64 + (x2 : Int) % 64 = c := ⟨_, rfl⟩
  have o2 := o2'.trans hc
  clear o2'
  rw [hc] at g1
  rw [hc]
  have t0 : decide (c < 2048) = false := decide_eq_false (by omega)
  have t1 : decide (55296 ≤ c) = true := decide_eq_true (by omega)
  have t2 : decide (c < 57344) = false := decide_eq_false (by omega)
  have t3 : decide (1114111 < c) = false := decide_eq_false (by omega)
  clear g1
  clear hc
  clear q1 q2
  go_enter Tryd.func25, Tryd.ntmps25
  go_wp2
  refine wp_loop_rounds 3 ?_
  rw [rounds_succ]
  go_wp2
  rw [rounds_succ]
  go_wp2
  rw [rounds_succ]
  go_wp2
  go_ret2
  exact ⟨rfl, rfl⟩
set_option maxHeartbeats 1000000 in
set_option maxRecDepth 100000 in
theorem rune_low3 (s : ByteArray) (x0 x1 x2 : Nat) (w : World) (hn : 3 ≤ s.size) (hs : s.size ≤ 4000000000) (h0 : (s[0]'(by omega)).toNat = x0) (m0 : x0 < 256) (h1 : (s[1]'(by omega)).toNat = x1) (m1 : x1 < 256) (h2 : (s[2]'(by omega)).toNat = x2) (m2 : x2 < 256) (l0 : 224 ≤ x0) (u0 : x0 < 240) (q1 : x1 / 64 = 2) (q2 : x2 / 64 = 2) (g1 : (((x0 : Int) % 16) * 64 + (x1 : Int) % 64) * 64 + (x2 : Int) % 64 < 2048) :
    Calls Tryd.prog 25 #[.string s] w fun e w' => e = .returned (.tuple #[.int .i64 0, .int .i64 0]) ∧ w' = w := by
  have bm := i64_and15 x0 m0
  have c1 := cont_yes x1 m1 q1
  have d1 := u8_and63 x1 m1
  have o1 := i64_join6 ((x0 : Int) % 16) x1 (by omega) (by omega) m1
  have c2 := cont_yes x2 m2 q2
  have d2 := u8_and63 x2 m2
  have o2' := i64_join6 (((x0 : Int) % 16) * 64 + (x1 : Int) % 64) x2 (by omega) (by omega) m2
  obtain ⟨c, hc⟩ : ∃ c : Int, (((x0 : Int) % 16) * 64 + (x1 : Int) % 64) * 64 + (x2 : Int) % 64 = c := ⟨_, rfl⟩
  have o2 := o2'.trans hc
  clear o2'
  rw [hc] at g1
  have t0 : decide (c < 2048) = true := decide_eq_true (by omega)
  clear g1
  clear hc
  clear q1 q2
  go_enter Tryd.func25, Tryd.ntmps25
  go_wp2
  refine wp_loop_rounds 3 ?_
  rw [rounds_succ]
  go_wp2
  rw [rounds_succ]
  go_wp2
  rw [rounds_succ]
  go_wp2
  go_ret2
  exact ⟨rfl, rfl⟩
set_option maxHeartbeats 1000000 in
set_option maxRecDepth 100000 in
theorem rune_sur3 (s : ByteArray) (x0 x1 x2 : Nat) (w : World) (hn : 3 ≤ s.size) (hs : s.size ≤ 4000000000) (h0 : (s[0]'(by omega)).toNat = x0) (m0 : x0 < 256) (h1 : (s[1]'(by omega)).toNat = x1) (m1 : x1 < 256) (h2 : (s[2]'(by omega)).toNat = x2) (m2 : x2 < 256) (l0 : 224 ≤ x0) (u0 : x0 < 240) (q1 : x1 / 64 = 2) (q2 : x2 / 64 = 2) (g1 : 55296 ≤ (((x0 : Int) % 16) * 64 + (x1 : Int) % 64) * 64 + (x2 : Int) % 64) (g2 : (((x0 : Int) % 16) * 64 + (x1 : Int) % 64) * 64 + (x2 : Int) % 64 < 57344) :
    Calls Tryd.prog 25 #[.string s] w fun e w' => e = .returned (.tuple #[.int .i64 0, .int .i64 0]) ∧ w' = w := by
  have bm := i64_and15 x0 m0
  have c1 := cont_yes x1 m1 q1
  have d1 := u8_and63 x1 m1
  have o1 := i64_join6 ((x0 : Int) % 16) x1 (by omega) (by omega) m1
  have c2 := cont_yes x2 m2 q2
  have d2 := u8_and63 x2 m2
  have o2' := i64_join6 (((x0 : Int) % 16) * 64 + (x1 : Int) % 64) x2 (by omega) (by omega) m2
  obtain ⟨c, hc⟩ : ∃ c : Int, (((x0 : Int) % 16) * 64 + (x1 : Int) % 64) * 64 + (x2 : Int) % 64 = c := ⟨_, rfl⟩
  have o2 := o2'.trans hc
  clear o2'
  rw [hc] at g1 g2
  have t0 : decide (c < 2048) = false := decide_eq_false (by omega)
  have t1 : decide (55296 ≤ c) = true := decide_eq_true (by omega)
  have t2 : decide (c < 57344) = true := decide_eq_true (by omega)
  clear g1 g2
  clear hc
  clear q1 q2
  go_enter Tryd.func25, Tryd.ntmps25
  go_wp2
  refine wp_loop_rounds 3 ?_
  rw [rounds_succ]
  go_wp2
  rw [rounds_succ]
  go_wp2
  rw [rounds_succ]
  go_wp2
  go_ret2
  exact ⟨rfl, rfl⟩
set_option maxHeartbeats 1000000 in
set_option maxRecDepth 100000 in
theorem rune_short4 (s : ByteArray) (x0 : Nat) (w : World) (hn : 1 ≤ s.size) (hs : s.size ≤ 4000000000) (h0 : (s[0]'(by omega)).toNat = x0) (m0 : x0 < 256) (l0 : 240 ≤ x0) (u0 : x0 < 245) (hk : s.size < 4) :
    Calls Tryd.prog 25 #[.string s] w fun e w' => e = .returned (.tuple #[.int .i64 0, .int .i64 0]) ∧ w' = w := by
  have bm := i64_and7 x0 m0
  go_enter Tryd.func25, Tryd.ntmps25
  go_wp2
  go_ret2
  exact ⟨rfl, rfl⟩
set_option maxHeartbeats 1000000 in
set_option maxRecDepth 100000 in
theorem rune_cont41 (s : ByteArray) (x0 x1 : Nat) (w : World) (hn : 2 ≤ s.size) (hs : s.size ≤ 4000000000) (h0 : (s[0]'(by omega)).toNat = x0) (m0 : x0 < 256) (h1 : (s[1]'(by omega)).toNat = x1) (m1 : x1 < 256) (l0 : 240 ≤ x0) (u0 : x0 < 245) (hk : 4 ≤ s.size)  (q1 : ¬ x1 / 64 = 2) :
    Calls Tryd.prog 25 #[.string s] w fun e w' => e = .returned (.tuple #[.int .i64 0, .int .i64 0]) ∧ w' = w := by
  have bm := i64_and7 x0 m0
  have c1 := cont_no x1 m1 q1
  clear q1
  go_enter Tryd.func25, Tryd.ntmps25
  go_wp2
  refine wp_loop_rounds 1 ?_
  rw [rounds_succ]
  go_wp2
  go_ret2
  exact ⟨rfl, rfl⟩
set_option maxHeartbeats 1000000 in
set_option maxRecDepth 100000 in
theorem rune_cont42 (s : ByteArray) (x0 x1 x2 : Nat) (w : World) (hn : 3 ≤ s.size) (hs : s.size ≤ 4000000000) (h0 : (s[0]'(by omega)).toNat = x0) (m0 : x0 < 256) (h1 : (s[1]'(by omega)).toNat = x1) (m1 : x1 < 256) (h2 : (s[2]'(by omega)).toNat = x2) (m2 : x2 < 256) (l0 : 240 ≤ x0) (u0 : x0 < 245) (hk : 4 ≤ s.size) (q1 : x1 / 64 = 2) (q2 : ¬ x2 / 64 = 2) :
    Calls Tryd.prog 25 #[.string s] w fun e w' => e = .returned (.tuple #[.int .i64 0, .int .i64 0]) ∧ w' = w := by
  have bm := i64_and7 x0 m0
  have c1 := cont_yes x1 m1 q1
  have d1 := u8_and63 x1 m1
  have o1 := i64_join6 ((x0 : Int) % 8) x1 (by omega) (by omega) m1
  have c2 := cont_no x2 m2 q2
  clear q1 q2
  go_enter Tryd.func25, Tryd.ntmps25
  go_wp2
  refine wp_loop_rounds 2 ?_
  rw [rounds_succ]
  go_wp2
  rw [rounds_succ]
  go_wp2
  go_ret2
  exact ⟨rfl, rfl⟩
set_option maxHeartbeats 1000000 in
set_option maxRecDepth 100000 in
theorem rune_cont43 (s : ByteArray) (x0 x1 x2 x3 : Nat) (w : World) (hn : 4 ≤ s.size) (hs : s.size ≤ 4000000000) (h0 : (s[0]'(by omega)).toNat = x0) (m0 : x0 < 256) (h1 : (s[1]'(by omega)).toNat = x1) (m1 : x1 < 256) (h2 : (s[2]'(by omega)).toNat = x2) (m2 : x2 < 256) (h3 : (s[3]'(by omega)).toNat = x3) (m3 : x3 < 256) (l0 : 240 ≤ x0) (u0 : x0 < 245) (hk : 4 ≤ s.size) (q1 : x1 / 64 = 2) (q2 : x2 / 64 = 2) (q3 : ¬ x3 / 64 = 2) :
    Calls Tryd.prog 25 #[.string s] w fun e w' => e = .returned (.tuple #[.int .i64 0, .int .i64 0]) ∧ w' = w := by
  have bm := i64_and7 x0 m0
  have c1 := cont_yes x1 m1 q1
  have d1 := u8_and63 x1 m1
  have o1 := i64_join6 ((x0 : Int) % 8) x1 (by omega) (by omega) m1
  have c2 := cont_yes x2 m2 q2
  have d2 := u8_and63 x2 m2
  have o2 := i64_join6 (((x0 : Int) % 8) * 64 + (x1 : Int) % 64) x2 (by omega) (by omega) m2
  have c3 := cont_no x3 m3 q3
  clear q1 q2 q3
  go_enter Tryd.func25, Tryd.ntmps25
  go_wp2
  refine wp_loop_rounds 3 ?_
  rw [rounds_succ]
  go_wp2
  rw [rounds_succ]
  go_wp2
  rw [rounds_succ]
  go_wp2
  go_ret2
  exact ⟨rfl, rfl⟩
set_option maxHeartbeats 1000000 in
set_option maxRecDepth 100000 in
theorem rune_ok4 (s : ByteArray) (x0 x1 x2 x3 : Nat) (w : World) (hn : 4 ≤ s.size) (hs : s.size ≤ 4000000000) (h0 : (s[0]'(by omega)).toNat = x0) (m0 : x0 < 256) (h1 : (s[1]'(by omega)).toNat = x1) (m1 : x1 < 256) (h2 : (s[2]'(by omega)).toNat = x2) (m2 : x2 < 256) (h3 : (s[3]'(by omega)).toNat = x3) (m3 : x3 < 256) (l0 : 240 ≤ x0) (u0 : x0 < 245) (q1 : x1 / 64 = 2) (q2 : x2 / 64 = 2) (q3 : x3 / 64 = 2) (g1 : 65536 ≤ ((((x0 : Int) % 8) * 64 + (x1 : Int) % 64) * 64 + (x2 : Int) % 64) * 64 + (x3 : Int) % 64) (g2 : ((((x0 : Int) % 8) * 64 + (x1 : Int) % 64) * 64 + (x2 : Int) % 64) * 64 + (x3 : Int) % 64 ≤ 1114111) :
    Calls Tryd.prog 25 #[.string s] w fun e w' => e = .returned (.tuple #[.int .i64 (((((x0 : Int) % 8) * 64 + (x1 : Int) % 64) * 64 + (x2 : Int) % 64) * 64 + (x3 : Int) % 64), .int .i64 4]) ∧ w' = w := by
  have bm := i64_and7 x0 m0
  have c1 := cont_yes x1 m1 q1
  have d1 := u8_and63 x1 m1
  have o1 := i64_join6 ((x0 : Int) % 8) x1 (by omega) (by omega) m1
  have c2 := cont_yes x2 m2 q2
  have d2 := u8_and63 x2 m2
  have o2 := i64_join6 (((x0 : Int) % 8) * 64 + (x1 : Int) % 64) x2 (by omega) (by omega) m2
  have c3 := cont_yes x3 m3 q3
  have d3 := u8_and63 x3 m3
  have o3' := i64_join6 ((((x0 : Int) % 8) * 64 + (x1 : Int) % 64) * 64 + (x2 : Int) % 64) x3 (by omega) (by omega) m3
  obtain ⟨c, hc⟩ : ∃ c : Int, ((((x0 : Int) % 8) * 64 + (x1 : Int) % 64) * 64 + (x2 : Int) % 64) * 64 + (x3 : Int) % 64 = c := ⟨_, rfl⟩
  have o3 := o3'.trans hc
  clear o3'
  rw [hc] at g1 g2
  rw [hc]
  have t0 : decide (c < 65536) = false := decide_eq_false (by omega)
  have t1 : decide (55296 ≤ c) = true := decide_eq_true (by omega)
  have t2 : decide (c < 57344) = false := decide_eq_false (by omega)
  have t3 : decide (1114111 < c) = false := decide_eq_false (by omega)
  clear g1 g2
  clear hc
  clear q1 q2 q3
  go_enter Tryd.func25, Tryd.ntmps25
  go_wp2
  refine wp_loop_rounds 4 ?_
  rw [rounds_succ]
  go_wp2
  rw [rounds_succ]
  go_wp2
  rw [rounds_succ]
  go_wp2
  rw [rounds_succ]
  go_wp2
  go_ret2
  exact ⟨rfl, rfl⟩
set_option maxHeartbeats 1000000 in
set_option maxRecDepth 100000 in
theorem rune_low4 (s : ByteArray) (x0 x1 x2 x3 : Nat) (w : World) (hn : 4 ≤ s.size) (hs : s.size ≤ 4000000000) (h0 : (s[0]'(by omega)).toNat = x0) (m0 : x0 < 256) (h1 : (s[1]'(by omega)).toNat = x1) (m1 : x1 < 256) (h2 : (s[2]'(by omega)).toNat = x2) (m2 : x2 < 256) (h3 : (s[3]'(by omega)).toNat = x3) (m3 : x3 < 256) (l0 : 240 ≤ x0) (u0 : x0 < 245) (q1 : x1 / 64 = 2) (q2 : x2 / 64 = 2) (q3 : x3 / 64 = 2) (g1 : ((((x0 : Int) % 8) * 64 + (x1 : Int) % 64) * 64 + (x2 : Int) % 64) * 64 + (x3 : Int) % 64 < 65536) :
    Calls Tryd.prog 25 #[.string s] w fun e w' => e = .returned (.tuple #[.int .i64 0, .int .i64 0]) ∧ w' = w := by
  have bm := i64_and7 x0 m0
  have c1 := cont_yes x1 m1 q1
  have d1 := u8_and63 x1 m1
  have o1 := i64_join6 ((x0 : Int) % 8) x1 (by omega) (by omega) m1
  have c2 := cont_yes x2 m2 q2
  have d2 := u8_and63 x2 m2
  have o2 := i64_join6 (((x0 : Int) % 8) * 64 + (x1 : Int) % 64) x2 (by omega) (by omega) m2
  have c3 := cont_yes x3 m3 q3
  have d3 := u8_and63 x3 m3
  have o3' := i64_join6 ((((x0 : Int) % 8) * 64 + (x1 : Int) % 64) * 64 + (x2 : Int) % 64) x3 (by omega) (by omega) m3
  obtain ⟨c, hc⟩ : ∃ c : Int, ((((x0 : Int) % 8) * 64 + (x1 : Int) % 64) * 64 + (x2 : Int) % 64) * 64 + (x3 : Int) % 64 = c := ⟨_, rfl⟩
  have o3 := o3'.trans hc
  clear o3'
  rw [hc] at g1
  have t0 : decide (c < 65536) = true := decide_eq_true (by omega)
  clear g1
  clear hc
  clear q1 q2 q3
  go_enter Tryd.func25, Tryd.ntmps25
  go_wp2
  refine wp_loop_rounds 4 ?_
  rw [rounds_succ]
  go_wp2
  rw [rounds_succ]
  go_wp2
  rw [rounds_succ]
  go_wp2
  rw [rounds_succ]
  go_wp2
  go_ret2
  exact ⟨rfl, rfl⟩
set_option maxHeartbeats 1000000 in
set_option maxRecDepth 100000 in
theorem rune_big4 (s : ByteArray) (x0 x1 x2 x3 : Nat) (w : World) (hn : 4 ≤ s.size) (hs : s.size ≤ 4000000000) (h0 : (s[0]'(by omega)).toNat = x0) (m0 : x0 < 256) (h1 : (s[1]'(by omega)).toNat = x1) (m1 : x1 < 256) (h2 : (s[2]'(by omega)).toNat = x2) (m2 : x2 < 256) (h3 : (s[3]'(by omega)).toNat = x3) (m3 : x3 < 256) (l0 : 240 ≤ x0) (u0 : x0 < 245) (q1 : x1 / 64 = 2) (q2 : x2 / 64 = 2) (q3 : x3 / 64 = 2) (g1 : 1114111 < ((((x0 : Int) % 8) * 64 + (x1 : Int) % 64) * 64 + (x2 : Int) % 64) * 64 + (x3 : Int) % 64) :
    Calls Tryd.prog 25 #[.string s] w fun e w' => e = .returned (.tuple #[.int .i64 0, .int .i64 0]) ∧ w' = w := by
  have bm := i64_and7 x0 m0
  have c1 := cont_yes x1 m1 q1
  have d1 := u8_and63 x1 m1
  have o1 := i64_join6 ((x0 : Int) % 8) x1 (by omega) (by omega) m1
  have c2 := cont_yes x2 m2 q2
  have d2 := u8_and63 x2 m2
  have o2 := i64_join6 (((x0 : Int) % 8) * 64 + (x1 : Int) % 64) x2 (by omega) (by omega) m2
  have c3 := cont_yes x3 m3 q3
  have d3 := u8_and63 x3 m3
  have o3' := i64_join6 ((((x0 : Int) % 8) * 64 + (x1 : Int) % 64) * 64 + (x2 : Int) % 64) x3 (by omega) (by omega) m3
  obtain ⟨c, hc⟩ : ∃ c : Int, ((((x0 : Int) % 8) * 64 + (x1 : Int) % 64) * 64 + (x2 : Int) % 64) * 64 + (x3 : Int) % 64 = c := ⟨_, rfl⟩
  have o3 := o3'.trans hc
  clear o3'
  rw [hc] at g1
  have t0 : decide (c < 65536) = false := decide_eq_false (by omega)
  have t1 : decide (55296 ≤ c) = true := decide_eq_true (by omega)
  have t2 : decide (c < 57344) = false := decide_eq_false (by omega)
  have t3 : decide (1114111 < c) = true := decide_eq_true (by omega)
  clear g1
  clear hc
  clear q1 q2 q3
  go_enter Tryd.func25, Tryd.ntmps25
  go_wp2
  refine wp_loop_rounds 4 ?_
  rw [rounds_succ]
  go_wp2
  rw [rounds_succ]
  go_wp2
  rw [rounds_succ]
  go_wp2
  rw [rounds_succ]
  go_wp2
  go_ret2
  exact ⟨rfl, rfl⟩
end Go.Proofs.YtjndiielolphgaaDoor
