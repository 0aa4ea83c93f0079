/- The two functions Char: both tell the same characters. Conditions: none for numbers from 0 on. -/
import Derived.Test.YtjndiielolphgaaDoorRows
import Derived.Test.YtjndiielolphgaaDoorKit
namespace Go.Proofs.YtjndiielolphgaaDoor
open Go.RowKit

def charOk (c : Nat) : Bool := decide (c = 9 ∨ c = 10 ∨ (32 ≤ c ∧ c ≤ 126) ∨ (160 ≤ c ∧ c < 55296) ∨ (57344 ≤ c ∧ c ≤ 1114111))
set_option maxHeartbeats 400000 in
theorem charR_0 (c : Nat) (w : World) (a0 : c ≤ 8) :
    Calls Tryd.prog 26 #[.int .i64 c] w fun e w' => e = .returned (.bool false) ∧ w' = w := by
  have t0 : ((c : Int) == 9) = false := by rw [beq_eq_false_iff_ne]; omega
  have t1 : ((c : Int) == 10) = false := by rw [beq_eq_false_iff_ne]; omega
  have t2 : decide ((32 : Int) ≤ c) = false := decide_eq_false (by omega)
  have t3 : decide ((c : Int) ≤ 126) = true := decide_eq_true (by omega)
  have t4 : decide ((160 : Int) ≤ c) = false := decide_eq_false (by omega)
  have t5 : decide ((c : Int) < 55296) = true := decide_eq_true (by omega)
  have t6 : decide ((57344 : Int) ≤ c) = false := decide_eq_false (by omega)
  have t7 : decide ((c : Int) ≤ 1114111) = true := decide_eq_true (by omega)
  clear a0
  go_enter Tryd.func26, Tryd.ntmps26
  go_wp2
  go_ret
  exact ⟨rfl, rfl⟩
set_option maxHeartbeats 400000 in
theorem charR_9 (c : Nat) (w : World) (a0 : 9 ≤ c) (a1 : c ≤ 9) :
    Calls Tryd.prog 26 #[.int .i64 c] w fun e w' => e = .returned (.bool true) ∧ w' = w := by
  have t0 : ((c : Int) == 9) = true := by rw [beq_iff_eq]; omega
  have t1 : ((c : Int) == 10) = false := by rw [beq_eq_false_iff_ne]; omega
  have t2 : decide ((32 : Int) ≤ c) = false := decide_eq_false (by omega)
  have t3 : decide ((c : Int) ≤ 126) = true := decide_eq_true (by omega)
  have t4 : decide ((160 : Int) ≤ c) = false := decide_eq_false (by omega)
  have t5 : decide ((c : Int) < 55296) = true := decide_eq_true (by omega)
  have t6 : decide ((57344 : Int) ≤ c) = false := decide_eq_false (by omega)
  have t7 : decide ((c : Int) ≤ 1114111) = true := decide_eq_true (by omega)
  clear a0 a1
  go_enter Tryd.func26, Tryd.ntmps26
  go_wp2
  go_ret
  exact ⟨rfl, rfl⟩
set_option maxHeartbeats 400000 in
theorem charR_10 (c : Nat) (w : World) (a0 : 10 ≤ c) (a1 : c ≤ 10) :
    Calls Tryd.prog 26 #[.int .i64 c] w fun e w' => e = .returned (.bool true) ∧ w' = w := by
  have t0 : ((c : Int) == 9) = false := by rw [beq_eq_false_iff_ne]; omega
  have t1 : ((c : Int) == 10) = true := by rw [beq_iff_eq]; omega
  have t2 : decide ((32 : Int) ≤ c) = false := decide_eq_false (by omega)
  have t3 : decide ((c : Int) ≤ 126) = true := decide_eq_true (by omega)
  have t4 : decide ((160 : Int) ≤ c) = false := decide_eq_false (by omega)
  have t5 : decide ((c : Int) < 55296) = true := decide_eq_true (by omega)
  have t6 : decide ((57344 : Int) ≤ c) = false := decide_eq_false (by omega)
  have t7 : decide ((c : Int) ≤ 1114111) = true := decide_eq_true (by omega)
  clear a0 a1
  go_enter Tryd.func26, Tryd.ntmps26
  go_wp2
  go_ret
  exact ⟨rfl, rfl⟩
set_option maxHeartbeats 400000 in
theorem charR_11 (c : Nat) (w : World) (a0 : 11 ≤ c) (a1 : c ≤ 31) :
    Calls Tryd.prog 26 #[.int .i64 c] w fun e w' => e = .returned (.bool false) ∧ w' = w := by
  have t0 : ((c : Int) == 9) = false := by rw [beq_eq_false_iff_ne]; omega
  have t1 : ((c : Int) == 10) = false := by rw [beq_eq_false_iff_ne]; omega
  have t2 : decide ((32 : Int) ≤ c) = false := decide_eq_false (by omega)
  have t3 : decide ((c : Int) ≤ 126) = true := decide_eq_true (by omega)
  have t4 : decide ((160 : Int) ≤ c) = false := decide_eq_false (by omega)
  have t5 : decide ((c : Int) < 55296) = true := decide_eq_true (by omega)
  have t6 : decide ((57344 : Int) ≤ c) = false := decide_eq_false (by omega)
  have t7 : decide ((c : Int) ≤ 1114111) = true := decide_eq_true (by omega)
  clear a0 a1
  go_enter Tryd.func26, Tryd.ntmps26
  go_wp2
  go_ret
  exact ⟨rfl, rfl⟩
set_option maxHeartbeats 400000 in
theorem charR_32 (c : Nat) (w : World) (a0 : 32 ≤ c) (a1 : c ≤ 126) :
    Calls Tryd.prog 26 #[.int .i64 c] w fun e w' => e = .returned (.bool true) ∧ w' = w := by
  have t0 : ((c : Int) == 9) = false := by rw [beq_eq_false_iff_ne]; omega
  have t1 : ((c : Int) == 10) = false := by rw [beq_eq_false_iff_ne]; omega
  have t2 : decide ((32 : Int) ≤ c) = true := decide_eq_true (by omega)
  have t3 : decide ((c : Int) ≤ 126) = true := decide_eq_true (by omega)
  have t4 : decide ((160 : Int) ≤ c) = false := decide_eq_false (by omega)
  have t5 : decide ((c : Int) < 55296) = true := decide_eq_true (by omega)
  have t6 : decide ((57344 : Int) ≤ c) = false := decide_eq_false (by omega)
  have t7 : decide ((c : Int) ≤ 1114111) = true := decide_eq_true (by omega)
  clear a0 a1
  go_enter Tryd.func26, Tryd.ntmps26
  go_wp2
  go_ret
  exact ⟨rfl, rfl⟩
set_option maxHeartbeats 400000 in
theorem charR_127 (c : Nat) (w : World) (a0 : 127 ≤ c) (a1 : c ≤ 159) :
    Calls Tryd.prog 26 #[.int .i64 c] w fun e w' => e = .returned (.bool false) ∧ w' = w := by
  have t0 : ((c : Int) == 9) = false := by rw [beq_eq_false_iff_ne]; omega
  have t1 : ((c : Int) == 10) = false := by rw [beq_eq_false_iff_ne]; omega
  have t2 : decide ((32 : Int) ≤ c) = true := decide_eq_true (by omega)
  have t3 : decide ((c : Int) ≤ 126) = false := decide_eq_false (by omega)
  have t4 : decide ((160 : Int) ≤ c) = false := decide_eq_false (by omega)
  have t5 : decide ((c : Int) < 55296) = true := decide_eq_true (by omega)
  have t6 : decide ((57344 : Int) ≤ c) = false := decide_eq_false (by omega)
  have t7 : decide ((c : Int) ≤ 1114111) = true := decide_eq_true (by omega)
  clear a0 a1
  go_enter Tryd.func26, Tryd.ntmps26
  go_wp2
  go_ret
  exact ⟨rfl, rfl⟩
set_option maxHeartbeats 400000 in
theorem charR_160 (c : Nat) (w : World) (a0 : 160 ≤ c) (a1 : c ≤ 55295) :
    Calls Tryd.prog 26 #[.int .i64 c] w fun e w' => e = .returned (.bool true) ∧ w' = w := by
  have t0 : ((c : Int) == 9) = false := by rw [beq_eq_false_iff_ne]; omega
  have t1 : ((c : Int) == 10) = false := by rw [beq_eq_false_iff_ne]; omega
  have t2 : decide ((32 : Int) ≤ c) = true := decide_eq_true (by omega)
  have t3 : decide ((c : Int) ≤ 126) = false := decide_eq_false (by omega)
  have t4 : decide ((160 : Int) ≤ c) = true := decide_eq_true (by omega)
  have t5 : decide ((c : Int) < 55296) = true := decide_eq_true (by omega)
  have t6 : decide ((57344 : Int) ≤ c) = false := decide_eq_false (by omega)
  have t7 : decide ((c : Int) ≤ 1114111) = true := decide_eq_true (by omega)
  clear a0 a1
  go_enter Tryd.func26, Tryd.ntmps26
  go_wp2
  go_ret
  exact ⟨rfl, rfl⟩
set_option maxHeartbeats 400000 in
theorem charR_55296 (c : Nat) (w : World) (a0 : 55296 ≤ c) (a1 : c ≤ 57343) :
    Calls Tryd.prog 26 #[.int .i64 c] w fun e w' => e = .returned (.bool false) ∧ w' = w := by
  have t0 : ((c : Int) == 9) = false := by rw [beq_eq_false_iff_ne]; omega
  have t1 : ((c : Int) == 10) = false := by rw [beq_eq_false_iff_ne]; omega
  have t2 : decide ((32 : Int) ≤ c) = true := decide_eq_true (by omega)
  have t3 : decide ((c : Int) ≤ 126) = false := decide_eq_false (by omega)
  have t4 : decide ((160 : Int) ≤ c) = true := decide_eq_true (by omega)
  have t5 : decide ((c : Int) < 55296) = false := decide_eq_false (by omega)
  have t6 : decide ((57344 : Int) ≤ c) = false := decide_eq_false (by omega)
  have t7 : decide ((c : Int) ≤ 1114111) = true := decide_eq_true (by omega)
  clear a0 a1
  go_enter Tryd.func26, Tryd.ntmps26
  go_wp2
  go_ret
  exact ⟨rfl, rfl⟩
set_option maxHeartbeats 400000 in
theorem charR_57344 (c : Nat) (w : World) (a0 : 57344 ≤ c) (a1 : c ≤ 1114111) :
    Calls Tryd.prog 26 #[.int .i64 c] w fun e w' => e = .returned (.bool true) ∧ w' = w := by
  have t0 : ((c : Int) == 9) = false := by rw [beq_eq_false_iff_ne]; omega
  have t1 : ((c : Int) == 10) = false := by rw [beq_eq_false_iff_ne]; omega
  have t2 : decide ((32 : Int) ≤ c) = true := decide_eq_true (by omega)
  have t3 : decide ((c : Int) ≤ 126) = false := decide_eq_false (by omega)
  have t4 : decide ((160 : Int) ≤ c) = true := decide_eq_true (by omega)
  have t5 : decide ((c : Int) < 55296) = false := decide_eq_false (by omega)
  have t6 : decide ((57344 : Int) ≤ c) = true := decide_eq_true (by omega)
  have t7 : decide ((c : Int) ≤ 1114111) = true := decide_eq_true (by omega)
  clear a0 a1
  go_enter Tryd.func26, Tryd.ntmps26
  go_wp2
  go_ret
  exact ⟨rfl, rfl⟩
set_option maxHeartbeats 400000 in
theorem charR_1114112 (c : Nat) (w : World) (a0 : 1114112 ≤ c) :
    Calls Tryd.prog 26 #[.int .i64 c] w fun e w' => e = .returned (.bool false) ∧ w' = w := by
  have t0 : ((c : Int) == 9) = false := by rw [beq_eq_false_iff_ne]; omega
  have t1 : ((c : Int) == 10) = false := by rw [beq_eq_false_iff_ne]; omega
  have t2 : decide ((32 : Int) ≤ c) = true := decide_eq_true (by omega)
  have t3 : decide ((c : Int) ≤ 126) = false := decide_eq_false (by omega)
  have t4 : decide ((160 : Int) ≤ c) = true := decide_eq_true (by omega)
  have t5 : decide ((c : Int) < 55296) = false := decide_eq_false (by omega)
  have t6 : decide ((57344 : Int) ≤ c) = true := decide_eq_true (by omega)
  have t7 : decide ((c : Int) ≤ 1114111) = false := decide_eq_false (by omega)
  clear a0
  go_enter Tryd.func26, Tryd.ntmps26
  go_wp2
  go_ret
  exact ⟨rfl, rfl⟩
theorem charR_any (c : Nat) (w : World) :
    Calls Tryd.prog 26 #[.int .i64 c] w fun e w' => e = .returned (.bool (charOk c)) ∧ w' = w := by
  by_cases h8 : c ≤ 8
  · have e : charOk c = false := decide_eq_false (by omega)
    rw [e]
    exact charR_0 c w (by omega)
  by_cases h9 : c ≤ 9
  · have e : charOk c = true := decide_eq_true (by omega)
    rw [e]
    exact charR_9 c w (by omega) (by omega)
  by_cases h10 : c ≤ 10
  · have e : charOk c = true := decide_eq_true (by omega)
    rw [e]
    exact charR_10 c w (by omega) (by omega)
  by_cases h31 : c ≤ 31
  · have e : charOk c = false := decide_eq_false (by omega)
    rw [e]
    exact charR_11 c w (by omega) (by omega)
  by_cases h126 : c ≤ 126
  · have e : charOk c = true := decide_eq_true (by omega)
    rw [e]
    exact charR_32 c w (by omega) (by omega)
  by_cases h159 : c ≤ 159
  · have e : charOk c = false := decide_eq_false (by omega)
    rw [e]
    exact charR_127 c w (by omega) (by omega)
  by_cases h55295 : c ≤ 55295
  · have e : charOk c = true := decide_eq_true (by omega)
    rw [e]
    exact charR_160 c w (by omega) (by omega)
  by_cases h57343 : c ≤ 57343
  · have e : charOk c = false := decide_eq_false (by omega)
    rw [e]
    exact charR_55296 c w (by omega) (by omega)
  by_cases h1114111 : c ≤ 1114111
  · have e : charOk c = true := decide_eq_true (by omega)
    rw [e]
    exact charR_57344 c w (by omega) (by omega)
  have e : charOk c = false := decide_eq_false (by omega)
  rw [e]
  exact charR_1114112 c w (by omega)
set_option maxHeartbeats 400000 in
theorem charF_0 (c : Nat) (w : World) (a0 : c ≤ 8) :
    Calls Tryd.prog 39 #[.int .i64 c] w fun e w' => e = .returned (.bool false) ∧ w' = w := by
  have t0 : ((c : Int) == 9) = false := by rw [beq_eq_false_iff_ne]; omega
  have t1 : ((c : Int) == 10) = false := by rw [beq_eq_false_iff_ne]; omega
  have t2 : decide ((32 : Int) ≤ c) = false := decide_eq_false (by omega)
  have t3 : decide ((c : Int) < 127) = true := decide_eq_true (by omega)
  have t4 : decide ((160 : Int) ≤ c) = false := decide_eq_false (by omega)
  have t5 : decide ((c : Int) < 55296) = true := decide_eq_true (by omega)
  have t6 : decide ((57343 : Int) < c) = false := decide_eq_false (by omega)
  have t7 : decide ((c : Int) ≤ 1114111) = true := decide_eq_true (by omega)
  clear a0
  go_enter Tryd.func39, Tryd.ntmps39
  go_wp2
  go_ret
  exact ⟨rfl, rfl⟩
set_option maxHeartbeats 400000 in
theorem charF_9 (c : Nat) (w : World) (a0 : 9 ≤ c) (a1 : c ≤ 9) :
    Calls Tryd.prog 39 #[.int .i64 c] w fun e w' => e = .returned (.bool true) ∧ w' = w := by
  have t0 : ((c : Int) == 9) = true := by rw [beq_iff_eq]; omega
  have t1 : ((c : Int) == 10) = false := by rw [beq_eq_false_iff_ne]; omega
  have t2 : decide ((32 : Int) ≤ c) = false := decide_eq_false (by omega)
  have t3 : decide ((c : Int) < 127) = true := decide_eq_true (by omega)
  have t4 : decide ((160 : Int) ≤ c) = false := decide_eq_false (by omega)
  have t5 : decide ((c : Int) < 55296) = true := decide_eq_true (by omega)
  have t6 : decide ((57343 : Int) < c) = false := decide_eq_false (by omega)
  have t7 : decide ((c : Int) ≤ 1114111) = true := decide_eq_true (by omega)
  clear a0 a1
  go_enter Tryd.func39, Tryd.ntmps39
  go_wp2
  go_ret
  exact ⟨rfl, rfl⟩
set_option maxHeartbeats 400000 in
theorem charF_10 (c : Nat) (w : World) (a0 : 10 ≤ c) (a1 : c ≤ 10) :
    Calls Tryd.prog 39 #[.int .i64 c] w fun e w' => e = .returned (.bool true) ∧ w' = w := by
  have t0 : ((c : Int) == 9) = false := by rw [beq_eq_false_iff_ne]; omega
  have t1 : ((c : Int) == 10) = true := by rw [beq_iff_eq]; omega
  have t2 : decide ((32 : Int) ≤ c) = false := decide_eq_false (by omega)
  have t3 : decide ((c : Int) < 127) = true := decide_eq_true (by omega)
  have t4 : decide ((160 : Int) ≤ c) = false := decide_eq_false (by omega)
  have t5 : decide ((c : Int) < 55296) = true := decide_eq_true (by omega)
  have t6 : decide ((57343 : Int) < c) = false := decide_eq_false (by omega)
  have t7 : decide ((c : Int) ≤ 1114111) = true := decide_eq_true (by omega)
  clear a0 a1
  go_enter Tryd.func39, Tryd.ntmps39
  go_wp2
  go_ret
  exact ⟨rfl, rfl⟩
set_option maxHeartbeats 400000 in
theorem charF_11 (c : Nat) (w : World) (a0 : 11 ≤ c) (a1 : c ≤ 31) :
    Calls Tryd.prog 39 #[.int .i64 c] w fun e w' => e = .returned (.bool false) ∧ w' = w := by
  have t0 : ((c : Int) == 9) = false := by rw [beq_eq_false_iff_ne]; omega
  have t1 : ((c : Int) == 10) = false := by rw [beq_eq_false_iff_ne]; omega
  have t2 : decide ((32 : Int) ≤ c) = false := decide_eq_false (by omega)
  have t3 : decide ((c : Int) < 127) = true := decide_eq_true (by omega)
  have t4 : decide ((160 : Int) ≤ c) = false := decide_eq_false (by omega)
  have t5 : decide ((c : Int) < 55296) = true := decide_eq_true (by omega)
  have t6 : decide ((57343 : Int) < c) = false := decide_eq_false (by omega)
  have t7 : decide ((c : Int) ≤ 1114111) = true := decide_eq_true (by omega)
  clear a0 a1
  go_enter Tryd.func39, Tryd.ntmps39
  go_wp2
  go_ret
  exact ⟨rfl, rfl⟩
set_option maxHeartbeats 400000 in
theorem charF_32 (c : Nat) (w : World) (a0 : 32 ≤ c) (a1 : c ≤ 126) :
    Calls Tryd.prog 39 #[.int .i64 c] w fun e w' => e = .returned (.bool true) ∧ w' = w := by
  have t0 : ((c : Int) == 9) = false := by rw [beq_eq_false_iff_ne]; omega
  have t1 : ((c : Int) == 10) = false := by rw [beq_eq_false_iff_ne]; omega
  have t2 : decide ((32 : Int) ≤ c) = true := decide_eq_true (by omega)
  have t3 : decide ((c : Int) < 127) = true := decide_eq_true (by omega)
  have t4 : decide ((160 : Int) ≤ c) = false := decide_eq_false (by omega)
  have t5 : decide ((c : Int) < 55296) = true := decide_eq_true (by omega)
  have t6 : decide ((57343 : Int) < c) = false := decide_eq_false (by omega)
  have t7 : decide ((c : Int) ≤ 1114111) = true := decide_eq_true (by omega)
  clear a0 a1
  go_enter Tryd.func39, Tryd.ntmps39
  go_wp2
  go_ret
  exact ⟨rfl, rfl⟩
set_option maxHeartbeats 400000 in
theorem charF_127 (c : Nat) (w : World) (a0 : 127 ≤ c) (a1 : c ≤ 159) :
    Calls Tryd.prog 39 #[.int .i64 c] w fun e w' => e = .returned (.bool false) ∧ w' = w := by
  have t0 : ((c : Int) == 9) = false := by rw [beq_eq_false_iff_ne]; omega
  have t1 : ((c : Int) == 10) = false := by rw [beq_eq_false_iff_ne]; omega
  have t2 : decide ((32 : Int) ≤ c) = true := decide_eq_true (by omega)
  have t3 : decide ((c : Int) < 127) = false := decide_eq_false (by omega)
  have t4 : decide ((160 : Int) ≤ c) = false := decide_eq_false (by omega)
  have t5 : decide ((c : Int) < 55296) = true := decide_eq_true (by omega)
  have t6 : decide ((57343 : Int) < c) = false := decide_eq_false (by omega)
  have t7 : decide ((c : Int) ≤ 1114111) = true := decide_eq_true (by omega)
  clear a0 a1
  go_enter Tryd.func39, Tryd.ntmps39
  go_wp2
  go_ret
  exact ⟨rfl, rfl⟩
set_option maxHeartbeats 400000 in
theorem charF_160 (c : Nat) (w : World) (a0 : 160 ≤ c) (a1 : c ≤ 55295) :
    Calls Tryd.prog 39 #[.int .i64 c] w fun e w' => e = .returned (.bool true) ∧ w' = w := by
  have t0 : ((c : Int) == 9) = false := by rw [beq_eq_false_iff_ne]; omega
  have t1 : ((c : Int) == 10) = false := by rw [beq_eq_false_iff_ne]; omega
  have t2 : decide ((32 : Int) ≤ c) = true := decide_eq_true (by omega)
  have t3 : decide ((c : Int) < 127) = false := decide_eq_false (by omega)
  have t4 : decide ((160 : Int) ≤ c) = true := decide_eq_true (by omega)
  have t5 : decide ((c : Int) < 55296) = true := decide_eq_true (by omega)
  have t6 : decide ((57343 : Int) < c) = false := decide_eq_false (by omega)
  have t7 : decide ((c : Int) ≤ 1114111) = true := decide_eq_true (by omega)
  clear a0 a1
  go_enter Tryd.func39, Tryd.ntmps39
  go_wp2
  go_ret
  exact ⟨rfl, rfl⟩
set_option maxHeartbeats 400000 in
theorem charF_55296 (c : Nat) (w : World) (a0 : 55296 ≤ c) (a1 : c ≤ 57343) :
    Calls Tryd.prog 39 #[.int .i64 c] w fun e w' => e = .returned (.bool false) ∧ w' = w := by
  have t0 : ((c : Int) == 9) = false := by rw [beq_eq_false_iff_ne]; omega
  have t1 : ((c : Int) == 10) = false := by rw [beq_eq_false_iff_ne]; omega
  have t2 : decide ((32 : Int) ≤ c) = true := decide_eq_true (by omega)
  have t3 : decide ((c : Int) < 127) = false := decide_eq_false (by omega)
  have t4 : decide ((160 : Int) ≤ c) = true := decide_eq_true (by omega)
  have t5 : decide ((c : Int) < 55296) = false := decide_eq_false (by omega)
  have t6 : decide ((57343 : Int) < c) = false := decide_eq_false (by omega)
  have t7 : decide ((c : Int) ≤ 1114111) = true := decide_eq_true (by omega)
  clear a0 a1
  go_enter Tryd.func39, Tryd.ntmps39
  go_wp2
  go_ret
  exact ⟨rfl, rfl⟩
set_option maxHeartbeats 400000 in
theorem charF_57344 (c : Nat) (w : World) (a0 : 57344 ≤ c) (a1 : c ≤ 1114111) :
    Calls Tryd.prog 39 #[.int .i64 c] w fun e w' => e = .returned (.bool true) ∧ w' = w := by
  have t0 : ((c : Int) == 9) = false := by rw [beq_eq_false_iff_ne]; omega
  have t1 : ((c : Int) == 10) = false := by rw [beq_eq_false_iff_ne]; omega
  have t2 : decide ((32 : Int) ≤ c) = true := decide_eq_true (by omega)
  have t3 : decide ((c : Int) < 127) = false := decide_eq_false (by omega)
  have t4 : decide ((160 : Int) ≤ c) = true := decide_eq_true (by omega)
  have t5 : decide ((c : Int) < 55296) = false := decide_eq_false (by omega)
  have t6 : decide ((57343 : Int) < c) = true := decide_eq_true (by omega)
  have t7 : decide ((c : Int) ≤ 1114111) = true := decide_eq_true (by omega)
  clear a0 a1
  go_enter Tryd.func39, Tryd.ntmps39
  go_wp2
  go_ret
  exact ⟨rfl, rfl⟩
set_option maxHeartbeats 400000 in
theorem charF_1114112 (c : Nat) (w : World) (a0 : 1114112 ≤ c) :
    Calls Tryd.prog 39 #[.int .i64 c] w fun e w' => e = .returned (.bool false) ∧ w' = w := by
  have t0 : ((c : Int) == 9) = false := by rw [beq_eq_false_iff_ne]; omega
  have t1 : ((c : Int) == 10) = false := by rw [beq_eq_false_iff_ne]; omega
  have t2 : decide ((32 : Int) ≤ c) = true := decide_eq_true (by omega)
  have t3 : decide ((c : Int) < 127) = false := decide_eq_false (by omega)
  have t4 : decide ((160 : Int) ≤ c) = true := decide_eq_true (by omega)
  have t5 : decide ((c : Int) < 55296) = false := decide_eq_false (by omega)
  have t6 : decide ((57343 : Int) < c) = true := decide_eq_true (by omega)
  have t7 : decide ((c : Int) ≤ 1114111) = false := decide_eq_false (by omega)
  clear a0
  go_enter Tryd.func39, Tryd.ntmps39
  go_wp2
  go_ret
  exact ⟨rfl, rfl⟩
theorem charF_any (c : Nat) (w : World) :
    Calls Tryd.prog 39 #[.int .i64 c] w fun e w' => e = .returned (.bool (charOk c)) ∧ w' = w := by
  by_cases h8 : c ≤ 8
  · have e : charOk c = false := decide_eq_false (by omega)
    rw [e]
    exact charF_0 c w (by omega)
  by_cases h9 : c ≤ 9
  · have e : charOk c = true := decide_eq_true (by omega)
    rw [e]
    exact charF_9 c w (by omega) (by omega)
  by_cases h10 : c ≤ 10
  · have e : charOk c = true := decide_eq_true (by omega)
    rw [e]
    exact charF_10 c w (by omega) (by omega)
  by_cases h31 : c ≤ 31
  · have e : charOk c = false := decide_eq_false (by omega)
    rw [e]
    exact charF_11 c w (by omega) (by omega)
  by_cases h126 : c ≤ 126
  · have e : charOk c = true := decide_eq_true (by omega)
    rw [e]
    exact charF_32 c w (by omega) (by omega)
  by_cases h159 : c ≤ 159
  · have e : charOk c = false := decide_eq_false (by omega)
    rw [e]
    exact charF_127 c w (by omega) (by omega)
  by_cases h55295 : c ≤ 55295
  · have e : charOk c = true := decide_eq_true (by omega)
    rw [e]
    exact charF_160 c w (by omega) (by omega)
  by_cases h57343 : c ≤ 57343
  · have e : charOk c = false := decide_eq_false (by omega)
    rw [e]
    exact charF_55296 c w (by omega) (by omega)
  by_cases h1114111 : c ≤ 1114111
  · have e : charOk c = true := decide_eq_true (by omega)
    rw [e]
    exact charF_57344 c w (by omega) (by omega)
  have e : charOk c = false := decide_eq_false (by omega)
  rw [e]
  exact charF_1114112 c w (by omega)
end Go.Proofs.YtjndiielolphgaaDoor
