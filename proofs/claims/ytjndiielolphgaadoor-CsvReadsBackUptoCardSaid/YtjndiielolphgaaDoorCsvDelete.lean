/- slices.IndexFunc and slices.DeleteFunc over rows of texts, with the law's closure (rows without fields). Conditions: the slice is the call's own. -/
import Derived.Test.YtjndiielolphgaaDoorCsvStrRows
import Derived.Lib.SliceRun
namespace Go.Proofs.YtjndiielolphgaaDoor
open Go.RowKit

/-- slice values with these lengths -/
def LenIs (us : List Value) (rows : List (List Csv.Bytes)) : Prop := us.length = rows.length ∧ ∀ (i : Nat) (h : i < us.length) (h' : i < rows.length), ∃ A C, us[i] = .slice A rows[i].length C

theorem del_any (A : Option Addr) (m C : Nat) (w : World) (r : Bool) (hr : ((m : Int) == 0) = r) :
    Calls Tryd.prog 19 #[.slice A m C] w fun e w' => e = .returned (.bool r) ∧ w' = w := by
  have hr2 : (m == 0) = r := by rw [← hr, Bool.eq_iff_iff]; simp only [beq_iff_eq]; omega
  cases r with
  | true =>
    go_enter Tryd.func19, Tryd.ntmps19
    go_wp2
    go_ret
    exact ⟨by first | rfl | rw [hr] | rw [hr2], rfl⟩
  | false =>
    go_enter Tryd.func19, Tryd.ntmps19
    go_wp2
    go_ret
    exact ⟨by first | rfl | rw [hr] | rw [hr2], rfl⟩

def firstAt (rows : List (List Csv.Bytes)) : Nat := rows.findIdx List.isEmpty

set_option maxHeartbeats 1000000 in
set_option maxRecDepth 100000 in
theorem idx_any (g n cap : Nat) (us : List Value) (rows : List (List Csv.Bytes)) (w : World) (hn : rows.length = n) (hl : n ≤ 1000000000) (hu : LenIs us rows) (hc : ∀ (i : Nat) (h : i < us.length), w.cell? ⟨g, 0 + i, none⟩ = some us[i])
    (R : Int) (hR : (if firstAt rows < rows.length then (firstAt rows : Int) else -1) = R) :
    Calls Tryd.prog 34 #[.slice (some ⟨g, 0, none⟩) n cap, .func (.func 19) #[] #[]] w fun e w' => e = .returned (.int .i64 R) ∧ w' = w := by
  have HU := Lib.hid hu; clear hu
  have HC := Lib.hid hc; clear hc
  have HR := Lib.hid hR; clear hR
  go_enter Tryd.func34, Tryd.ntmps34
  go_wp2
  go_loopg [8] n (fun g v8 wx => ∃ i : Nat, i + g = n ∧ v8 = .int .i64 i ∧ wx = w ∧ i ≤ firstAt rows)
  case atStart => exact ⟨0, by omega, rfl, rfl, by omega⟩
  case round =>
    obtain ⟨i, hi, rfl, rfl, hfi⟩ := hrel
    by_cases hlt : i < n
    · have hltb : decide ((i : Int) < (n : Int)) = true := decide_eq_true (by omega)
      have hltn : decide (i < n) = true := decide_eq_true hlt
      have h1 : i < us.length := by rw [HU.out.1, hn]; exact hlt
      have h2 : i < rows.length := by rw [hn]; exact hlt
      have hcell := HC.out i h1
      obtain ⟨A, C, hv⟩ := HU.out.2 i h1 h2
      rw [hv, Nat.zero_add] at hcell
      obtain ⟨m, hm⟩ : ∃ m, rows[i].length = m := ⟨_, rfl⟩
      rw [hm] at hcell
      by_cases hz : m = 0
      · have hie : rows[i].isEmpty = true := by rw [List.isEmpty_iff_length_eq_zero]; omega
        have hfe : firstAt rows = i := by
          rcases Nat.lt_or_ge i (firstAt rows) with h | h
          · have := List.not_of_lt_findIdx (p := List.isEmpty) (xs := rows) h
            rw [hie] at this; cases this
          · omega
        have hRi : R = (i : Int) := by rw [← HR.out, hfe, if_pos h2]
        have HRI := Lib.hid hRi; clear hRi
        subst hz
        go_wp2_with fail
        refine (del_any A 0 C _ true rfl).mono ?_
        rintro e w' ⟨rfl, rfl⟩
        go_wp2
        go_ret
        exact ⟨by rw [HRI.out]; rfl, rfl⟩
      · have hie : rows[i].isEmpty = false := by
          rw [Bool.eq_false_iff]; intro h
          rw [List.isEmpty_iff_length_eq_zero] at h; omega
        have hfe : i + 1 ≤ firstAt rows := by
          rcases Nat.lt_or_ge i (firstAt rows) with h | h
          · exact h
          · have he : firstAt rows = i := by omega
            have hp := List.findIdx_getElem (xs := rows) (p := List.isEmpty) (w := by unfold firstAt at he; omega)
            unfold firstAt at he
            simp only [he] at hp
            rw [hie] at hp; cases hp
        go_wp2_with fail
        refine (del_any A m C _ false (by rw [beq_eq_false_iff_ne]; omega)).mono ?_
        rintro e w' ⟨rfl, rfl⟩
        go_wp2
        go_roundg (gk - 1)
        case measure => omega
        case rel => exact ⟨i + 1, by omega, by go_num, rfl, hfe⟩
    · have hltb : decide ((i : Int) < (n : Int)) = false := decide_eq_false (by omega)
      have hltn : decide (i < n) = false := decide_eq_false hlt
      have hRi : R = -1 := by rw [← HR.out, if_neg (by omega)]
      have HRI := Lib.hid hRi; clear hRi
      go_wp2
      go_ret
      exact ⟨by rw [HRI.out]; rfl, rfl⟩
end Go.Proofs.YtjndiielolphgaaDoor
