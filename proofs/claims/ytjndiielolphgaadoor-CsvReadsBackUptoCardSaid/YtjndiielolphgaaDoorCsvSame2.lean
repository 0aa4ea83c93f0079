/- Lists of cells and of losses: two equal lists compare as equal. Conditions: both lists are the call's own. -/
import Derived.Test.YtjndiielolphgaaDoorCsvSame
namespace Go.Proofs.YtjndiielolphgaaDoor
open Go.RowKit

set_option maxHeartbeats 1000000 in
set_option maxRecDepth 100000 in
theorem equalLoss_true {w : World} {B1 B2 : Nat} {v1 v2 : Value} {ls : List LossE} (h1 : w.ownsRow B1 42 5 v1 ls.length (ls.flatMap lossV)) (h2 : w.ownsRow B2 42 5 v2 ls.length (ls.flatMap lossV)) :
    Calls Tryd.prog 12 #[v1, v2] w fun e w' => e = .returned (.bool true) ∧ ∃ q, w' = w.drewN q := by
  obtain ⟨a1, c1, rfl, m1, k1⟩ := owns5_elem lossV (fun _ => rfl) h1
  obtain ⟨a2, c2, rfl, m2, k2⟩ := owns5_elem lossV (fun _ => rfl) h2
  unfold maxLen at m1
  have K1 := Lib.hid k1; clear k1
  have K2 := Lib.hid k2; clear k2
  clear h1 h2 m2
  go_enter Tryd.func12, Tryd.ntmps12
  go_wp2
  go_loopg [13] ls.length (fun g i wx => ∃ k q : Nat, k + g = ls.length ∧ i = .int .i64 k ∧ wx = w.drewN q)
  case atStart => exact ⟨0, 0, by omega, rfl, rfl⟩
  case round =>
    obtain ⟨k, q, hk, rfl, rfl⟩ := hrel
    by_cases hlt : k < ls.length
    · have hltb : decide ((k : Int) < (ls.length : Int)) = true := decide_eq_true (by omega)
      have hltn : decide (k < ls.length) = true := decide_eq_true hlt
      obtain ⟨g1, rfl, e1⟩ := K1.out k hlt
      obtain ⟨g2, rfl, e2⟩ := K2.out k hlt
      have p0 := e1 0 _ (by omega) rfl
      have p1 := e1 1 _ (by omega) rfl
      have p2 := e1 2 _ (by omega) rfl
      have p3 := e1 3 _ (by omega) rfl
      have p4 := e1 4 _ (by omega) rfl
      have q0 := e2 0 _ (by omega) rfl
      have q1 := e2 1 _ (by omega) rfl
      have q2 := e2 2 _ (by omega) rfl
      have q3 := e2 3 _ (by omega) rfl
      have q4 := e2 4 _ (by omega) rfl
      simp only [Nat.add_zero] at p0 q0
      have hne := neq_loss ls[k]
      clear e1 e2
      go_wp2
      go_quiet (fail)
      go_wp2
      go_roundg (gk - 1)
      case measure => omega
      case rel => exact ⟨k + 1, _, by omega, by go_num, rfl⟩
    · have hltb : decide ((k : Int) < (ls.length : Int)) = false := decide_eq_false (by omega)
      have hltn : decide (k < ls.length) = false := decide_eq_false hlt
      go_wp2
      go_ret
      exact ⟨rfl, _, rfl⟩

set_option maxHeartbeats 1000000 in
set_option maxRecDepth 100000 in
theorem sameCells_true {w : World} {B1 B2 : Nat} {v1 v2 : Value} {cs : List CellE} (h1 : w.ownsRow B1 40 5 v1 cs.length (cs.flatMap cellV)) (h2 : w.ownsRow B2 40 5 v2 cs.length (cs.flatMap cellV)) :
    Calls Tryd.prog 11 #[v1, v2] w fun e w' => e = .returned (.bool true) ∧ Below w.heap.size w w' := by
  obtain ⟨a1, c1, rfl, m1, k1⟩ := owns5_elem cellV (fun _ => rfl) h1
  obtain ⟨a2, c2, rfl, m2, k2⟩ := owns5_elem cellV (fun _ => rfl) h2
  unfold maxLen at m1
  have K1 := Lib.hid k1; clear k1
  have K2 := Lib.hid k2; clear k2
  have HO1 := Lib.hid h1; clear h1
  have HO2 := Lib.hid h2; clear h2
  clear m2
  go_enter Tryd.func11, Tryd.ntmps11
  go_wp2
  go_loopg [13] cs.length (fun g i wx => ∃ k : Nat, k + g = cs.length ∧ i = .int .i64 k ∧ Below w.heap.size w wx)
  case atStart => exact ⟨0, by omega, rfl, Below.refl _ _⟩
  case round =>
    obtain ⟨k, hk, rfl, hb⟩ := hrel
    by_cases hlt : k < cs.length
    · have hltb : decide ((k : Int) < (cs.length : Int)) = true := decide_eq_true (by omega)
      have hltn : decide (k < cs.length) = true := decide_eq_true hlt
      obtain ⟨g1, rfl, e1⟩ := K1.out k hlt
      obtain ⟨g2, rfl, e2⟩ := K2.out k hlt
      have l1 : g1 < w.heap.size := (HO1.out.lt g1 rfl).2
      have l2 : g2 < w.heap.size := (HO2.out.lt g2 rfl).2
      have f1 := fun j => hb.cell (p := ⟨g1, j, none⟩) l1
      have f2 := fun j => hb.cell (p := ⟨g2, j, none⟩) l2
      have p0 := (f1 _).trans (e1 0 _ (by omega) rfl)
      have p1 := (f1 _).trans (e1 1 _ (by omega) rfl)
      have p2 := (f1 _).trans (e1 2 _ (by omega) rfl)
      have p3 := (f1 _).trans (e1 3 _ (by omega) rfl)
      have p4 := (f1 _).trans (e1 4 _ (by omega) rfl)
      have q0 := (f2 _).trans (e2 0 _ (by omega) rfl)
      have q1 := (f2 _).trans (e2 1 _ (by omega) rfl)
      have q2 := (f2 _).trans (e2 2 _ (by omega) rfl)
      have q3 := (f2 _).trans (e2 3 _ (by omega) rfl)
      have q4 := (f2 _).trans (e2 4 _ (by omega) rfl)
      simp only [Nat.add_zero] at p0 q0
      have hsc := sameCell_same cs[k]
      have HSC := Lib.hid hsc; clear hsc
      have HB := Lib.hid hb; clear hb
      clear e1 e2 f1 f2
      go_wp2
      refine wp_region_still_tail 8 (by kernel_rfl) (by kernel_rfl) ?_
      simp only [List.take_succ_cons, List.take_zero, List.drop_succ_cons, List.drop_zero]
      change wpStill _ _ (World.drew _) (fun a' => wpList _ _ _ _ a' (World.drew _)) _ _
      generalize hW : World.drew _ = w2
      have z0 := (show w2.cell? ⟨g1, k * 5, none⟩ = wr.cell? ⟨g1, k * 5, none⟩ by rw [← hW]; rfl).trans p0
      have z1 := (show w2.cell? ⟨g1, k * 5 + 1, none⟩ = wr.cell? ⟨g1, k * 5 + 1, none⟩ by rw [← hW]; rfl).trans p1
      have z2 := (show w2.cell? ⟨g1, k * 5 + 2, none⟩ = wr.cell? ⟨g1, k * 5 + 2, none⟩ by rw [← hW]; rfl).trans p2
      have z3 := (show w2.cell? ⟨g1, k * 5 + 3, none⟩ = wr.cell? ⟨g1, k * 5 + 3, none⟩ by rw [← hW]; rfl).trans p3
      have z4 := (show w2.cell? ⟨g1, k * 5 + 4, none⟩ = wr.cell? ⟨g1, k * 5 + 4, none⟩ by rw [← hW]; rfl).trans p4
      have y0 := (show w2.cell? ⟨g2, k * 5, none⟩ = wr.cell? ⟨g2, k * 5, none⟩ by rw [← hW]; rfl).trans q0
      have y1 := (show w2.cell? ⟨g2, k * 5 + 1, none⟩ = wr.cell? ⟨g2, k * 5 + 1, none⟩ by rw [← hW]; rfl).trans q1
      have y2 := (show w2.cell? ⟨g2, k * 5 + 2, none⟩ = wr.cell? ⟨g2, k * 5 + 2, none⟩ by rw [← hW]; rfl).trans q2
      have y3 := (show w2.cell? ⟨g2, k * 5 + 3, none⟩ = wr.cell? ⟨g2, k * 5 + 3, none⟩ by rw [← hW]; rfl).trans q3
      have y4 := (show w2.cell? ⟨g2, k * 5 + 4, none⟩ = wr.cell? ⟨g2, k * 5 + 4, none⟩ by rw [← hW]; rfl).trans q4
      have HW : Hid (Below w.heap.size w w2) := by rw [← hW]; exact HB.out.drew
      have HWS : Hid (wr.heap.size ≤ w2.heap.size) := by rw [← hW]; exact Nat.le_refl _
      clear hW p0 p1 p2 p3 p4 q0 q1 q2 q3 q4
      repeat still_step
      refine wpStill_nil ?_
      go_wp2_with fail
      refine (HSC.out _).mono ?_
      rintro e w3 ⟨rfl, hb3⟩
      go_wp2
      go_roundg (gk - 1)
      case measure => omega
      case rel => exact ⟨k + 1, by omega, by go_num, HW.out.trans (hb3.mono HW.out.size)⟩
    · have hltb : decide ((k : Int) < (cs.length : Int)) = false := decide_eq_false (by omega)
      have hltn : decide (k < cs.length) = false := decide_eq_false hlt
      go_wp2
      go_ret
      exact ⟨rfl, hb⟩
end Go.Proofs.YtjndiielolphgaaDoor
