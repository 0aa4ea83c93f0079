/- Comparison of cells and of losses: two equal lists compare as equal. Conditions: both lists are the call's own; no attributes. -/
import Derived.Test.YtjndiielolphgaaDoorCsvImpLaws
import Derived.Test.YtjndiielolphgaaDoorCsvRefLaws
import Derived.Laws.StructEq
import Derived.Deep.LoopGhost
namespace Go.Proofs.YtjndiielolphgaaDoor
open Go.RowKit

set_option maxHeartbeats 400000 in
theorem sameAttrs_nil (w : World) : Calls Tryd.prog 40 #[.slice none 0 0, .slice none 0 0] w fun e w' => e = .returned (.bool true) ∧ w' = w := by
  go_enter Tryd.func40, Tryd.ntmps40
  go_wp2
  refine wp_loop_rounds 1 ?_
  rw [rounds_succ]
  go_wp2
  go_ret
  exact ⟨rfl, rfl⟩

set_option maxHeartbeats 1000000 in
set_option maxRecDepth 100000 in
theorem sameCell_same (x : CellE) (w : World) : Calls Tryd.prog 27 #[.agg (cellV x).toArray, .agg (cellV x).toArray] w fun e w' => e = .returned (.bool true) ∧ Below w.heap.size w w' := by
  obtain ⟨r, c, t⟩ := x
  show Calls Tryd.prog 27 #[.agg #[.int .i64 r, .int .i64 c, .string (ba t), .int .i64 0, .slice none 0 0], .agg #[.int .i64 r, .int .i64 c, .string (ba t), .int .i64 0, .slice none 0 0]] w _
  go_enter Tryd.func27, Tryd.ntmps27
  go_wp2_with fail
  refine (sameAttrs_nil _).mono ?_
  rintro e w' ⟨rfl, rfl⟩
  go_wp2
  go_ret
  exact ⟨rfl, ((Below.refl _ _).alloc (Nat.le_refl _) _).alloc (by simp) _⟩

theorem flat_get {α : Type} (f : α → List Value) (hf : ∀ x, (f x).length = 5) : ∀ (xs : List α) (j k : Nat) (hj : j < xs.length), k < 5 → (xs.flatMap f)[j * 5 + k]? = (f xs[j])[k]?
  | x :: xs, 0, k, hj, hk => by
    rw [List.flatMap_cons, List.getElem?_append_left (by rw [hf]; omega)]
    simp
  | x :: xs, j + 1, k, hj, hk => by
    rw [List.flatMap_cons, List.getElem?_append_right (by rw [hf]; omega), hf]
    have := flat_get f hf xs j k (by simpa using hj) hk
    rw [show (j + 1) * 5 + k - 5 = j * 5 + k by omega, this]
    simp
  | [], j, k, hj, hk => by simp at hj

/-- the cells of the j-th struct of a slice that is owned -/
theorem owns5_elem {α : Type} (f : α → List Value) (hf : ∀ x, (f x).length = 5) {w : World} {B : Nat} {e : TypeId} {v : Value} {xs : List α} (h : w.ownsRow B e 5 v xs.length (xs.flatMap f)) :
    ∃ a cap, v = .slice a xs.length cap ∧ xs.length ≤ maxLen ∧ ∀ j (hj : j < xs.length), ∃ g, a = some ⟨g, 0, none⟩ ∧ ∀ k u, k < 5 → (f xs[j])[k]? = some u → w.cell? ⟨g, j * 5 + k, none⟩ = some u := by
  rcases h.2 with ⟨rfl, h0⟩ | ⟨g, cap, cur, rfl, hb, hg, hc, hm, rest⟩
  · exact ⟨none, 0, by rw [h0], by rw [h0]; exact Nat.zero_le _, fun j hj => by omega⟩
  · refine ⟨_, cap, rfl, Nat.le_trans hc hm, fun j hj => ⟨g, rfl, fun k u hk hu => ?_⟩⟩
    have := World.ownsRow.cells (g := g) h rfl (j * 5 + k) u (by rw [flat_get f hf xs j k hj hk]; exact hu)
    have hadd : (⟨g, 0, none⟩ : Addr).add (j * 5 + k) = ⟨g, j * 5 + k, none⟩ := by
      unfold Addr.add; split <;> simp_all
    rw [hadd] at this
    exact this

theorem neq_loss (x : LossE) (w : World) : (binOp .neq 42 (.agg #[.int .i64 x.kind, .int .i64 0, .int .i64 x.row, .int .i64 x.col, .string (ba x.text)]) (.agg #[.int .i64 x.kind, .int .i64 0, .int .i64 x.row, .int .i64 x.col, .string (ba x.text)])).run Tryd.prog w = .ok (.bool false) w := by
  simp [go_sem]
end Go.Proofs.YtjndiielolphgaaDoor
