/- From what a row lists on unicode/utf8's two tables to the shelf's premise on the world, and a world for a row's witness that holds them. No conditions. -/
import Derived.Test.YtjndiielolphgaaDoorRows
import Derived.WalkKit
import Derived.ProofKit
import Derived.PinnedBridge
import Derived.Lib.LaidU8T
import Derived.Deep.DeepHandedRow
namespace Go.Proofs.YtjndiielolphgaaDoor
open Go.RowKit

/-- the renaming under which the shelf reads the two tables -/
def laidRen : Go.Shelf.Ren where
  f := fun n => n
  t := fun n => match n with
    | 5 => 5
    | 119 => 99
    | 138 => 101
    | 139 => 102
    | n => n
  g := fun n => match n with
    | 3 => 0
    | 4 => 1
    | n => n
theorem laidTypes : U8Types Tryd.prog laidRen where
  t5 := Tryd.underlying5
  t119 := Tryd.underlying99
  t138 := by kernel_rfl
  t139 := Tryd.underlying102
theorem laidExtra : U8Extra Tryd.prog laidRen where
  n3 := by kernel_rfl
  n4 := by kernel_rfl
  y3 := by kernel_rfl
  y4 := by kernel_rfl
  c5 := by kernel_rfl
  c119 := by kernel_rfl
  c138 := by kernel_rfl
theorem accept_eq : (Rows.laid_unicode_utf8_acceptRanges : DataW Unit) = Lib.acceptData := by kernel_rfl
theorem first_eq : Rows.laid_unicode_utf8_first = Lib.firstData := Pinned.utf8First_eq

theorem tabs_of_laid {W : World} (h : laidMetH Tryd.prog [("unicode/utf8.acceptRanges", Rows.laid_unicode_utf8_acceptRanges), ("unicode/utf8.first", Rows.laid_unicode_utf8_first)] W) :
    Lib.Utf8Tabs 0 1 W := by
  rw [accept_eq, first_eq] at h
  exact utf8Tabs_of_readsT (ρ := laidRen) laidTypes laidExtra (Lib.laidMet.reads h (.tail _ (.head _))) (Lib.laidMet.reads h (.head _))

/-- the two tables stand: so the world has their blocks -/
theorem size_of_laid {W : World} (h : Lib.Utf8Tabs 0 1 W) : 2 ≤ W.heap.size := by
  have h1 : W.cell? ⟨0, 0, none⟩ ≠ none := by rw [h.1 0 (by decide)]; simp
  have h2 : W.cell? ⟨1, 0, none⟩ ≠ none := by rw [(h.2 0 (by decide)).1]; simp
  have p : ∀ b : Nat, W.cell? ⟨b, 0, none⟩ ≠ none → b < W.heap.size := by
    intro b hb
    by_cases hlt : b < W.heap.size
    · exact hlt
    · refine absurd ?_ hb
      simp only [World.cell?]
      rw [Array.getElem?_eq_none (by omega)]
  have q1 := p _ h1
  have q2 := p _ h2
  omega

/-- a block's cells set anew -/
def setObj (cs : Array Value) : Obj → Obj
  | .cells _ t frozen => .cells cs t frozen
  | o => o
/-- A WORLD FOR A WITNESS: the settled one, the two tables holding what their initialisers lay. -/
noncomputable def laidWorld (os : Os) : World :=
  { World.holding Tryd.prog os ⟨#[], #[], []⟩ with heap := ((World.holding Tryd.prog os ⟨#[], #[], []⟩).heap.modify 0 (setObj (Lib.firstTab.map fun z => Value.int .u8 z).toArray)).modify 1 (setObj ((List.range 16).flatMap fun i => [Value.int .u8 (Lib.accLo i), Value.int .u8 (Lib.accHi i)]).toArray) }
theorem laid_met (os : Os) (args : Array Value) : laidMet Tryd.prog [("unicode/utf8.acceptRanges", Rows.laid_unicode_utf8_acceptRanges), ("unicode/utf8.first", Rows.laid_unicode_utf8_first)] ((laidWorld os).forCall (fun _ _ => 0) ⟨#[], args, []⟩).memory :=
  laidMet_of_run' 8 (by kernel_rfl) (by kernel_rfl)
end Go.Proofs.YtjndiielolphgaaDoor
