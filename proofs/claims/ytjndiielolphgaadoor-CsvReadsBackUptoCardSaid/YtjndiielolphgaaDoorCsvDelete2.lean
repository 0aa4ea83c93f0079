/- slices.DeleteFunc over rows of texts with the law's closure: the rows that have fields stay, in their order. Conditions: the slice is the call's own. -/
import Derived.Test.YtjndiielolphgaaDoorCsvDelete
import Derived.Lib.EndianMore
namespace Go.Proofs.YtjndiielolphgaaDoor
open Go.RowKit

abbrev URow := Value × List Csv.Bytes
def filt (ps : List URow) : List URow := ps.filter fun p => !p.2.isEmpty
/-- each value is a slice of its row's length -/
def LenOk (ps : List URow) : Prop := ∀ (i : Nat) (h : i < ps.length), ∃ A C, ps[i].1 = .slice A ps[i].2.length C

theorem filt_take_succ (ps : List URow) (j : Nat) (h : j < ps.length) : filt (ps.take (j + 1)) = filt (ps.take j) ++ (if ps[j].2.isEmpty then [] else [ps[j]]) := by
  rw [List.take_succ_eq_append_getElem h]
  unfold filt
  rw [List.filter_append]
  cases hb : ps[j].2.isEmpty <;> simp [hb]
theorem filt_before (ps : List URow) : ∀ j, j ≤ firstAt (ps.map (·.2)) → filt (ps.take j) = ps.take j := by
  intro j hj
  unfold filt
  rw [List.filter_eq_self]
  intro p hp
  obtain ⟨i, hi, rfl⟩ := List.getElem_of_mem hp
  have hi2 : i < j ∧ i < ps.length := by simp at hi; omega
  have h := List.not_of_lt_findIdx (p := List.isEmpty) (xs := ps.map (·.2)) (i := i) (by unfold firstAt at hj; omega)
  simp only [List.getElem_map] at h
  rw [List.getElem_take, h]; rfl
theorem filt_len (ps : List URow) (j : Nat) : (filt (ps.take j)).length ≤ j := by
  unfold filt
  have h := List.length_filter_le (fun p : URow => !p.2.isEmpty) (ps.take j)
  simp at h ⊢; omega
theorem filt_len_strict (ps : List URow) (i : Nat) (hil : i < ps.length) (he : ps[i].2.isEmpty = true) : ∀ j, i < j → j ≤ ps.length → (filt (ps.take j)).length < j
  | 0, h, _ => absurd h (Nat.not_lt_zero _)
  | j + 1, hi, hj => by
    have hl := filt_len ps j
    rw [filt_take_succ ps j (by omega), List.length_append]
    by_cases h : i = j
    · have he2 : ps[j].2.isEmpty = true := by subst h; exact he
      rw [he2]
      simp only [if_true, List.length_nil, Nat.add_zero]
      omega
    · have ih := filt_len_strict ps i hil he j (by omega) (by omega)
      cases hb : ps[j].2.isEmpty with
      | true => simp only [if_true, List.length_nil, Nat.add_zero]; omega
      | false => simp only [Bool.false_eq_true, if_false, List.length_singleton]; omega

structure DInv (g : Nat) (w : World) (ps : List URow) (i j : Nat) (wx : World) : Prop where
  ij : i = (filt (ps.take j)).length
  grown : w.grownBy wx (some g)
  block : ∃ cs : Array Value, wx.heap[g]? = some (.cells cs 35 (0, 0)) ∧ ps.length ≤ cs.size ∧ (∀ (t : Nat) (h : t < (filt (ps.take j)).length), cs[t]? = some (filt (ps.take j))[t].1) ∧ ∀ (t : Nat) (h : t < ps.length), j ≤ t → cs[t]? = some ps[t].1

theorem DInv.skip {g : Nat} {w wx : World} {ps : List URow} {i j : Nat} (h : DInv g w ps i j wx) (hj : j < ps.length) (he : ps[j].2.isEmpty = true) : DInv g w ps i (j + 1) wx := by
  have e : filt (ps.take (j + 1)) = filt (ps.take j) := by rw [filt_take_succ ps j hj, he]; simp
  obtain ⟨cs, h1, h2, h3, h4⟩ := h.block
  refine ⟨by rw [e]; exact h.ij, h.grown, cs, h1, h2, ?_, fun t ht hjt => h4 t ht (by omega)⟩
  rw [e]; exact h3
theorem DInv.keep {g : Nat} {w wx : World} {ps : List URow} {i j : Nat} (h : DInv g w ps i j wx) (hj : j < ps.length) (he : ps[j].2.isEmpty = false) : DInv g w ps (i + 1) (j + 1) (wx.setCell ⟨g, i, none⟩ ps[j].1) := by
  have e : filt (ps.take (j + 1)) = filt (ps.take j) ++ [ps[j]] := by rw [filt_take_succ ps j hj, he]; simp
  obtain ⟨cs, h1, h2, h3, h4⟩ := h.block
  have hij := h.ij
  have hle := filt_len ps j
  refine ⟨by rw [e]; simp [← hij], only_setCell h.grown (.inl rfl) _, cs.setIfInBounds i ps[j].1, heap_setCell_at h1 i _, by simpa using h2, ?_, fun t ht hjt => ?_⟩
  · rw [e]
    intro t ht
    by_cases hti : t = i
    · subst hti
      rw [Array.getElem?_setIfInBounds_self_of_lt (by omega)]
      simp [hij]
    · have ht2 : t < (filt (ps.take j)).length := by simp at ht; omega
      rw [Array.getElem?_setIfInBounds_ne (by omega), h3 t ht2, List.getElem_append_left ht2]
  · rw [Array.getElem?_setIfInBounds_ne (by omega)]
    exact h4 t ht (by omega)
end Go.Proofs.YtjndiielolphgaaDoor
