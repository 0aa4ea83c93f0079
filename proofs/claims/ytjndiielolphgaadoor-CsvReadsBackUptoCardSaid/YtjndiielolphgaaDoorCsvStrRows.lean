/- Texts and rows of texts that came in: how they lie in memory, how they are opened, how much they hold; strings.ReplaceAll of quotation marks in plain words. No conditions. -/
import Derived.Test.YtjndiielolphgaaDoorCsvPrintPlain
import Derived.Test.YtjndiielolphgaaDoorCsvImpLaws
import Derived.Test.YtjndiielolphgaaDoorShelfS
import Derived.Test.YtjndiielolphgaaDoorRows
import Derived.Deep.Strs
import Derived.ReadAgain
import Derived.Carry
namespace Go.Proofs.YtjndiielolphgaaDoor
open Go.RowKit Go.Deep Go.ChangeShapes Go.WideShapes

/-- a slice value whose cells are these texts -/
def StrsAt (w : World) (v : Value) (l : List Csv.Bytes) : Prop :=
  ∃ A C, v = .slice A l.length C ∧ ∀ (i : Nat) (h : i < l.length), ∃ b o, A = some ⟨b, o, none⟩ ∧ w.cell? ⟨b, o + i, none⟩ = some (.string (ba l[i]))
/-- a slice value whose cells are slices of these texts -/
def RowsAt (w : World) (v : Value) (rows : List (List Csv.Bytes)) : Prop :=
  ∃ A C, v = .slice A rows.length C ∧ ∀ (i : Nat) (h : i < rows.length), ∃ b o u, A = some ⟨b, o, none⟩ ∧ w.cell? ⟨b, o + i, none⟩ = some u ∧ StrsAt w u rows[i]

theorem cell_lt {w : World} {p : Addr} {v : Value} (h : w.cell? p = some v) : p.block < w.heap.size := by
  by_cases hlt : p.block < w.heap.size
  · exact hlt
  · simp only [World.cell?] at h
    rw [Array.getElem?_eq_none (by omega)] at h
    cases h
theorem cell_below {w w' : World} {p : Addr} {v : Value} (h : w.cell? p = some v) (hb : Below w.heap.size w w') : w'.cell? p = some v := (hb.cell (cell_lt h)).trans h
theorem StrsAt.below {w w' : World} {v : Value} {l : List Csv.Bytes} (h : StrsAt w v l) (hb : Below w.heap.size w w') : StrsAt w' v l := by
  obtain ⟨A, C, rfl, hc⟩ := h
  exact ⟨A, C, rfl, fun i hi => let ⟨b, o, ha, hcell⟩ := hc i hi; ⟨b, o, ha, cell_below hcell hb⟩⟩
theorem RowsAt.below {w w' : World} {v : Value} {rows : List (List Csv.Bytes)} (h : RowsAt w v rows) (hb : Below w.heap.size w w') : RowsAt w' v rows := by
  obtain ⟨A, C, rfl, hc⟩ := h
  exact ⟨A, C, rfl, fun i hi => let ⟨b, o, u, ha, hcell, hs⟩ := hc i hi; ⟨b, o, u, ha, cell_below hcell hb, hs.below hb⟩⟩

/-- how much texts hold -/
def bulkS (l : List Csv.Bytes) : Nat := (l.map fun f => f.length + 1).sum
def bulkR (rows : List (List Csv.Bytes)) : Nat := (rows.map fun r => bulkS r + 1).sum

theorem bulkAll_append {H : Type} (a b : List (DataW H)) : Rows.uptoBulkAll (a ++ b) = Rows.uptoBulkAll a + Rows.uptoBulkAll b := by
  induction a with
  | nil => simp [Rows.uptoBulkAll]
  | cons x a ih => simp [Rows.uptoBulkAll, ih]; omega
theorem bulkAll_map {H : Type} (n : Nat) (f : Nat → DataW H) (g : Nat → Nat) (h : ∀ i, i < n → g i ≤ Rows.uptoBulk (f i)) : ((List.range n).map g).sum ≤ Rows.uptoBulkAll ((List.range n).map f) := by
  induction n with
  | zero => simp
  | succ n ih =>
    have := ih (fun i hi => h i (by omega))
    have h2 := h n (by omega)
    simp only [List.range_succ, List.map_append, List.map_cons, List.map_nil, List.sum_append_nat, List.sum_cons, List.sum_nil, bulkAll_append, Rows.uptoBulkAll]
    omega

section
variable {H : Type} {enc : TypeId × Value → H} {P : Program} {w : World} {base : Nat} {held : Bool}

theorem spot_none {w : World} {b o : Nat} {s : Option Nat} {v : Value} (h : w.cell? ((⟨b, o, s⟩ : Addr).add 0) = some v) : s = none := by
  have := World.cell?_spot h
  simpa [Addr.add] using this

theorem open_strsAt {t e : TypeId} {fuel : Nat} {v : Value} {x : DataW H × List MemPlace} (ht : P.underlying t = some (.slice e)) (he : P.underlying e = some .string) (hc : P.cellsOf e = 1)
    (h : DataW.trod enc P w base (fun _ => true) held fuel t [v] = some x) : ∃ l, StrsAt w v l ∧ bulkS l + 1 ≤ Rows.uptoBulk x.1 ∧ l.length ≤ maxLen := by
  rcases open_strs ht he hc h with ⟨hcs, rfl⟩ | ⟨a, len, cap, m, Sx, hcs, hb, hl, hm, hmm, rfl, hcell⟩
  · exact ⟨[], ⟨none, 0, by simpa using hcs, fun i hi => absurd hi (Nat.not_lt_zero _)⟩, by simp [bulkS, Rows.uptoBulk], Nat.zero_le _⟩
  · simp only [if_true] at hmm
    subst hmm
    refine ⟨(List.range len).map fun i => (Sx i).data.toList, ⟨some a, m, by simpa using hcs, fun i hi => ?_⟩, ?_, by simp; omega⟩
    · have hi' : i < len := by simpa using hi
      have hc2 := (hcell i (by omega)).1
      have hc0 := (hcell 0 (by omega)).1
      obtain ⟨b, o, s⟩ := a
      obtain rfl := spot_none hc0
      rw [add_plain] at hc2
      exact ⟨b, o, rfl, by rw [hc2]; simp [ba]⟩
    · simp only [Rows.uptoBulk, bulkS, List.map_map]
      have := bulkAll_map (H := H) len (fun i => DataW.lit (.string (Sx i).data.toList)) (fun i => (Sx i).data.toList.length + 1) (fun i _ => by simp [Rows.uptoBulk])
      have e : (List.map ((fun f => f.length + 1) ∘ fun i => (Sx i).data.toList) (List.range len)) = (List.range len).map fun i => (Sx i).data.toList.length + 1 := rfl
      rw [e]; omega

theorem open_rowsAt {t e q : TypeId} {fuel : Nat} {v : Value} {x : DataW H × List MemPlace} (ht : P.underlying t = some (.slice e)) (he : P.underlying e = some (.slice q)) (hq : P.underlying q = some .string) (ce : P.cellsOf e = 1) (cq : P.cellsOf q = 1)
    (h : DataW.trod enc P w base (fun _ => true) held fuel t [v] = some x) : ∃ rows, RowsAt w v rows ∧ bulkR rows + 1 ≤ Rows.uptoBulk x.1 := by
  rcases open_slice1 ht ce h with ⟨hcs, rfl⟩ | ⟨a, len, cap, m, n, V, D, Pl, hcs, hb, hl, hm, hmm, rfl, hx⟩
  · exact ⟨[], ⟨none, 0, by simpa using hcs, fun i hi => absurd hi (Nat.not_lt_zero _)⟩, by simp [bulkR, Rows.uptoBulk]⟩
  · simp only [if_true] at hmm
    subst hmm
    obtain ⟨R, hR⟩ := choose_lt (fun i hi => open_strsAt he hq cq (hx i hi).2)
    refine ⟨(List.range len).map R, ⟨some a, m, by simpa using hcs, fun i hi => ?_⟩, ?_⟩
    · have hi' : i < len := by simpa using hi
      have hc2 := (hx i (by omega)).1
      have hc0 := (hx 0 (by omega)).1
      obtain ⟨b, o, s⟩ := a
      obtain rfl := spot_none hc0
      rw [add_plain] at hc2
      refine ⟨b, o, V i, rfl, hc2, ?_⟩
      have := (hR i (by omega)).1
      simpa using this
    · simp only [Rows.uptoBulk, bulkR, List.map_map]
      have := bulkAll_map (H := H) len D (fun i => bulkS (R i) + 1) (fun i hi => (hR i (by omega)).2.1)
      have e : (List.map ((fun r => bulkS r + 1) ∘ R) (List.range len)) = (List.range len).map fun i => bulkS (R i) + 1 := rfl
      rw [e]; omega
end

/-! ### quotation marks twice -/
theorem index_quote (b : UInt8) (l : List UInt8) : Lib.index (b :: l) [34] = if b = 34 then 0 else if Lib.index l [34] = -1 then -1 else Lib.index l [34] + 1 := by
  rw [Lib.index]
  by_cases hb : b = 34
  · subst hb; simp [List.isPrefixOf]
  · have hb' : ¬ (34 = b) := fun h => hb h.symm
    simp [List.isPrefixOf, hb, hb']
theorem replaceK_esc : ∀ s : List UInt8, Lib.replaceK [34] [34, 34] (Lib.count s [34]) s = Csv.esc s
  | [] => by rw [Lib.count_miss (by decide)]; rfl
  | b :: l => by
    have ih := replaceK_esc l
    have hidx := index_quote b l
    by_cases hb : b = 34
    · subst hb
      rw [if_pos rfl] at hidx
      rw [Lib.count_hit (i := 0) (by simp) (by exact_mod_cast hidx), Nat.add_comm 1, Lib.replaceK_hit [34] [34, 34] _ _ 0 (by exact_mod_cast hidx)]
      simp only [Nat.zero_add, List.length_singleton, List.drop_succ_cons, List.drop_zero, List.take_zero, List.nil_append]
      rw [ih]; simp [Csv.esc]
    · rw [if_neg hb] at hidx
      by_cases hl : Lib.index l [34] = -1
      · rw [if_pos hl] at hidx
        rw [Lib.count_miss hl] at ih
        rw [Lib.count_miss hidx]
        simp only [Lib.replaceK] at ih ⊢
        simp [Csv.esc, hb, ← ih]
      · rw [if_neg hl] at hidx
        have hge := Lib.index_ge l [34]
        obtain ⟨i, hi⟩ : ∃ i : Nat, Lib.index l [34] = i := ⟨(Lib.index l [34]).toNat, by omega⟩
        rw [hi] at hidx
        rw [Lib.count_hit (i := i) (by simp) hi, Nat.add_comm 1, Lib.replaceK_hit [34] [34, 34] _ _ i hi] at ih
        rw [Lib.count_hit (i := i + 1) (by simp) (by exact_mod_cast hidx), Nat.add_comm 1, Lib.replaceK_hit [34] [34, 34] _ _ (i + 1) (by exact_mod_cast hidx)]
        simp only [List.length_singleton, List.drop_succ_cons, List.take_succ_cons] at ih ⊢
        simp only [Csv.esc, hb, if_false, List.cons_append, ih]
theorem replaceAll_esc (s : List UInt8) : Lib.replaceAll s [34] [34, 34] = Csv.esc s := by
  have : Lib.replaceAll s [34] [34, 34] = Lib.replaceK [34] [34, 34] (Lib.count s [34]) s := by simp [Lib.replaceAll, Lib.replace, Lib.replaceNum]
  rw [this, replaceK_esc]
theorem esc_len : ∀ s : List UInt8, (Csv.esc s).length ≤ 2 * s.length
  | [] => by simp [Csv.esc]
  | b :: l => by
    have := esc_len l
    simp only [Csv.esc]; split <;> simp <;> omega
end Go.Proofs.YtjndiielolphgaaDoor
