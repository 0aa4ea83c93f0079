/- The walk of the reference's CsvParse. Conditions: the text has at most 4000000000 bytes. -/
import Derived.Test.YtjndiielolphgaaDoorCsvParse
namespace Go.Proofs.YtjndiielolphgaaDoor
open Go.RowKit

theorem KeepKind.step {S : TypeId} {W0 w w' : World} {row : Option Nat} (h : KeepKind S W0 w) (hs : W0.heap.size ≤ w.heap.size) (hg : w.grownBy w' row) (hr : ∀ g, row = some g → W0.heap.size ≤ g) : KeepKind S W0 w' := by
  intro k c fz hk
  have hlt := heap_lt hk
  rw [hg.block k (by omega) (fun e => by have := hr k e.symm; omega)]
  exact h k c fz hk
theorem KeepKind.alloc {S : TypeId} {W0 w : World} (h : KeepKind S W0 w) (o : Obj) : KeepKind S W0 (w.alloc o) :=
  fun k c fz hk => (Below.heap_alloc _ _ _ (heap_lt (h k c fz hk))).trans (h k c fz hk)

/-- a table of rows, and the row that is being made, of which the table knows nothing -/
structure TwoInv (K : Nat) (w : World) (rows : List (List Csv.Bytes)) (row : List Csv.Bytes) (v6 v7 : Value) (W0 wx : World) : Prop where
  below : Below K w wx
  base : K ≤ W0.heap.size
  size : W0.heap.size ≤ wx.heap.size
  own : OwnRows 35 9 K v6 rows W0
  k31 : KeepKind 35 W0 wx
  k9 : KeepKind 9 W0 wx
  row : OwnStrs 9 W0.heap.size v7 row wx

structure RInv (s : ByteArray) (c : UInt8) (K : Nat) (w : World) (R : Csv.Res) (i : Nat) (rows : List (List Csv.Bytes)) (row : List Csv.Bytes) (f : ByteArray) (st : Nat) (op : Bool) (v6 v7 : Value) (W0 wx : World) : Prop where
  two : TwoInv K w rows row v6 v7 W0 wx
  lrows : rows.length ≤ i
  lrow : row.length ≤ i
  lf : f.size ≤ i

theorem strV_self (f : ByteArray) : strV f.data.toList = .string f := by simp [strV]

/-- a field is put behind the row -/
theorem TwoInv.put {K : Nat} {w : World} {rows : List (List Csv.Bytes)} {row : List Csv.Bytes} {v6 v7 : Value} {W0 wx : World} (h : TwoInv K w rows row v6 v7 W0 wx) (f : ByteArray) {v' : Value} {w' : World} (o : Obj)
    (hown : w'.ownsRow W0.heap.size 9 1 v' (row.length + 1) (strCells row ++ [.string f])) (hg : (wx.alloc o).grownBy w' v7.ownBlock) : TwoInv K w rows (row ++ [f.data.toList]) v6 v' W0 w' := by
  have hnb : ∀ g, v7.ownBlock = some g → W0.heap.size ≤ g := fun g e => (h.row.lt g e).1
  have hs := h.size
  have hb := h.base
  refine ⟨(h.below.alloc (by omega) _).grown hg (by simp; omega) (fun g e => by have := hnb g e; omega), h.base, Nat.le_trans h.size (Nat.le_trans (by simp) hg.size), h.own, ?_, ?_, ?_⟩
  · exact (h.k31.alloc _).step (by simp; omega) hg hnb
  · exact (h.k9.alloc _).step (by simp; omega) hg hnb
  · unfold OwnStrs; rw [strCells_snoc, strV_self]; simpa using hown

/-- the row is put behind the table -/
theorem TwoInv.push {K : Nat} {w : World} {rows : List (List Csv.Bytes)} {row : List Csv.Bytes} {v6 v7 : Value} {W0 wx : World} (h : TwoInv K w rows row v6 v7 W0 wx) {vs : List Value} (hv : W0.ownsRow K 35 1 v6 rows.length vs) (hh : RowsHold 9 K W0 vs rows)
    {v' : Value} {w' : World} {cs : Array Value} (hown : w'.ownsRow K 35 1 v' (rows.length + 1) (vs ++ [v7])) (hg : (wx.alloc (.cells cs 35 (0, 0))).grownBy w' v6.ownBlock) : TwoInv K w (rows ++ [row]) [] v' (.slice none 0 0) w' w' := by
  have hv' := h.k31.owns hv
  have hs := h.size
  have hb := h.base
  have hb5 : ∀ g, v6.ownBlock = some g → K ≤ g ∧ ∃ c fz, (wx.alloc (.cells cs 35 (0, 0))).heap[g]? = some (.cells c 35 fz) := fun g e => ⟨(hv'.lt g e).1, owns_kind (hv'.alloc _) g e⟩
  have hk9' : KeepKind 9 wx w' := ((KeepKind.refl _ _).alloc _).trans (KeepKind.only hg (fun g e _ => (hb5 g e).2) (by decide))
  refine ⟨(h.below.alloc (by omega) _).grown hg (by simp; omega) (fun g e => (hb5 g e).1), ?_, Nat.le_refl _, ⟨vs ++ [v7], by simpa using hown, RowsHold.snoc ((h.row.keep hk9').mono h.base) (hh.keep (h.k9.trans hk9'))⟩, KeepKind.refl _ _, KeepKind.refl _ _, OwnStrs.nil _ _ _⟩
  exact Nat.le_trans hb (Nat.le_trans hs (Nat.le_trans (by simp) hg.size))

theorem bytes_snoc (f s : ByteArray) (i : Nat) (h : i < s.size) : (f ++ s.extract i (i + 1)).data.toList = f.data.toList ++ [s[i]'h] := by
  rw [ByteArray.data_append, Array.toList_append, Lib.extract_data, drop_cons s i h]
  simp

def RefPost (w : World) (R : Csv.Res) (e : Ending) (w' : World) : Prop :=
  Below w.heap.size w w' ∧
  match R with
  | .ok rows => ∃ v, e = .returned (.tuple #[v, .int .i64 (-1)]) ∧ OwnRows 35 9 w.heap.size v rows w'
  | .bad at_ => e = .returned (.tuple #[.slice none 0 0, .int .i64 at_])

/-- what the rest of the text reads as -/
def RefIs (s : ByteArray) (c : UInt8) (R : Csv.Res) (i : Nat) (rows : List (List Csv.Bytes)) (row : List Csv.Bytes) (f : Csv.Bytes) (st : Nat) (op : Bool) : Prop :=
  ∃ fuel, s.size < i + fuel ∧ Csv.ref c fuel (s.data.toList.drop i) i rows row f st op = R

section
variable {s : ByteArray} {c : UInt8} {R : Csv.Res} {i : Nat} {rows : List (List Csv.Bytes)} {row : List Csv.Bytes} {f : Csv.Bytes} {st : Nat} {op : Bool}
theorem RefIs.over (h : RefIs s c R i rows row f st op) (hi : i = s.size) : R = if st = 2 then .bad i else if op then .ok (rows ++ [row ++ [f]]) else .ok rows := by
  obtain ⟨k, h1, h2⟩ := h
  obtain ⟨k, rfl⟩ : ∃ n, k = n + 1 := ⟨k - 1, by omega⟩
  rw [List.drop_of_length_le (by simp; exact Nat.le_of_eq hi.symm)] at h2
  rw [← h2, Csv.ref]
theorem RefIs.open (h : RefIs s c R i rows row f st op) (hi : i < s.size) : ∃ k, s.size < i + 1 + k ∧ Csv.ref c (k + 1) (s[i]'hi :: s.data.toList.drop (i + 1)) i rows row f st op = R := by
  obtain ⟨k, h1, h2⟩ := h
  obtain ⟨k, rfl⟩ : ∃ n, k = n + 1 := ⟨k - 1, by omega⟩
  exact ⟨k, by omega, by rw [← drop_cons s i hi]; exact h2⟩
theorem head_drop (s : ByteArray) (i : Nat) (hi : i + 1 < s.size) : (s.data.toList.drop (i + 1)).head? = some (s[i + 1]'hi) := by rw [drop_cons s (i + 1) hi]; rfl
theorem head_over (s : ByteArray) (i : Nat) (hi : ¬ i + 1 < s.size) (x : UInt8) : (s.data.toList.drop (i + 1)).head? ≠ some x := by
  rw [List.drop_of_length_le (by have : s.data.size = s.size := rfl; simp; omega)]; simp
theorem tail_drop (s : ByteArray) (i : Nat) : (s.data.toList.drop (i + 1)).tail = s.data.toList.drop (i + 2) := by rw [List.tail_drop]
theorem RefIs.in_byte (h : RefIs s c R i rows row f 2 op) (hi : i < s.size) (hc : s[i]'hi ≠ 34) : RefIs s c R (i + 1) rows row (f ++ [s[i]'hi]) 2 op := by
  obtain ⟨k, h1, h2⟩ := h.open hi
  simp only [Csv.ref, if_true, hc, if_false] at h2
  exact ⟨k, h1, h2⟩
theorem RefIs.in_two (h : RefIs s c R i rows row f 2 op) (hi : i < s.size) (hc : s[i]'hi = 34) (hd : (s.data.toList.drop (i + 1)).head? = some 34) : RefIs s c R (i + 2) rows row (f ++ [s[i]'hi]) 2 op := by
  obtain ⟨k, h1, h2⟩ := h.open hi
  simp only [Csv.ref, if_true, hc, hd, tail_drop] at h2
  exact ⟨k, by omega, by rw [hc]; exact h2⟩
theorem RefIs.in_end (h : RefIs s c R i rows row f 2 op) (hi : i < s.size) (hc : s[i]'hi = 34) (hd : (s.data.toList.drop (i + 1)).head? ≠ some 34) : RefIs s c R (i + 1) rows row f 3 op := by
  obtain ⟨k, h1, h2⟩ := h.open hi
  simp only [Csv.ref, if_true, hc, hd, if_false] at h2
  exact ⟨k, h1, h2⟩
theorem RefIs.sep (h : RefIs s c R i rows row f st op) (h2 : st ≠ 2) (hi : i < s.size) (hc : s[i]'hi = c) : RefIs s c R (i + 1) rows (row ++ [f]) [] 0 true := by
  obtain ⟨k, h1, h3⟩ := h.open hi
  simp only [Csv.ref, h2, if_false, hc, if_true] at h3
  exact ⟨k, h1, h3⟩
theorem RefIs.nl (h : RefIs s c R i rows row f st op) (h2 : st ≠ 2) (hi : i < s.size) (hs : s[i]'hi ≠ c) (hc : s[i]'hi = 10) : RefIs s c R (i + 1) (rows ++ [row ++ [f]]) [] [] 0 false := by
  obtain ⟨k, h1, h3⟩ := h.open hi
  simp only [Csv.ref, h2, hs, if_false] at h3
  simp only [hc, if_true] at h3
  exact ⟨k, h1, h3⟩
theorem RefIs.crnl (h : RefIs s c R i rows row f st op) (h2 : st ≠ 2) (hi : i < s.size) (hs : s[i]'hi ≠ c) (hc : s[i]'hi = 13) (hd : (s.data.toList.drop (i + 1)).head? = some 10) : RefIs s c R (i + 2) (rows ++ [row ++ [f]]) [] [] 0 false := by
  obtain ⟨k, h1, h3⟩ := h.open hi
  simp only [Csv.ref, h2, hs, if_false] at h3
  simp only [hc, hd, if_true, tail_drop] at h3
  exact ⟨k, by omega, h3⟩
theorem RefIs.cr (h : RefIs s c R i rows row f st op) (h2 : st ≠ 2) (hi : i < s.size) (hs : s[i]'hi ≠ c) (hc : s[i]'hi = 13) (hd : (s.data.toList.drop (i + 1)).head? ≠ some 10) : R = .bad (i + 1) := by
  obtain ⟨k, h1, h3⟩ := h.open hi
  simp only [Csv.ref, h2, hs, if_false] at h3
  simp only [hc, hd, if_true, if_false] at h3
  exact h3.symm
theorem RefIs.quote (h : RefIs s c R i rows row f 0 op) (hi : i < s.size) (hs : s[i]'hi ≠ c) (hc : s[i]'hi = 34) : RefIs s c R (i + 1) rows row f 2 true := by
  obtain ⟨k, h1, h3⟩ := h.open hi
  simp only [Csv.ref, hs, if_false] at h3
  simp only [hc, and_self, if_true] at h3
  exact ⟨k, h1, h3⟩
theorem RefIs.bad (h : RefIs s c R i rows row f st op) (h2 : st ≠ 2) (hi : i < s.size) (hs : s[i]'hi ≠ c) (h10 : s[i]'hi ≠ 10) (h13 : s[i]'hi ≠ 13) (hq : ¬ (s[i]'hi = 34 ∧ st = 0)) (hb : s[i]'hi = 34 ∨ st = 3) : R = .bad i := by
  obtain ⟨k, h1, h3⟩ := h.open hi
  simp only [Csv.ref, h2, hs, h10, h13, hq, hb, if_false, if_true] at h3
  exact h3.symm
theorem RefIs.byte (h : RefIs s c R i rows row f st op) (h2 : st ≠ 2) (hi : i < s.size) (hs : s[i]'hi ≠ c) (h10 : s[i]'hi ≠ 10) (h13 : s[i]'hi ≠ 13) (h34 : s[i]'hi ≠ 34) (h3' : st ≠ 3) : RefIs s c R (i + 1) rows row (f ++ [s[i]'hi]) 1 true := by
  obtain ⟨k, h1, h3⟩ := h.open hi
  simp only [Csv.ref, h2, hs, h10, h13, h34, h3', false_and, or_self, if_false] at h3
  exact ⟨k, h1, h3⟩
end
end Go.Proofs.YtjndiielolphgaaDoor
