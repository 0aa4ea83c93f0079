/- Plain laws and laws of memory for reading a sheet: which cells and losses the records give; slices of structs that a call owns. No conditions; no function of the program. -/
import Derived.Test.YtjndiielolphgaaDoorCsvTextPlain
import Derived.Test.YtjndiielolphgaaDoorCsvRefLaws
namespace Go.Proofs.YtjndiielolphgaaDoor
open Go.RowKit

def ba (b : Csv.Bytes) : ByteArray := ⟨b.toArray⟩

structure CellE where
  row : Nat
  col : Nat
  text : Csv.Bytes
structure LossE where
  kind : Nat
  row : Nat
  col : Nat
  text : Csv.Bytes

noncomputable def cellsOf (i k : Nat) (f : Csv.Bytes) : List CellE := if (textR (ba f)).1 = [] then [] else [⟨i, k, (textR (ba f)).1⟩]
noncomputable def lossesOf (i k : Nat) (f : Csv.Bytes) : List LossE := (if (textR (ba f)).2.1 then [⟨5, i, k, f⟩] else []) ++ (if (textR (ba f)).2.2 then [⟨6, i, k, f⟩] else [])
noncomputable def fieldsC (i : Nat) : Nat → List Csv.Bytes → List CellE
  | _, [] => []
  | k, f :: r => cellsOf i k f ++ fieldsC i (k + 1) r
noncomputable def fieldsL (i : Nat) : Nat → List Csv.Bytes → List LossE
  | _, [] => []
  | k, f :: r => lossesOf i k f ++ fieldsL i (k + 1) r
noncomputable def rowsC : Nat → List (List Csv.Bytes) → List CellE
  | _, [] => []
  | i, r :: rs => fieldsC i 0 r ++ rowsC (i + 1) rs
noncomputable def rowsL : Nat → List (List Csv.Bytes) → List LossE
  | _, [] => []
  | i, r :: rs => fieldsL i 0 r ++ rowsL (i + 1) rs
def total : List (List Csv.Bytes) → Nat
  | [] => 0
  | r :: rs => r.length + total rs
def widest : List (List Csv.Bytes) → Nat
  | [] => 0
  | r :: rs => max r.length (widest rs)

theorem cellsOf_len (i k : Nat) (f : Csv.Bytes) : (cellsOf i k f).length ≤ 1 := by unfold cellsOf; split <;> simp
theorem lossesOf_len (i k : Nat) (f : Csv.Bytes) : (lossesOf i k f).length ≤ 2 := by
  unfold lossesOf
  cases (textR (ba f)).2.1 <;> cases (textR (ba f)).2.2 <;> simp
theorem fieldsC_len (i : Nat) : ∀ (k : Nat) (r : List Csv.Bytes), (fieldsC i k r).length ≤ r.length
  | _, [] => by simp [fieldsC]
  | k, f :: r => by have := cellsOf_len i k f; have := fieldsC_len i (k + 1) r; simp [fieldsC]; omega
theorem fieldsL_len (i : Nat) : ∀ (k : Nat) (r : List Csv.Bytes), (fieldsL i k r).length ≤ 2 * r.length
  | _, [] => by simp [fieldsL]
  | k, f :: r => by have := lossesOf_len i k f; have := fieldsL_len i (k + 1) r; simp [fieldsL]; omega
theorem rowsC_len : ∀ (i : Nat) (rs : List (List Csv.Bytes)), (rowsC i rs).length ≤ total rs
  | _, [] => by simp [rowsC]
  | i, r :: rs => by have := fieldsC_len i 0 r; have := rowsC_len (i + 1) rs; simp [rowsC, total]; omega
theorem rowsL_len : ∀ (i : Nat) (rs : List (List Csv.Bytes)), (rowsL i rs).length ≤ 2 * total rs
  | _, [] => by simp [rowsL]
  | i, r :: rs => by have := fieldsL_len i 0 r; have := rowsL_len (i + 1) rs; simp [rowsL, total]; omega

/-! what the records of a text are bounded by -/
theorem quoted_len (b : Bool) : ∀ (s v : Csv.Bytes) (n : Nat), Csv.quoted b s = some (v, n) → v.length ≤ n := by
  intro s
  induction s generalizing b with
  | nil => intro v n h; cases b <;> simp [Csv.quoted] at h
  | cons c r ih =>
    intro v n h
    have key : ∀ b' (g : Csv.Bytes × Nat → Csv.Bytes × Nat), (∀ x, x.1.length ≤ x.2 → (g x).1.length ≤ (g x).2) → (Csv.quoted b' r).map g = some (v, n) → v.length ≤ n := by
      intro b' g hg h
      rw [Option.map_eq_some_iff] at h
      obtain ⟨⟨v', n'⟩, h1, h2⟩ := h
      have h4 := hg (v', n') (ih b' v' n' h1)
      rw [h2] at h4; exact h4
    cases b with
    | true => exact key false (fun x => (c :: x.1, x.2 + 1)) (fun x hx => Nat.succ_le_succ hx) (by simpa only [Csv.quoted] using h)
    | false =>
      simp only [Csv.quoted] at h
      split at h
      · split at h
        · exact key true (fun x => (x.1, x.2 + 1)) (fun x hx => Nat.le_succ_of_le hx) h
        · simp at h
          obtain ⟨rfl, rfl⟩ := h
          simp
      · exact key false (fun x => (c :: x.1, x.2 + 1)) (fun x hx => Nat.succ_le_succ hx) h
theorem field_len (sep : UInt8) (s v : Csv.Bytes) (n : Nat) (h : Csv.field sep s = some (v, n)) : v.length ≤ n := by
  cases s with
  | nil =>
    simp [Csv.field] at h
    obtain ⟨rfl, rfl⟩ := h
    simp
  | cons c r =>
    simp only [Csv.field] at h
    split at h
    · rw [Option.map_eq_some_iff] at h
      obtain ⟨⟨v', n'⟩, h1, h2⟩ := h
      have h3 := quoted_len _ _ _ _ h1
      simp at h2; rw [← h2.1]; omega
    · simp only [Option.some.injEq, Prod.mk.injEq] at h
      rw [← h.1]; simp; omega

def Within (L : Nat) (row : List Csv.Bytes) : Prop := ∀ f ∈ row, f.length ≤ L

theorem record_bound (sep : UInt8) (L : Nat) : ∀ (fuel : Nat) (s : Csv.Bytes) (p : Nat) (row row' : List Csv.Bytes) (q : Nat), s.length ≤ L → Within L row → Csv.record sep fuel s p row = some (row', q) →
    row'.length + p ≤ row.length + q + 1 ∧ p ≤ q ∧ q ≤ p + s.length ∧ Within L row'
  | 0, s, p, row, row', q, _, _, h => by simp [Csv.record] at h
  | fuel + 1, s, p, row, row', q, hs, hw, h => by
    simp only [Csv.record] at h
    split at h
    · cases h
    · rename_i v n hf
      have hn := Csv.field_le sep s v n hf
      have hv := field_len sep s v n hf
      have hw' : Within L (row ++ [v]) := by
        intro f hf2
        simp only [List.mem_append, List.mem_singleton] at hf2
        rcases hf2 with h | rfl
        · exact hw f h
        · omega
      split at h
      · rename_i hsep
        have hlt : n < s.length := by
          rcases Nat.lt_or_ge n s.length with h | h
          · exact h
          · rw [List.drop_of_length_le h] at hsep; simp at hsep
        obtain ⟨a1, a2, a3, a4⟩ := record_bound sep L fuel (s.drop (n + 1)) (p + n + 1) (row ++ [v]) row' q (by simp; omega) hw' h
        simp at a1 a3
        exact ⟨by omega, by omega, by omega, a4⟩
      · simp only [Option.some.injEq, Prod.mk.injEq] at h
        obtain ⟨rfl, rfl⟩ := h
        exact ⟨by simp; omega, by omega, by omega, hw'⟩

theorem total_snoc (rs : List (List Csv.Bytes)) (r : List Csv.Bytes) : total (rs ++ [r]) = total rs + r.length := by
  induction rs with
  | nil => simp [total]
  | cons x t ih => simp [total, ih]; omega

theorem parse_bound (sep : UInt8) (l : Csv.Bytes) : ∀ (fuel p : Nat) (rows rs : List (List Csv.Bytes)), l.length < p + fuel → p ≤ l.length → total rows ≤ 2 * p → (∀ r ∈ rows, Within l.length r) → Csv.parse sep l fuel p rows = .ok rs →
    total rs ≤ 2 * l.length ∧ ∀ r ∈ rs, Within l.length r
  | 0, p, rows, rs, h1, h2, _, _, _ => by omega
  | fuel + 1, p, rows, rs, h1, h2, h3, h4, h => by
    by_cases hp : p < l.length
    · simp only [Csv.parse, hp, if_true] at h
      split at h
      · cases h
      · rename_i row q hre
        obtain ⟨a1, a2, a3, a4⟩ := record_bound sep l.length (l.length + 1) (l.drop p) p [] row q (by simp) (by intro f hf; simp at hf) hre
        simp at a1 a3
        split at h
        · cases h
        · rename_i n hen
          obtain ⟨e1, e2⟩ := ends_facts _ _ hen
          simp at e2
          have hgt : p < q + n := by
            rcases Nat.eq_zero_or_pos n with h0 | h0
            · have := congrArg List.length (e1 h0); simp at this; omega
            · omega
          refine parse_bound sep l fuel (q + n) (rows ++ [row]) rs (by omega) (by omega) (by rw [total_snoc]; omega) ?_ h
          intro r hr
          simp only [List.mem_append, List.mem_singleton] at hr
          rcases hr with hr | rfl
          · exact h4 r hr
          · exact a4
    · simp only [Csv.parse, hp, if_false] at h
      cases h
      exact ⟨by omega, h4⟩

theorem cell_setCell_same {w : World} {b : Nat} {cs : Array Value} {T : TypeId} {fz : Nat × Nat} (h : w.heap[b]? = some (.cells cs T fz)) (j : Nat) (hj : j < cs.size) (v : Value) :
    (w.setCell ⟨b, j, none⟩ v).cell? ⟨b, j, none⟩ = some v := by
  rw [Lib.cell_of_heap (heap_setCell_at h j v)]
  simp [hj]

/-! the cells of structs -/
def cellV (x : CellE) : List Value := [.int .i64 x.row, .int .i64 x.col, .string (ba x.text), .int .i64 0, .slice none 0 0]
def lossV (x : LossE) : List Value := [.int .i64 x.kind, .int .i64 0, .int .i64 x.row, .int .i64 x.col, .string (ba x.text)]

theorem flat_snoc {α : Type} (f : α → List Value) (xs : List α) (x : α) : (xs ++ [x]).flatMap f = xs.flatMap f ++ f x := by simp

theorem news_alloc (w : World) (cs : Array Value) (T : TypeId) : ∀ (j : Nat) (u : Value), cs.toList[j]? = some u → (w.alloc (.cells cs T)).cell? ((⟨w.heap.size, 0, none⟩ : Addr).add j) = some u := by
  intro j u hu
  have hadd : (⟨w.heap.size, 0, none⟩ : Addr).add j = ⟨w.heap.size, j, none⟩ := by unfold Addr.add; split <;> simp_all
  rw [hadd, Lib.cell_of_heap (heap_alloc_new w (.cells cs T))]
  simpa using hu

/-- a slice of structs of five cells that the call owns, and what lies behind 'H' is as it was -/
structure Own5 (T : TypeId) (B : Nat) (v : Value) (n : Nat) (xs : List Value) (w : World) : Prop where
  own : w.ownsRow B T 5 v n xs
theorem Own5.keep {T : TypeId} {B n : Nat} {v : Value} {xs : List Value} {w w' : World} (h : Own5 T B v n xs w) (hk : KeepKind T w w') : Own5 T B v n xs w' := ⟨hk.owns h.own⟩
end Go.Proofs.YtjndiielolphgaaDoor
