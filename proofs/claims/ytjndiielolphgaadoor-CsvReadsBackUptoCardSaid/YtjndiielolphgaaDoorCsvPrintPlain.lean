/- Plain laws, no program: what writing of separated values computes, and that reading gives back what was written. No conditions. -/
import Derived.Test.YtjndiielolphgaaDoorCsvPlain
namespace Go.Proofs.YtjndiielolphgaaDoor.Csv

/-- a field's text with each quotation mark twice -/
def esc : Bytes → Bytes
  | [] => []
  | c :: r => if c = 34 then 34 :: 34 :: esc r else c :: esc r
/-- whether a field of a record of n fields must stand in quotation marks -/
def must (sep : UInt8) (n : Nat) (f : Bytes) : Bool := f.any (stop sep) || (f.isEmpty && n == 1)
def fieldOut (sep : UInt8) (n : Nat) (f : Bytes) : Bytes := if must sep n f then 34 :: (esc f ++ [34]) else f
def cellsOut (sep : UInt8) (n : Nat) : Nat → List Bytes → Bytes
  | _, [] => []
  | i, f :: r => (if i = 0 then [] else [sep]) ++ fieldOut sep n f ++ cellsOut sep n (i + 1) r
def rowOut (sep : UInt8) (row : List Bytes) : Bytes := cellsOut sep row.length 0 row ++ [10]
def printOut (sep : UInt8) (rows : List (List Bytes)) : Bytes := rows.flatMap (rowOut sep)

theorem quoted_esc (c : UInt8) (hc : c ≠ 34) (rest : Bytes) : ∀ f : Bytes, quoted false (esc f ++ 34 :: c :: rest) = some (f, (esc f).length + 1)
  | [] => by simp [esc, quoted, hc]
  | x :: f => by
    have ih := quoted_esc c hc rest f
    unfold esc
    by_cases hx : x = 34
    · subst hx
      simp [quoted, ih]
    · simp [quoted, hx, ih]

theorem plainLen_all (sep c : UInt8) (hc : stop sep c = true) (rest : Bytes) : ∀ f : Bytes, f.any (stop sep) = false → plainLen sep (f ++ c :: rest) = f.length
  | [], _ => by simp [plainLen, hc]
  | x :: f, h => by
    simp only [List.any_cons, Bool.or_eq_false_iff] at h
    simp [plainLen, h.1, plainLen_all sep c hc rest f h.2]

theorem field_out (sep : UInt8) (n : Nat) (f : Bytes) (c : UInt8) (rest : Bytes) (hc : c ≠ 34) (hs : stop sep c = true) :
    field sep (fieldOut sep n f ++ c :: rest) = some (f, (fieldOut sep n f).length) := by
  unfold fieldOut
  cases hm : must sep n f with
  | true =>
    simp only [if_true, List.cons_append, List.append_assoc, List.nil_append, field]
    rw [quoted_esc c hc rest f]
    simp
  | false =>
    simp only [Bool.false_eq_true, if_false]
    simp only [must, Bool.or_eq_false_iff] at hm
    have hp := plainLen_all sep c hs rest f hm.1
    cases f with
    | nil =>
      simp only [List.nil_append, field, if_neg hc]
      simp only [List.nil_append, List.length_nil] at hp
      rw [hp]; simp
    | cons x f =>
      have hx : x ≠ 34 := by
        rintro rfl
        simp [stop] at hm
      rw [List.cons_append] at hp ⊢
      simp only [field, if_neg hx]
      rw [hp]
      simp

/-- a record that was written is read -/
theorem record_out (sep : UInt8) (n : Nat) (h34 : sep ≠ 34) (h10 : sep ≠ 10) (rest : Bytes) : ∀ (row : List Bytes) (f : Bytes) (fuel p i : Nat) (done : List Bytes), row.length < fuel →
    record sep fuel (fieldOut sep n f ++ cellsOut sep n (i + 1) row ++ 10 :: rest) p done = some (done ++ f :: row, p + (fieldOut sep n f ++ cellsOut sep n (i + 1) row).length)
  | [], f, fuel, p, i, done, hf => by
    obtain ⟨k, rfl⟩ : ∃ k, fuel = k + 1 := ⟨fuel - 1, by omega⟩
    simp only [cellsOut, List.append_nil, record]
    rw [field_out sep n f 10 rest (by decide) (by simp [stop])]
    simp only [List.drop_left', List.head?_cons]
    have : ¬ (some (10 : UInt8) = some sep) := by simp; exact fun h => h10 h.symm
    simp [this]
  | g :: row, f, fuel, p, i, done, hf => by
    obtain ⟨k, rfl⟩ : ∃ k, fuel = k + 1 := ⟨fuel - 1, by simp at hf; omega⟩
    simp only [cellsOut, Nat.add_one_ne_zero, if_false, List.singleton_append, List.append_assoc, List.cons_append, List.nil_append, record]
    rw [field_out sep n f sep _ h34 (by simp [stop])]
    have e1 : (fieldOut sep n f ++ sep :: (fieldOut sep n g ++ (cellsOut sep n (i + 1 + 1) row ++ 10 :: rest))).drop (fieldOut sep n f).length = sep :: (fieldOut sep n g ++ (cellsOut sep n (i + 1 + 1) row ++ 10 :: rest)) := by simp
    have e2 : (fieldOut sep n f ++ sep :: (fieldOut sep n g ++ (cellsOut sep n (i + 1 + 1) row ++ 10 :: rest))).drop ((fieldOut sep n f).length + 1) = fieldOut sep n g ++ cellsOut sep n (i + 1 + 1) row ++ 10 :: rest := by
      rw [← List.drop_drop, e1]; simp
    simp only [e1, e2, List.head?_cons, if_true]
    rw [record_out sep n h34 h10 rest row g k _ (i + 1) _ (by simp at hf; omega)]
    simp only [List.append_assoc, List.singleton_append, List.length_append, List.length_cons, Option.some.injEq, Prod.mk.injEq, true_and]
    omega

theorem rowOut_cons (sep : UInt8) (f : Bytes) (row : List Bytes) : rowOut sep (f :: row) = fieldOut sep (row.length + 1) f ++ cellsOut sep (row.length + 1) 1 row ++ [10] := by
  simp [rowOut, cellsOut]
theorem cellsOut_len (sep : UInt8) (n : Nat) : ∀ (row : List Bytes) (i : Nat), row.length ≤ (cellsOut sep n (i + 1) row).length
  | [], _ => by simp [cellsOut]
  | f :: r, i => by
    have := cellsOut_len sep n r (i + 1)
    simp [cellsOut]; omega

/-- reading gives back what was written, from any record on -/
theorem parse_out (sep : UInt8) (h34 : sep ≠ 34) (h10 : sep ≠ 10) : ∀ (rows : List (List Bytes)) (pre : Bytes) (fuel : Nat) (done : List (List Bytes)), (∀ r ∈ rows, r ≠ []) → rows.length < fuel →
    parse sep (pre ++ printOut sep rows) fuel pre.length done = .ok (done ++ rows)
  | [], pre, fuel, done, _, hf => by
    obtain ⟨k, rfl⟩ : ∃ k, fuel = k + 1 := ⟨fuel - 1, by simp at hf; omega⟩
    simp [parse, printOut]
  | row :: rows, pre, fuel, done, hne, hf => by
    obtain ⟨k, rfl⟩ : ∃ k, fuel = k + 1 := ⟨fuel - 1, by simp at hf; omega⟩
    cases row with
    | nil => exact absurd rfl (hne [] (by simp))
    | cons f row =>
      have e0 : printOut sep ((f :: row) :: rows) = fieldOut sep (row.length + 1) f ++ cellsOut sep (row.length + 1) 1 row ++ 10 :: printOut sep rows := by
        simp [printOut, rowOut_cons]
      have hl := cellsOut_len sep (row.length + 1) row 0
      rw [Nat.zero_add] at hl
      rw [e0, parse]
      have e1 : (pre ++ (fieldOut sep (row.length + 1) f ++ cellsOut sep (row.length + 1) 1 row ++ 10 :: printOut sep rows)).drop pre.length = fieldOut sep (row.length + 1) f ++ cellsOut sep (row.length + 1) (0 + 1) row ++ 10 :: printOut sep rows := by simp
      rw [if_pos (by simp; omega), e1, record_out sep (row.length + 1) h34 h10 (printOut sep rows) row f _ _ 0 [] (by simp; omega)]
      simp only [Nat.zero_add, List.nil_append]
      have e2 : (pre ++ (fieldOut sep (row.length + 1) f ++ cellsOut sep (row.length + 1) 1 row ++ 10 :: printOut sep rows)).drop (pre.length + (fieldOut sep (row.length + 1) f ++ cellsOut sep (row.length + 1) 1 row).length) = 10 :: printOut sep rows := by
        rw [← List.drop_drop]; simp
      rw [e2]
      simp only [ends, if_true]
      have ih := parse_out sep h34 h10 rows (pre ++ (fieldOut sep (row.length + 1) f ++ cellsOut sep (row.length + 1) 1 row ++ [10])) k (done ++ [f :: row]) (fun r hr => hne r (by simp [hr])) (by simp at hf; omega)
      have e3 : pre ++ (fieldOut sep (row.length + 1) f ++ cellsOut sep (row.length + 1) 1 row ++ 10 :: printOut sep rows) = pre ++ (fieldOut sep (row.length + 1) f ++ cellsOut sep (row.length + 1) 1 row ++ [10]) ++ printOut sep rows := by simp
      have e4 : pre.length + (fieldOut sep (row.length + 1) f ++ cellsOut sep (row.length + 1) 1 row).length + 1 = (pre ++ (fieldOut sep (row.length + 1) f ++ cellsOut sep (row.length + 1) 1 row ++ [10])).length := by simp; omega
      rw [e3, e4, ih]
      simp

theorem printOut_len (sep : UInt8) : ∀ rows : List (List Bytes), rows.length ≤ (printOut sep rows).length
  | [] => by simp
  | r :: rows => by
    have := printOut_len sep rows
    have e : printOut sep (r :: rows) = cellsOut sep r.length 0 r ++ 10 :: printOut sep rows := by simp [printOut, rowOut]
    rw [e]
    simp only [List.length_append, List.length_cons]
    omega
/-- reading gives back what was written -/
theorem parse_print (sep : UInt8) (h34 : sep ≠ 34) (h10 : sep ≠ 10) (rows : List (List Bytes)) (hne : ∀ r ∈ rows, r ≠ []) :
    parse sep (printOut sep rows) ((printOut sep rows).length + 1) 0 [] = .ok rows := by
  have := parse_out sep h34 h10 rows [] ((printOut sep rows).length + 1) [] hne (by have := printOut_len sep rows; omega)
  simpa using this
end Go.Proofs.YtjndiielolphgaaDoor.Csv
