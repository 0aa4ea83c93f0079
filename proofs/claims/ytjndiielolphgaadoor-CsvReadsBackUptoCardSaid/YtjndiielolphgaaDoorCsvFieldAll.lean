/- (*csv.reader).field and (*csv.reader).end at every place of the text: what they return and what the reader holds behind them. Conditions: the reader lies in a block of three cells, the place is inside the text, the separator is one of the four. -/
import Derived.Test.YtjndiielolphgaaDoorCsvQuoted
namespace Go.Proofs.YtjndiielolphgaaDoor
open Go.RowKit

structure SepFacts (sep : Int) (c : UInt8) : Prop where
  num : sep = c.toNat
  enc : (Utf8.encode sep).size = 1
  size : (charsOf sep).size = 4
  list : (charsOf sep).data.toList = [c, 34, 13, 10]
  ok : Csv.SepOk c

theorem SepFacts.ascii {sep : Int} {c : UInt8} (h : SepFacts sep c) (hc : c.toNat < 128) : Ascii (charsOf sep) := by
  intro j hj
  have hm : (charsOf sep)[j] ∈ (charsOf sep).data.toList := by
    rw [Array.mem_toList_iff]; exact Array.getElem_mem hj
  rw [h.list] at hm
  simp only [List.mem_cons, List.not_mem_nil, or_false] at hm
  rcases hm with h | h | h | h <;> rw [h] <;> first | exact hc | decide

theorem sep_facts (sep : Int) (h : isSep sep = true) : ∃ c : UInt8, SepFacts sep c ∧ c.toNat < 128 := by
  have : sep = 44 ∨ sep = 59 ∨ sep = 124 ∨ sep = 9 := by simpa [isSep] using h
  rcases this with rfl | rfl | rfl | rfl
  · exact ⟨44, ⟨rfl, by decide, by decide, by decide, ⟨by decide, by decide, by decide⟩⟩, by decide⟩
  · exact ⟨59, ⟨rfl, by decide, by decide, by decide, ⟨by decide, by decide, by decide⟩⟩, by decide⟩
  · exact ⟨124, ⟨rfl, by decide, by decide, by decide, ⟨by decide, by decide, by decide⟩⟩, by decide⟩
  · exact ⟨9, ⟨rfl, by decide, by decide, by decide, ⟨by decide, by decide, by decide⟩⟩, by decide⟩

theorem plainLen_cons (c b : UInt8) (l : List UInt8) : Csv.plainLen c (b :: l) = if Csv.stop c b then 0 else Csv.plainLen c l + 1 := rfl

theorem indexAny_plain (c : UInt8) : ∀ l : List UInt8, Lib.indexAny l [c, 34, 13, 10] = if Csv.plainLen c l < l.length then (Csv.plainLen c l : Int) else -1
  | [] => by simp [Lib.indexAny]
  | b :: l => by
    have ih := indexAny_plain c l
    have hst : [c, 34, 13, 10].contains b = Csv.stop c b := by
      simp only [Csv.stop, List.contains_cons, List.contains_nil, Bool.or_false, Bool.or_assoc]
    rw [Lib.indexAny, hst, ih, plainLen_cons]
    by_cases hs : Csv.stop c b = true
    · simp [hs]
    · simp only [hs, if_false, Bool.false_eq_true, List.length_cons]
      by_cases hl : Csv.plainLen c l < l.length
      · have : ((Csv.plainLen c l : Int) == -1) = false := by rw [beq_eq_false_iff_ne]; omega
        have hl' : Csv.plainLen c l + 1 < l.length + 1 := by omega
        rw [if_pos hl, if_pos hl', this]
        rfl
      · have hl' : ¬ Csv.plainLen c l + 1 < l.length + 1 := by omega
        rw [if_neg hl, if_neg hl']; rfl

theorem hasPrefix_one (l : List UInt8) (b : UInt8) : Lib.hasPrefix l [b] = true ↔ l.head? = some b := by
  cases l with
  | nil => simp [Lib.hasPrefix]
  | cons a t => simp [Lib.hasPrefix, List.isPrefixOf]; exact eq_comm

theorem hasPrefix_two (l : List UInt8) (b d : UInt8) : Lib.hasPrefix l [b, d] = true ↔ ∃ t, l = b :: d :: t := by
  match l with
  | [] => simp [Lib.hasPrefix]
  | [a] => simp [Lib.hasPrefix, List.isPrefixOf]
  | a :: e :: t =>
    simp [Lib.hasPrefix, List.isPrefixOf]
    constructor
    · rintro ⟨rfl, rfl⟩; exact ⟨rfl, rfl⟩
    · rintro ⟨rfl, rfl⟩; exact ⟨rfl, rfl⟩

theorem field_any (s : ByteArray) (i : Nat) (sep : Int) (c : UInt8) (r : Nat) (w : World) (hs : s.size ≤ 4000000000) (hi : i ≤ s.size) (hc : SepFacts sep c) (hc2 : c.toNat < 128)
    (hb : w.heap[r]? = some (.cells #[.string s, .int .i64 i, .int .u8 sep] 78 (0, 0))) :
    Calls Tryd.prog 35 #[.pointer (some ⟨r, 0, none⟩)] w (FieldPost s i sep r w (Csv.field c (s.data.toList.drop i))) := by
  cases hp : Lib.hasPrefix (s.extract i s.size).data.toList [34] with
  | true =>
    have hh := hp
    rw [Lib.extract_to_end, hasPrefix_one] at hh
    have hlt : i < s.size := by
      rcases Nat.lt_or_ge i s.size with h | h
      · exact h
      · rw [List.drop_of_length_le (by simpa using h)] at hh; simp at hh
    have hf : Csv.field c (s.data.toList.drop i) = (Csv.quoted false (s.data.toList.drop (i + 1))).map fun x => (x.1, x.2 + 1) := by
      rw [drop_cons s i hlt] at hh ⊢
      simp only [List.head?_cons, Option.some.injEq] at hh
      simp [Csv.field, hh]
    rw [hf]
    exact field_quoted s i sep r w hs hlt hb hp
  | false =>
    have hh := hp
    rw [Lib.extract_to_end] at hh
    have hh : ¬ (s.data.toList.drop i).head? = some 34 := by
      intro h; rw [← hasPrefix_one] at h; rw [h] at hh; cases hh
    obtain ⟨n, hn⟩ : ∃ n, Csv.plainLen c (s.data.toList.drop i) = n := ⟨_, rfl⟩
    have hle := Csv.plainLen_le c (s.data.toList.drop i)
    rw [hn] at hle
    have hlen : (s.data.toList.drop i).length = s.size - i := by simp
    have hf : Csv.field c (s.data.toList.drop i) = some ((s.data.toList.drop i).take n, n) := by
      rw [← hn]
      cases hd : s.data.toList.drop i with
      | nil => simp [Csv.field, Csv.plainLen]
      | cons a t =>
        rw [hd] at hh
        have : ¬ a = 34 := by simpa using hh
        simp [Csv.field, this]
    have hidx := indexAny_plain c (s.data.toList.drop i)
    rw [hn, hlen] at hidx
    have hstr : s.extract i (i + n) = ⟨((s.data.toList.drop i).take n).toArray⟩ := by
      apply ByteArray.ext
      apply Array.ext'
      rw [Lib.extract_data]
      simp
    rw [hf]
    by_cases hl : n < s.size - i
    · rw [if_pos hl] at hidx
      refine (field_plain1 s i n sep r w hs hi (by omega) hb hp (by rw [Lib.extract_to_end, hc.list]; exact hidx) hc.enc hc.size (hc.ascii hc2)).mono fun e w' ⟨h1, h2, h3⟩ => ⟨h3, ?_, h2⟩
      rw [h1, hstr]
    · rw [if_neg hl] at hidx
      refine (field_plain2 s i n sep r w hs hi (by omega) (by omega) hb hp (by rw [Lib.extract_to_end, hc.list]; exact hidx) hc.enc hc.size (hc.ascii hc2)).mono fun e w' ⟨h1, h2, h3⟩ => ⟨h3, ?_, h2⟩
      rw [h1, hstr]

def EndPost (s : ByteArray) (i : Nat) (sep : Int) (r : Nat) (w : World) (res : Option Nat) (e : Ending) (w' : World) : Prop :=
  w.grownBy w' (some r) ∧
  match res with
  | none => e = .returned (.bool false) ∧ w'.heap[r]? = some (.cells #[.string s, .int .i64 i, .int .u8 sep] 78 (0, 0))
  | some n => e = .returned (.bool true) ∧ w'.heap[r]? = some (.cells #[.string s, .int .i64 (i + n : Nat), .int .u8 sep] 78 (0, 0))

theorem end_any (s : ByteArray) (i : Nat) (sep : Int) (r : Nat) (w : World) (hs : s.size ≤ 4000000000) (hi : i ≤ s.size)
    (hb : w.heap[r]? = some (.cells #[.string s, .int .i64 i, .int .u8 sep] 78 (0, 0))) :
    Calls Tryd.prog 36 #[.pointer (some ⟨r, 0, none⟩)] w (EndPost s i sep r w (Csv.ends (s.data.toList.drop i))) := by
  have h0 : w.cell? ⟨r, 0, none⟩ = some (.string s) := Lib.cell_of_heap hb 0
  have h1 : w.cell? ⟨r, 1, none⟩ = some (.int .i64 i) := Lib.cell_of_heap hb 1
  have hf := Lib.frozen_of_heap hb 1
  have put : ∀ (k : Nat) (n : Nat), ((w.setCell ⟨r, 1, none⟩ (.int .i64 ((i : Int) + k))).drewN n).heap[r]? = some (.cells #[.string s, .int .i64 (i + k : Nat), .int .u8 sep] 78 (0, 0)) := by
    intro k n
    exact (heap_setCell_at hb 1 _).trans (by simp)
  have fr : ∀ (k : Int) (n : Nat), w.grownBy ((w.setCell ⟨r, 1, none⟩ (.int .i64 ((i : Int) + k))).drewN n) (some r) := fun k n => only_drewN (only_setCell (only_refl _ _) (.inl rfl) _) _
  have hlen : (s.data.toList.drop i).length = s.size - i := by simp
  cases p1 : Lib.hasPrefix (s.extract i s.size).data.toList [10] with
  | true =>
    have hh := p1
    rw [Lib.extract_to_end, hasPrefix_one] at hh
    have he : Csv.ends (s.data.toList.drop i) = some 1 := by
      cases hd : s.data.toList.drop i with
      | nil => rw [hd] at hh; simp at hh
      | cons a t => rw [hd] at hh; simp only [List.head?_cons, Option.some.injEq] at hh; simp [Csv.ends, hh]
    rw [he]
    exact (end_one s i r w hs hi h0 h1 hf p1).mono fun e w' ⟨h1, n, h2⟩ => by rw [h2]; exact ⟨fr 1 n, h1, put 1 n⟩
  | false =>
    have hh : ¬ (s.data.toList.drop i).head? = some 10 := by
      rw [← hasPrefix_one, ← Lib.extract_to_end, p1]; simp
    cases p2 : Lib.hasPrefix (s.extract i s.size).data.toList [13, 10] with
    | true =>
      have h2 := p2
      rw [Lib.extract_to_end, hasPrefix_two] at h2
      obtain ⟨t, ht⟩ := h2
      have he : Csv.ends (s.data.toList.drop i) = some 2 := by rw [ht]; simp [Csv.ends]
      rw [he]
      exact (end_two s i r w hs hi h0 h1 hf p1 p2).mono fun e w' ⟨h1, n, h2⟩ => by rw [h2]; exact ⟨fr 2 n, h1, put 2 n⟩
    | false =>
      have h2 : ¬ ∃ t, s.data.toList.drop i = 13 :: 10 :: t := by
        rw [← hasPrefix_two, ← Lib.extract_to_end, p2]; simp
      cases hd : s.data.toList.drop i with
      | nil =>
        have hi2 : i = s.size := by rw [hd] at hlen; simp at hlen; omega
        refine (end_none s i r w hs hi h0 h1 hf p1 p2 true (by simpa using hi2)).mono fun e w' ⟨h1, n, h2⟩ => ?_
        rw [h2]
        exact ⟨only_drewN (only_refl _ _) _, h1, hb⟩
      | cons a t =>
        have hi2 : ¬ i = s.size := by rw [hd] at hlen; simp at hlen; omega
        have he : Csv.ends (a :: t) = none := by
          rw [hd] at hh h2
          have ha : ¬ a = 10 := by simpa using hh
          simp only [Csv.ends, ha, if_false]
          rw [if_neg]
          rintro ⟨rfl, ht⟩
          cases t with
          | nil => simp at ht
          | cons b t => simp at ht; subst ht; exact h2 ⟨t, rfl⟩
        rw [he]
        refine (end_none s i r w hs hi h0 h1 hf p1 p2 false (by simpa using hi2)).mono fun e w' ⟨h1, n, h2⟩ => ?_
        rw [h2]
        exact ⟨only_drewN (only_refl _ _) _, h1, hb⟩
end Go.Proofs.YtjndiielolphgaaDoor
