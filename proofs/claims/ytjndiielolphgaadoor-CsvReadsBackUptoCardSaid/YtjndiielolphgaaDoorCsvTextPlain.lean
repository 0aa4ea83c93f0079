/- Plain laws: what the text of a cell is for a field, piece by piece. No conditions; no function of the program. -/
import Derived.Test.YtjndiielolphgaaDoorCsvPlain
import Derived.Test.YtjndiielolphgaaDoorKit
import Derived.Test.YtjndiielolphgaaDoorIndexAny
import Derived.Test.YtjndiielolphgaaDoorChar
import Derived.Test.YtjndiielolphgaaDoorCsvQuoted
import Derived.Lib.DecodeN
import Derived.Shelf.Unicode.DecodeSlow
namespace Go.Proofs.YtjndiielolphgaaDoor
open Go.RowKit

def piece (f : ByteArray) (i n : Nat) : Csv.Bytes := (f.data.toList.drop i).take n
def isCrlf (f : ByteArray) (i : Nat) : Prop := ∃ t, f.data.toList.drop i = 13 :: 10 :: t
def isBad (d : Nat × Nat) : Prop := (d.1 = 65533 ∧ d.2 = 1) ∨ charOk d.1 = false

open Classical in
/-- one step: how far it goes, what is written, whether a character was replaced, whether an end of a line was -/
noncomputable def tstep (f : ByteArray) (i : Nat) : Nat × Csv.Bytes × Bool × Bool :=
  let d := Utf8.decode f i
  if isCrlf f i then (2, [32], false, true)
  else if d.1 = 10 ∨ d.1 = 13 then (d.2, [32], false, true)
  else if isBad d then (d.2, [63], true, false)
  else (d.2, piece f i d.2, false, false)

noncomputable def textF (f : ByteArray) : Nat → Nat → Csv.Bytes → Bool → Bool → Csv.Bytes × Bool × Bool
  | 0, _, out, ch, ln => (out, ch, ln)
  | k + 1, i, out, ch, ln => if i < f.size then textF f k (i + (tstep f i).1) (out ++ (tstep f i).2.1) (ch || (tstep f i).2.2.1) (ln || (tstep f i).2.2.2) else (out, ch, ln)

def TextIs (f : ByteArray) (R : Csv.Bytes × Bool × Bool) (i : Nat) (out : Csv.Bytes) (ch ln : Bool) : Prop := ∃ k, f.size < i + k ∧ textF f k i out ch ln = R

theorem decode_span' (f : ByteArray) (i : Nat) (hi : i < f.size) : 1 ≤ (Utf8.decode f i).2 ∧ i + (Utf8.decode f i).2 ≤ f.size := by
  by_cases h : (f[i]'hi).toNat < 128
  · have : Utf8.decode f i = ((f[i]'hi).toNat, 1) := by rw [Lib.decode_at, Lib.decodeN, get_pos f i hi, if_pos h]
    rw [this]; exact ⟨by simp, by simp; omega⟩
  · obtain ⟨a, b, _⟩ := decode_span f i hi (by omega)
    exact ⟨a, b⟩

theorem crlf_size {f : ByteArray} {i : Nat} (h : isCrlf f i) : i + 2 ≤ f.size := by
  obtain ⟨t, ht⟩ := h
  have := congrArg List.length ht
  have hs : f.data.size = f.size := rfl
  simp at this; omega

theorem tstep_span (f : ByteArray) (i : Nat) (hi : i < f.size) : 1 ≤ (tstep f i).1 ∧ i + (tstep f i).1 ≤ f.size := by
  have := decode_span' f i hi
  unfold tstep
  simp only
  split
  · rename_i h; have := crlf_size h; exact ⟨by omega, by omega⟩
  · split
    · exact this
    · split <;> exact this

section
variable {f : ByteArray} {R : Csv.Bytes × Bool × Bool} {i : Nat} {out : Csv.Bytes} {ch ln : Bool}
theorem TextIs.step (h : TextIs f R i out ch ln) (hi : i < f.size) : TextIs f R (i + (tstep f i).1) (out ++ (tstep f i).2.1) (ch || (tstep f i).2.2.1) (ln || (tstep f i).2.2.2) := by
  obtain ⟨k, h1, h2⟩ := h
  obtain ⟨k, rfl⟩ : ∃ n, k = n + 1 := ⟨k - 1, by omega⟩
  rw [textF, if_pos hi] at h2
  have := (tstep_span f i hi).1
  exact ⟨k, by omega, h2⟩
theorem TextIs.done (h : TextIs f R i out ch ln) (hi : f.size ≤ i) : R = (out, ch, ln) := by
  obtain ⟨k, h1, h2⟩ := h
  rw [← h2]
  cases k with
  | zero => rfl
  | succ k => rw [textF, if_neg (by omega)]
theorem TextIs.crlf (h : TextIs f R i out ch ln) (hi : i < f.size) (hc : isCrlf f i) : TextIs f R (i + 2) (out ++ [32]) ch true := by
  have e : tstep f i = (2, [32], false, true) := by unfold tstep; simp only; rw [if_pos hc]
  have := h.step hi
  rw [e] at this; simpa using this
theorem TextIs.line (h : TextIs f R i out ch ln) (hi : i < f.size) (hc : ¬ isCrlf f i) (hd : (Utf8.decode f i).1 = 10 ∨ (Utf8.decode f i).1 = 13) : TextIs f R (i + (Utf8.decode f i).2) (out ++ [32]) ch true := by
  have e : tstep f i = ((Utf8.decode f i).2, [32], false, true) := by unfold tstep; simp only; rw [if_neg hc, if_pos hd]
  have := h.step hi
  rw [e] at this; simpa using this
theorem TextIs.bad (h : TextIs f R i out ch ln) (hi : i < f.size) (hc : ¬ isCrlf f i) (hd : ¬ ((Utf8.decode f i).1 = 10 ∨ (Utf8.decode f i).1 = 13)) (hb : isBad (Utf8.decode f i)) : TextIs f R (i + (Utf8.decode f i).2) (out ++ [63]) true ln := by
  have e : tstep f i = ((Utf8.decode f i).2, [63], true, false) := by unfold tstep; simp only; rw [if_neg hc, if_neg hd, if_pos hb]
  have := h.step hi
  rw [e] at this; simpa using this
theorem TextIs.copy (h : TextIs f R i out ch ln) (hi : i < f.size) (hc : ¬ isCrlf f i) (hd : ¬ ((Utf8.decode f i).1 = 10 ∨ (Utf8.decode f i).1 = 13)) (hb : ¬ isBad (Utf8.decode f i)) : TextIs f R (i + (Utf8.decode f i).2) (out ++ piece f i (Utf8.decode f i).2) ch ln := by
  have e : tstep f i = ((Utf8.decode f i).2, piece f i (Utf8.decode f i).2, false, false) := by unfold tstep; simp only; rw [if_neg hc, if_neg hd, if_neg hb]
  have := h.step hi
  rw [e] at this; simpa using this
end

/-- a text that begins with = or ' gets an apostrophe -/
def guardB (out : Csv.Bytes) : Csv.Bytes := if out.head? = some 61 ∨ out.head? = some 39 then 39 :: out else out
noncomputable def textR (f : ByteArray) : Csv.Bytes × Bool × Bool := (guardB (textF f (f.size + 1) 0 [] false false).1, (textF f (f.size + 1) 0 [] false false).2)

/-- the decoder at a rest of the text -/
theorem get_extract (f : ByteArray) (i k : Nat) : (f.extract i f.size).get! k = f.get! (i + k) := by
  by_cases h : i + k < f.size
  · have h2 : k < (f.extract i f.size).size := by rw [ByteArray.size_extract]; omega
    rw [get_pos _ _ h2, get_pos _ _ h]
    have e1 := Lib.data_getElem? (f.extract i f.size) k h2
    have e2 := Lib.data_getElem? f (i + k) h
    rw [Lib.extract_to_end, List.getElem?_drop, e2] at e1
    exact (Option.some.inj e1).symm
  · have h2 : ¬ k < (f.extract i f.size).size := by rw [ByteArray.size_extract]; omega
    have z : ∀ (a : ByteArray) (j : Nat), ¬ j < a.size → a.get! j = 0 := by
      intro a j hj
      have hj' : a.data.size ≤ j := by have : a.data.size = a.size := rfl; omega
      simp only [ByteArray.get!, getElem!_def]
      rw [Array.getElem?_eq_none hj']
      rfl
    rw [z _ _ h2, z _ _ h]

theorem decode_extract (f : ByteArray) (i : Nat) : Utf8.decode (f.extract i f.size) 0 = Utf8.decode f i := by
  rw [Lib.decode_at, Lib.decode_at f i]
  simp only [get_extract, Nat.zero_add, Nat.add_zero, Nat.sub_zero]
  rw [ByteArray.size_extract, Nat.min_self]

theorem decodeGo_extract (f : ByteArray) (i : Nat) (hi : i < f.size) : Lib.decodeGo (f.extract i f.size) = Utf8.decode f i := by
  unfold Lib.decodeGo
  rw [if_neg (by rw [ByteArray.size_extract]; omega)]
  exact decode_extract f i

theorem charOk_fffd : charOk 65533 = true := by decide
theorem charOk_10 : charOk 10 = true := by decide
end Go.Proofs.YtjndiielolphgaaDoor
