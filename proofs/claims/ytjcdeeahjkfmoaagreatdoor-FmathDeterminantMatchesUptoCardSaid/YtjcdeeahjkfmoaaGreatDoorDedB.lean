/- Contracts of the program's functions, joined from smaller texts. Conditions stand at each theorem. -/
import Derived.Test.YtjcdeeahjkfmoaaGreatDoorDedA
import Derived.Shelf.Unicode.DecodeSlow
set_option linter.unusedVariables false
set_option linter.unusedSimpArgs false
set_option maxRecDepth 100000
set_option maxHeartbeats 4000000
namespace Go.Proofs.YtjcdeeahjkfmoaaGreatDoor
namespace Num
open Go.RowKit Go.Lib
theorem get_pos (s : ByteArray) (k : Nat) (h : k < s.size) : s.get! k = s[k]'h := by
 simp [ByteArray.get!, getElem!_pos, h]
 rfl
theorem decode_span (s : ByteArray) (pos : Nat) (h : pos < s.size) (ha : 128 ≤ (s[pos]'h).toNat) :
  1 ≤ (Utf8.decode s pos).2 ∧ pos + (Utf8.decode s pos).2 ≤ s.size ∧ ∀ j (hj : j < s.size), pos ≤ j → j < pos + (Utf8.decode s pos).2 → 128 ≤ (s[j]'hj).toNat := by
 have hn : ¬ (s[pos]'h).toNat < 128 := by omega
 have one : 1 ≤ 1 ∧ pos + 1 ≤ s.size ∧ ∀ j (hj : j < s.size), pos ≤ j → j < pos + 1 → 128 ≤ (s[j]'hj).toNat :=
  ⟨by omega, by omega, fun j hj h1 h2 => by
   obtain rfl : j = pos := by omega
   exact ha⟩
 have byte : ∀ k, pos + k < s.size ∧ (s.get! (pos + k)).toNat / 64 = 2 → ∃ hk : pos + k < s.size, 128 ≤ (s[pos + k]'hk).toNat := by
  rintro k ⟨h1, h2⟩
  rw [get_pos s _ h1] at h2
  exact ⟨h1, by omega⟩
 simp only [Utf8.decode, get_at s pos h, hn, if_false]
 split
 ·rename_i hb
  simp only [Bool.and_eq_true, decide_eq_true_eq, beq_iff_eq] at hb
  obtain ⟨k1, b1⟩ := byte 1 hb.2
  split
  ·refine ⟨by omega, by show pos + 2 ≤ s.size; omega, fun j hj h1 h2 => ?_⟩
   have h2 : j < pos + 2 := h2
   rcases (show j = pos ∨ j = pos + 1 by omega) with rfl | rfl
   ·exact ha
   ·exact b1
  ·exact one
 ·split
  ·rename_i hb
   simp only [Bool.and_eq_true, decide_eq_true_eq, beq_iff_eq] at hb
   obtain ⟨k1, b1⟩ := byte 1 hb.1.2
   obtain ⟨k2, b2⟩ := byte 2 hb.2
   split
   ·refine ⟨by omega, by show pos + 3 ≤ s.size; omega, fun j hj h1 h2 => ?_⟩
    have h2 : j < pos + 3 := h2
    rcases (show j = pos ∨ j = pos + 1 ∨ j = pos + 2 by omega) with rfl | rfl | rfl
    ·exact ha
    ·exact b1
    ·exact b2
   ·exact one
  ·split
   ·rename_i hb
    simp only [Bool.and_eq_true, decide_eq_true_eq, beq_iff_eq] at hb
    obtain ⟨k1, b1⟩ := byte 1 hb.1.1.2
    obtain ⟨k2, b2⟩ := byte 2 hb.1.2
    obtain ⟨k3, b3⟩ := byte 3 hb.2
    split
    ·refine ⟨by omega, by show pos + 4 ≤ s.size; omega, fun j hj h1 h2 => ?_⟩
     have h2 : j < pos + 4 := h2
     rcases (show j = pos ∨ j = pos + 1 ∨ j = pos + 2 ∨ j = pos + 3 by omega) with rfl | rfl | rfl | rfl
     ·exact ha
     ·exact b1
     ·exact b2
     ·exact b3
    ·exact one
   ·exact one
theorem tdrop_cons (s : ByteArray) (p : Nat) (hp : p < s.size) : s.data.toList.drop p = (s[p]'hp) :: s.data.toList.drop (p + 1) := by
 have h : p < s.data.toList.length := by rw [Array.length_toList]; exact hp
 rw [List.drop_eq_getElem_cons h]; rfl
theorem tdecode_span (f : ByteArray) (i : Nat) (hi : i < f.size) : 1 ≤ (Utf8.decode f i).2 ∧ i + (Utf8.decode f i).2 ≤ f.size := by
 by_cases h : (f[i]'hi).toNat < 128
 ·have : Utf8.decode f i = ((f[i]'hi).toNat, 1) := by rw [Lib.decode_at, Lib.decodeN, get_pos f i hi, if_pos h]
  rw [this]; exact ⟨by simp, by simp; omega⟩
 ·obtain ⟨a, b, _⟩ := decode_span f i hi (by omega)
  exact ⟨a, b⟩
theorem tget_extract (f : ByteArray) (i k : Nat) : (f.extract i f.size).get! k = f.get! (i + k) := by
 by_cases h : i + k < f.size
 ·have h2 : k < (f.extract i f.size).size := by rw [ByteArray.size_extract]; omega
  rw [get_pos _ _ h2, get_pos _ _ h]
  have e1 := Lib.data_getElem? (f.extract i f.size) k h2
  have e2 := Lib.data_getElem? f (i + k) h
  rw [Lib.extract_to_end, List.getElem?_drop, e2] at e1
  exact (Option.some.inj e1).symm
 ·have h2 : ¬ k < (f.extract i f.size).size := by rw [ByteArray.size_extract]; omega
  have z : ∀ (a : ByteArray) (j : Nat), ¬ j < a.size → a.get! j = 0 := by
   intro a j hj
   have hj' : a.data.size ≤ j := by have : a.data.size = a.size := rfl; omega
   simp only [ByteArray.get!, getElem!_def]
   rw [Array.getElem?_eq_none hj']
   rfl
  rw [z _ _ h2, z _ _ h]
theorem tdecode_extract (f : ByteArray) (i : Nat) : Utf8.decode (f.extract i f.size) 0 = Utf8.decode f i := by
 rw [Lib.decode_at, Lib.decode_at f i]
 simp only [tget_extract, Nat.zero_add, Nat.add_zero, Nat.sub_zero]
 rw [ByteArray.size_extract, Nat.min_self]
theorem tdecodeGo_extract (f : ByteArray) (i : Nat) (hi : i < f.size) : Lib.decodeGo (f.extract i f.size) = Utf8.decode f i := by
 unfold Lib.decodeGo
 rw [if_neg (by rw [ByteArray.size_extract]; omega)]
 exact tdecode_extract f i
theorem textract_more (f : ByteArray) (i n : Nat) (_h : i + n ≤ f.size) : (f.extract i f.size).extract n (f.extract i f.size).size = f.extract (i + n) f.size := by
 apply ByteArray.ext
 apply Array.ext'
 rw [Lib.extract_to_end, Lib.extract_to_end, Lib.extract_to_end, List.drop_drop]
theorem textract_more' (f : ByteArray) (i n : Nat) (h : i + n ≤ f.size) : (f.extract i f.size).extract n (f.size - i) = f.extract (i + n) f.size := by
 rw [← textract_more f i n h, ByteArray.size_extract, Nat.min_self]
theorem rune_rest (f : ByteArray) (i : Nat) (hi : i < f.size) (hs : f.size ≤ 4000000000) (w : World) :
  Calls Tryz.prog 123 #[.string (f.extract i f.size)] w fun e w' => e = .returned (.tuple #[.int .i64 (runeN (Utf8.decode f i)).1, .int .i64 (runeN (Utf8.decode f i)).2]) ∧ w' = w := by
 have := rune_any (f.extract i f.size) w (by rw [ByteArray.size_extract]; omega) (by rw [ByteArray.size_extract]; omega)
 rw [tdecode_extract] at this
 exact this
abbrev Tabs8 (w : World) : Prop := Lib.Utf8Tabs 7 8 w
theorem decode_rest (f : ByteArray) (i : Nat) (hi : i < f.size) (w : World) (hT : Tabs8 w) :
  Calls Tryz.prog 311 #[.string (f.extract i f.size)] w fun e w' => e = .returned (.tuple #[.int .i32 (Utf8.decode f i).1, .int .i64 (Utf8.decode f i).2]) ∧ Below w.heap.size w w' := by
 have := Tryz.utf8_DecodeRuneInString (f.extract i f.size) w hT
 rw [tdecodeGo_extract f i hi] at this
 exact this
theorem tabs8_below {w w' : World} {B : Nat} (h : Tabs8 w) (hb : Below B w w') (hB : 7 < B ∧ 8 < B) : Tabs8 w' := by
 refine ⟨fun c hc => ?_, fun i hi => ⟨?_, ?_⟩⟩
 ·rw [hb.cell (p := ⟨7, c, none⟩) hB.1]; exact h.1 c hc
 ·rw [hb.cell (p := ⟨8, 2 * i, none⟩) hB.2]; exact (h.2 i hi).1
 ·rw [hb.cell (p := ⟨8, 2 * i + 1, none⟩) hB.2]; exact (h.2 i hi).2
inductive GoodT (f : ByteArray) : Nat → Prop
 | done {i : Nat} (h : f.size ≤ i) : GoodT f i
 | step {i : Nat} (h : i < f.size) (hb : ¬ ((Utf8.decode f i).1 = 65533 ∧ (Utf8.decode f i).2 = 1)) (hc : charOk (Utf8.decode f i).1 = true) (hg : GoodT f (i + (Utf8.decode f i).2)) : GoodT f i
def TextGood (f : ByteArray) : Prop := f.size ≤ 32767 ∧ GoodT f 0
theorem GoodT.at {f : ByteArray} {i : Nat} (h : GoodT f i) (hi : i < f.size) : ¬ ((Utf8.decode f i).1 = 65533 ∧ (Utf8.decode f i).2 = 1) ∧ charOk (Utf8.decode f i).1 = true ∧ GoodT f (i + (Utf8.decode f i).2) := by
 cases h with
 | done h => omega
 | step _ hb hc hg => exact ⟨hb, hc, hg⟩
def TErrRet (w : World) (s : ByteArray) : Ending → World → Prop := fun e w' => ∃ c : Int, e = .returned (.int .i64 c) ∧ w' = w ∧ (c = 0 → TextGood s)
theorem TErrRet.no {w : World} {s : ByteArray} {c : Int} (hc : c ≠ 0) : TErrRet w s (.returned (.int .i64 c)) w := ⟨c, rfl, rfl, fun h => absurd h hc⟩
theorem rtextErr_any (s : ByteArray) (w : World) (hs : s.size ≤ 1000000000) : Calls Tryz.prog 48 #[.string s] w (TErrRet w s) := by
 have hx0 : s.extract 0 s.size = s := ByteArray.extract_zero_size
 go_enter Tryz.func48, Tryz.ntmps48
 by_cases hl : 32767 < s.size
 ·have q1 : decide ((32767 : Int) < (s.size : Int)) = true := decide_eq_true (by omega)
  have q1n : decide (32767 < s.size) = true := decide_eq_true hl
  go_wp2
  go_ret
  exact TErrRet.no (by decide)
 ·have q1 : decide ((32767 : Int) < (s.size : Int)) = false := decide_eq_false (by omega)
  have q1n : decide (32767 < s.size) = false := decide_eq_false hl
  have HLE := hid (show s.size ≤ 32767 by omega)
  clear hl
  go_wp2
  go_loopg [0, 3, 4] s.size (fun g v0 v3 v4 wx => ∃ (i : Nat), s.size ≤ i + g ∧ i ≤ s.size ∧ v0 = .string (s.extract i s.size) ∧ (GoodT s i → GoodT s 0) ∧ wx = w)
  case atStart => exact ⟨0, by omega, by omega, by rw [hx0], id, rfl⟩
  case round =>
   obtain ⟨i, hg, hi, rfl, hgood, hw⟩ := hrel
   have hw2 := hw.symm
   subst hw2
   have HG := hid hgood
   clear hgood hx0 hw q1 q1n
   have hsz : (s.extract i s.size).size = s.size - i := by rw [ByteArray.size_extract, Nat.min_self]
   by_cases hlt : i < s.size
   ·have hne : (s.extract i s.size).toList.isEmpty = false := by
     rw [Lib.toList_data, Lib.extract_to_end, tdrop_cons s i hlt]; rfl
    obtain ⟨hn1, hn2⟩ := tdecode_span s i hlt
    have T1 := hid (rune_rest s i hlt (by omega) w)
    have HG2 : Hid (¬ ((Utf8.decode s i).1 = 65533 ∧ (Utf8.decode s i).2 = 1) → charOk (Utf8.decode s i).1 = true → GoodT s (i + (Utf8.decode s i).2) → GoodT s 0) := fun a b c => HG.out (GoodT.step hlt a b c)
    obtain ⟨d, hd⟩ : ∃ d, Utf8.decode s i = d := ⟨_, rfl⟩
    rw [hd] at hn1 hn2 T1 HG2
    obtain ⟨r, n⟩ := d
    have hn1 : 1 ≤ n := hn1
    have hn2 : i + n ≤ s.size := hn2
    clear hd
    have HSZ := hid hsz; clear hsz
    by_cases hb : r = 65533 ∧ n = 1
    ·have hr : runeN (r, n) = (0, 0) := if_pos hb
     rw [hr] at T1
     clear hr hb
     go_wp2_with fail
     refine T1.out.mono ?_
     rintro e wr ⟨rfl, hwr⟩
     have hwr2 := hwr.symm
     subst hwr2
     clear hwr
     go_wp2
     go_ret
     exact TErrRet.no (by decide)
    ·have hr : runeN (r, n) = (r, n) := if_neg hb
     rw [hr] at T1
     have T2 := hid (charR_any r)
     have hnz : ((n : Int) == 0) = false := by rw [beq_eq_false_iff_ne]; omega
     have hnz2 : (n == 0) = false := by rw [beq_eq_false_iff_ne]; omega
     have hslb : n ≤ (s.extract i s.size).size := by rw [HSZ.out]; omega
     have HBB := hid hb
     clear hr hb
     by_cases hc : charOk r = true
     ·rw [hc] at T2
      have HCC := hid hc
      clear hc
      go_wp2_with fail
      refine T1.out.mono ?_
      rintro e wr ⟨rfl, hwr⟩
      have hwr2 := hwr.symm
      subst hwr2
      clear hwr
      go_wp2_with fail
      refine (T2.out _).mono ?_
      rintro e wr ⟨rfl, hwr⟩
      have hwr2 := hwr.symm
      subst hwr2
      clear hwr
      have hmore := textract_more s i n hn2
      have hmore2 := textract_more' s i n hn2
      go_wp2
      go_roundg (gk - 1)
      case measure => omega
      case rel => exact ⟨i + n, by omega, hn2, by first | rfl | (rw [hmore]) | (rw [hmore2]), fun h => HG2.out HBB.out HCC.out h, rfl⟩
     ·rw [Bool.not_eq_true] at hc
      rw [hc] at T2
      clear hc
      go_wp2_with fail
      refine T1.out.mono ?_
      rintro e wr ⟨rfl, hwr⟩
      have hwr2 := hwr.symm
      subst hwr2
      clear hwr
      go_wp2_with fail
      refine (T2.out _).mono ?_
      rintro e wr ⟨rfl, hwr⟩
      have hwr2 := hwr.symm
      subst hwr2
      clear hwr
      go_wp2
      go_ret
      exact TErrRet.no (by decide)
   ·have hi2 : i = s.size := by omega
    have hz : s.extract i s.size = ⟨#[]⟩ := by
     apply ByteArray.ext
     apply Array.ext'
     rw [Lib.extract_to_end, hi2, List.drop_of_length_le (by rw [Array.length_toList]; exact Nat.le_refl _)]
    rw [hz]
    clear hsz hz hi hg
    go_wp2
    go_ret
    exact ⟨0, rfl, rfl, fun _ => ⟨HLE.out, HG.out (GoodT.done (by omega))⟩⟩
theorem text_good (s : ByteArray) (w : World) (hs : TextGood s) (hT : Tabs8 w) (hB : 7 < w.heap.size ∧ 8 < w.heap.size) :
  Calls Tryz.prog 260 #[.string s] w fun e w' => e = .returned (.int .i64 0) ∧ Below w.heap.size w w' := by
 obtain ⟨hl, hgd⟩ := hs
 have HG0 := hid hgd
 have HT := hid hT
 have HB := hid hB
 clear hgd hT hB
 have hx0 : s.extract 0 s.size = s := ByteArray.extract_zero_size
 have q1 : decide ((32767 : Int) < (s.size : Int)) = false := decide_eq_false (by omega)
 have q1n : decide (32767 < s.size) = false := decide_eq_false (by omega)
 go_enter Tryz.func260, Tryz.ntmps260
 go_wp2
 go_loopg [0, 3, 4] s.size (fun g v0 v3 v4 wx => ∃ (i : Nat), s.size ≤ i + g ∧ i ≤ s.size ∧ v0 = .string (s.extract i s.size) ∧ GoodT s i ∧ Below w.heap.size w wx)
 case atStart => exact ⟨0, by omega, by omega, by rw [hx0], HG0.out, Below.refl _ _⟩
 case round =>
  obtain ⟨i, hg, hi, rfl, hgood, hbw⟩ := hrel
  have HG := hid hgood
  have HL := hid hbw
  clear hgood hbw hx0 q1 q1n
  have hsz : (s.extract i s.size).size = s.size - i := by rw [ByteArray.size_extract, Nat.min_self]
  by_cases hlt : i < s.size
  ·have hne : (s.extract i s.size).toList.isEmpty = false := by
    rw [Lib.toList_data, Lib.extract_to_end, tdrop_cons s i hlt]; rfl
   obtain ⟨hn1, hn2⟩ := tdecode_span s i hlt
   obtain ⟨hb, hc, hg2⟩ := HG.out.at hlt
   have hdl := decode_le s i
   have T1 := hid (decode_rest s i hlt wr (tabs8_below HT.out HL.out HB.out))
   have T2 := hid (charF_any (Utf8.decode s i).1)
   rw [hc] at T2
   obtain ⟨d, hd⟩ : ∃ d, Utf8.decode s i = d := ⟨_, rfl⟩
   rw [hd] at hn1 hn2 T1 T2 hb hg2 hdl
   obtain ⟨r, n⟩ := d
   have hn1 : 1 ≤ n := hn1
   have hn2 : i + n ≤ s.size := hn2
   have hr2 : (r : Int) ≤ 2147483647 := by have : r ≤ 2147483647 := hdl; omega
   have HG2 := hid (show GoodT s (i + n) from hg2)
   have HSZ := hid hsz
   have hslb : n ≤ (s.extract i s.size).size := by rw [HSZ.out]; omega
   clear hd hsz hg2 hc hdl
   have hmore := textract_more s i n hn2
   have hmore2 := textract_more' s i n hn2
   by_cases h1 : r = 65533
   ·subst h1
    have hn0 : ¬ n = 1 := fun e => hb ⟨rfl, e⟩
    have hnz : ((n : Int) == 1) = false := by rw [beq_eq_false_iff_ne]; omega
    have hnz2 : (n == 1) = false := by rw [beq_eq_false_iff_ne]; exact hn0
    clear hb
    go_wp2_with fail
    refine T1.out.mono ?_
    rintro e w1 ⟨rfl, hb1⟩
    have HL1 := hid (HL.out.trans (hb1.mono HL.out.size))
    clear hb1
    go_wp2_with fail
    refine (T2.out _).mono ?_
    rintro e wr ⟨rfl, hwr⟩
    have hwr2 := hwr.symm
    subst hwr2
    clear hwr
    go_wp2
    go_roundg (gk - 1)
    case measure => omega
    case rel => exact ⟨i + n, by omega, hn2, by first | rfl | (rw [hmore]) | (rw [hmore2]), HG2.out, HL1.out⟩
   ·have hr0 : ((r : Int) == 65533) = false := by rw [beq_eq_false_iff_ne]; omega
    have hr0n : (r == 65533) = false := by rw [beq_eq_false_iff_ne]; exact h1
    clear hb
    go_wp2_with fail
    refine T1.out.mono ?_
    rintro e w1 ⟨rfl, hb1⟩
    have HL1 := hid (HL.out.trans (hb1.mono HL.out.size))
    clear hb1
    go_wp2_with fail
    refine (T2.out _).mono ?_
    rintro e wr ⟨rfl, hwr⟩
    have hwr2 := hwr.symm
    subst hwr2
    clear hwr
    go_wp2
    go_roundg (gk - 1)
    case measure => omega
    case rel => exact ⟨i + n, by omega, hn2, by first | rfl | (rw [hmore]) | (rw [hmore2]), HG2.out, HL1.out⟩
  ·have hi2 : i = s.size := by omega
   have hz : s.extract i s.size = ⟨#[]⟩ := by
    apply ByteArray.ext
    apply Array.ext'
    rw [Lib.extract_to_end, hi2, List.drop_of_length_le (by rw [Array.length_toList]; exact Nat.le_refl _)]
   rw [hz]
   clear hsz hz hi hg
   go_wp2
   go_ret
   exact ⟨rfl, HL.out⟩
end Num
namespace Num
open Go.RowKit Go.Lib
structure EnvR (w : World) : Prop where
 env : Env w
 rtexts : ∀ i, i < 9 → w.cell? ⟨0, i, none⟩ = faultTexts[i]?
 tabs : Tabs8 w
 room : 0 < w.heap.size ∧ 7 < w.heap.size ∧ 8 < w.heap.size
theorem EnvR.below {w w' : World} (h : EnvR w) (hb : Below w.heap.size w w') : EnvR w' :=
 ⟨h.env.below hb, fun i hi => (hb.cell (p := ⟨0, i, none⟩) h.room.1).trans (h.rtexts i hi), tabs8_below h.tabs hb h.room.2, Nat.lt_of_lt_of_le h.room.1 hb.size, Nat.lt_of_lt_of_le h.room.2.1 hb.size, Nat.lt_of_lt_of_le h.room.2.2 hb.size⟩
theorem rfaultText_in (i : Nat) (w : World) (hE : EnvR w) (h1 : 1 ≤ i) (h8 : i ≤ 8) : Calls Tryz.prog 49 #[.int .i64 (i : Int)] w fun e w' => (∃ s : ByteArray, e = .returned (.string s)) ∧ w' = w := by
 have hc := hE.rtexts i (by omega)
 have hts : ∃ t : ByteArray, faultTexts[i]? = some (.string t) := by
  rcases (show i = 1 ∨ i = 2 ∨ i = 3 ∨ i = 4 ∨ i = 5 ∨ i = 6 ∨ i = 7 ∨ i = 8 by omega) with h | h | h | h | h | h | h | h <;> subst h <;> exact ⟨_, rfl⟩
 obtain ⟨t, ht⟩ := hts
 rw [ht] at hc
 have q1 : decide ((i : Int) < 1) = false := decide_eq_false (by omega)
 have q8 : decide (8 < (i : Int)) = false := decide_eq_false (by omega)
 have q1n : decide (i < 1) = false := decide_eq_false (by omega)
 have q8n : decide (8 < i) = false := decide_eq_false (by omega)
 have hi0 : (0 : Int) ≤ (i : Int) := by omega
 have hi9 : (i : Int) < 9 := by omega
 have hi9n : i < 9 := by omega
 clear ht hE
 go_enter Tryz.func49, Tryz.ntmps49
 go_wp2
 go_ret
 exact ⟨⟨t, rfl⟩, rfl⟩
theorem rfaultText_out (i : Int) (w : World) (h : ¬ (1 ≤ i ∧ i ≤ 8)) : Calls Tryz.prog 49 #[.int .i64 i] w fun e w' => e = .returned (.string ⟨#[]⟩) ∧ w' = w := by
 by_cases h1 : i < 1
 ·have q1 : decide (i < 1) = true := decide_eq_true h1
  clear h
  go_enter Tryz.func49, Tryz.ntmps49
  go_wp2
  go_ret
  exact ⟨rfl, rfl⟩
 ·have q1 : decide (i < 1) = false := decide_eq_false h1
  have q8 : decide (8 < i) = true := decide_eq_true (by omega)
  clear h
  go_enter Tryz.func49, Tryz.ntmps49
  go_wp2
  go_ret
  exact ⟨rfl, rfl⟩
end Num
end Go.Proofs.YtjcdeeahjkfmoaaGreatDoor
