/- The walk of csv.text: the text of a cell for a field. Conditions: utf8's tables lie as they are laid; the field has at most 4000000000 bytes. -/
import Derived.Test.YtjndiielolphgaaDoorCsvTextPlain
import Derived.Test.YtjndiielolphgaaDoorShelfS
import Derived.Test.YtjndiielolphgaaDoorCsvFieldAll
namespace Go.Proofs.YtjndiielolphgaaDoor
open Go.RowKit

theorem tabs_below {B : Nat} {w w' : World} (h : Lib.Utf8Tabs 0 1 w) (hb : Below B w w') (hB : 2 ≤ B) : Lib.Utf8Tabs 0 1 w' := by
  refine ⟨fun c hc => ?_, fun i hi => ⟨?_, ?_⟩⟩
  · rw [hb.cell (p := ⟨0, c, none⟩) (by show 0 < B; omega)]; exact h.1 c hc
  · rw [hb.cell (p := ⟨1, 2 * i, none⟩) (by show 1 < B; omega)]; exact (h.2 i hi).1
  · rw [hb.cell (p := ⟨1, 2 * i + 1, none⟩) (by show 1 < B; omega)]; exact (h.2 i hi).2

theorem hasPrefix_of (s p : ByteArray) (w : World) (b : Bool) (h : Lib.hasPrefix s.data.toList p.data.toList = b) :
    Calls Tryd.prog 38 #[.string s, .string p] w fun e w' => e = .returned (.bool b) ∧ w' = w := by
  subst h; exact Tryd.strings_HasPrefix s p w

theorem decode_at_rest (f : ByteArray) (i : Nat) (hi : i < f.size) (w : World) (hT : Lib.Utf8Tabs 0 1 w) :
    Calls Tryd.prog 37 #[.string (f.extract i f.size)] w fun e w' => e = .returned (.tuple #[.int .i32 (Utf8.decode f i).1, .int .i64 (Utf8.decode f i).2]) ∧ Below w.heap.size w w' := by
  have := Tryd.utf8_DecodeRuneInString (f.extract i f.size) w hT
  rw [decodeGo_extract f i hi] at this
  exact this

theorem extract_more (f : ByteArray) (i n : Nat) (_h : i + n ≤ f.size) : (f.extract i f.size).extract n (f.extract i f.size).size = f.extract (i + n) f.size := by
  apply ByteArray.ext
  apply Array.ext'
  rw [Lib.extract_to_end, Lib.extract_to_end, Lib.extract_to_end, List.drop_drop]
theorem extract_more' (f : ByteArray) (i n : Nat) (h : i + n ≤ f.size) : (f.extract i f.size).extract n (f.size - i) = f.extract (i + n) f.size := by
  rw [← extract_more f i n h, ByteArray.size_extract, Nat.min_self]
theorem extract_piece (f : ByteArray) (i n : Nat) : ((f.extract i f.size).extract 0 n).data.toList = piece f i n := by
  rw [Lib.extract_data, Lib.extract_to_end]; simp [piece]

theorem cons_bytes (out : Csv.Bytes) : (⟨#[39]⟩ : ByteArray) ++ ⟨out.toArray⟩ = ⟨(39 :: out).toArray⟩ := by
  apply ByteArray.ext
  apply Array.ext'
  rw [ByteArray.data_append, Array.toList_append]
  simp

theorem ret_text {a b : ByteArray} {x y : Bool} (h : a = b) : Ending.returned (.tuple #[.string a, .bool x, .bool y]) = .returned (.tuple #[.string b, .bool x, .bool y]) := by rw [h]

structure XInv (f : ByteArray) (K : Nat) (w : World) (i : Nat) (out : Csv.Bytes) (wx : World) : Prop where
  below : Below K w wx
  bld : Lib.IsBuilderF 66 5 K K (Lib.byteCells out) wx
  len : out.length ≤ i
  size : K < wx.heap.size
  tabs : Lib.Utf8Tabs 0 1 wx
  base : 2 ≤ K

theorem XInv.wrote {f : ByteArray} {K : Nat} {w wx w1 : World} {i j : Nat} {out b : Csv.Bytes} (h : XInv f K w i out wx) (hb : Lib.IsBuilderF 66 5 K K (Lib.byteCells out ++ Lib.byteCells b) w1) (hbel : Below K wx w1) (hij : out.length + b.length ≤ j) : XInv f K w j (out ++ b) w1 := by
  have e : Lib.byteCells (out ++ b) = Lib.byteCells out ++ Lib.byteCells b := by simp [Lib.byteCells]
  exact ⟨h.below.trans hbel, by rw [e]; exact hb, by simp; omega, Nat.lt_of_lt_of_le h.size hbel.size, tabs_below h.tabs hbel h.base, h.base⟩
theorem builder_below {T e : TypeId} {B b : Nat} {bs : List Value} {w w' : World} (h : Lib.IsBuilderF T e B b bs w) (hb : Below w.heap.size w w') : Lib.IsBuilderF T e B b bs w' := by
  have key : ∀ p, Lib.BuilderAtF T e B b p bs w → Lib.BuilderAtF T e B b p bs w' := by
    rintro p ⟨hB, v, hbb, hown, hne⟩
    refine ⟨hB, v, (hb.block b (heap_lt hbb)).trans hbb, ⟨hown.1, ?_⟩, hne⟩
    rcases hown.2 with hn | ⟨g, cap, cur, fz, hv, hbg, hg, rest⟩
    · exact .inl hn
    · exact .inr ⟨g, cap, cur, fz, hv, hbg, (hb.block g (heap_lt hg)).trans hg, rest⟩
  exact h.elim (fun x => .inl (key _ x)) (fun x => .inr (key _ x))

theorem XInv.still {f : ByteArray} {K : Nat} {w wx w1 : World} {i : Nat} {out : Csv.Bytes} (h : XInv f K w i out wx) (hbel : Below wx.heap.size wx w1) : XInv f K w i out w1 :=
  ⟨h.below.trans (hbel.mono (Nat.le_of_lt h.size)), builder_below h.bld hbel, h.len, Nat.lt_of_lt_of_le h.size hbel.size, tabs_below h.tabs (hbel.mono (Nat.le_of_lt h.size)) h.base, h.base⟩

def TextPost (w : World) (R : Csv.Bytes × Bool × Bool) (e : Ending) (w' : World) : Prop :=
  e = .returned (.tuple #[.string ⟨R.1.toArray⟩, .bool R.2.1, .bool R.2.2]) ∧ Below w.heap.size w w'

set_option maxHeartbeats 4000000 in
set_option maxRecDepth 100000 in
theorem text_any (f : ByteArray) (w : World) (hs : f.size ≤ 4000000000) (hT : Lib.Utf8Tabs 0 1 w) (hB : 2 ≤ w.heap.size) :
    Calls Tryd.prog 24 #[.string f] w (TextPost w (textR f)) := by
  have HT := Lib.hid hT; clear hT
  obtain ⟨K, hK⟩ : ∃ K, w.heap.size = K := ⟨_, rfl⟩
  have HK := Lib.hid hK
  rw [hK] at hB
  obtain ⟨R, hR⟩ : ∃ R, textF f (f.size + 1) 0 [] false false = R := ⟨_, rfl⟩
  have HR := Lib.hid hR; clear hR
  have hx0 : f.extract 0 f.size = f := ByteArray.extract_zero_size
  go_enter Tryd.func24, Tryd.ntmps24
  go_wp2
  go_loopg [3, 4, 6, 7, 8] f.size (fun g v3 v4 v6 _ _ wx => ∃ (i : Nat) (out : Csv.Bytes) (ch ln : Bool), f.size ≤ i + g ∧ i ≤ f.size ∧ v3 = .bool ch ∧ v4 = .bool ln ∧ v6 = .string (f.extract i f.size) ∧ XInv f K w i out wx ∧ TextIs f R i out ch ln)
  case atStart =>
    refine ⟨0, [], false, false, by omega, by omega, rfl, rfl, by rw [ByteArray.extract_zero_size], ⟨?_, ?_, by simp, ?_, ?_, hB⟩, f.size + 1, by omega, HR.out⟩
    · rw [← HK.out]; exact (Below.refl _ _).alloc (Nat.le_refl _) _
    · exact .inl ⟨Nat.le_refl _, .slice none 0 0, alloc_at _ _ _ HK.out, ⟨by simp [Lib.byteCells], .inl ⟨rfl, by simp [Lib.byteCells]⟩⟩, by simp [Value.ownBlock]⟩
    · simp; omega
    · exact tabs_below HT.out (B := K) (by rw [← HK.out]; exact (Below.refl _ _).alloc (Nat.le_refl _) _) hB
  case round =>
    obtain ⟨i, out, ch, ln, hg, hi, rfl, rfl, rfl, hinv, htext⟩ := hrel
    have HI := Lib.hid hinv; clear hinv
    have HX := Lib.hid htext; clear htext
    clear hx0
    have hsz : (f.extract i f.size).size = f.size - i := by rw [ByteArray.size_extract, Nat.min_self]
    by_cases hlt : i < f.size
    · have hne : (f.extract i f.size).toList.isEmpty = false := by
        rw [Lib.toList_data, Lib.extract_to_end, drop_cons f i hlt]; rfl
      have hdec := decode_span' f i hlt
      obtain ⟨r, hr⟩ : ∃ r, (Utf8.decode f i).1 = r := ⟨_, rfl⟩
      obtain ⟨n, hn⟩ : ∃ n, (Utf8.decode f i).2 = n := ⟨_, rfl⟩
      have hd : Utf8.decode f i = (r, n) := by rw [← hr, ← hn]
      rw [hn] at hdec
      obtain ⟨hn1, hn2⟩ := hdec
      have HD := Lib.hid hd
      have hr2 : (r : Int) ≤ 2147483647 := by have := decode_le f i; rw [hr] at this; omega
      clear hr hn hd
      have HSZ := Lib.hid hsz; clear hsz
      have hslb : n ≤ (f.extract i f.size).size := by rw [HSZ.out]; omega
      by_cases hcr : isCrlf f i
      · have hz2 := crlf_size hcr
        have PX : Hid (Lib.hasPrefix (f.extract i f.size).data.toList [13, 10] = true) := by
          show Lib.hasPrefix _ _ = true
          rw [Lib.extract_to_end, hasPrefix_two]; exact hcr
        have HN := Lib.hid (HX.out.crlf hlt hcr)
        have hsl2 : 2 ≤ (f.extract i f.size).size := by rw [HSZ.out]; omega
        clear hcr
        go_wp2_with fail
        refine (decode_at_rest f i hlt _ (by exact HI.out.tabs)).mono ?_
        rintro e w1 ⟨rfl, hb1⟩
        rw [HD.out]
        have HI1 := Lib.hid (HI.out.still (by exact hb1))
        clear hb1
        go_wp2_with fail
        refine (hasPrefix_of _ _ _ true PX.out).mono ?_
        rintro e w' ⟨rfl, rfl⟩
        go_wp2_with fail
        refine (Tryd.Builder_WriteByte_k K K (Lib.byteCells out) 32 _ (by exact HI1.out.bld) (by rw [Lib.byteCells_length]; have := HI1.out.len; omega) (by exact Nat.le_of_lt HI1.out.size)).mono ?_
        rintro e w2 ⟨rfl, hb2, hbel2, _⟩
        have HI2 := Lib.hid (HI1.out.wrote (b := [32]) (j := i + 2) (.inr hb2) hbel2 (by have := HI1.out.len; simp; omega))
        clear hb2 hbel2
        go_wp2
        go_roundg (gk - 1)
        case measure => omega
        case rel => exact ⟨i + 2, out ++ [32], ch, true, by omega, by omega, rfl, rfl, by rw [extract_more' f i _ (by omega)], HI2.out, HN.out⟩
      · have PX : Hid (Lib.hasPrefix (f.extract i f.size).data.toList [13, 10] = false) := by
          show Lib.hasPrefix _ _ = false
          rw [← Bool.not_eq_true, Lib.extract_to_end, hasPrefix_two]; exact hcr
        by_cases h10 : r = 10
        · have HN := Lib.hid (HX.out.line hlt hcr (.inl (by rw [HD.out]; exact h10)))
          rw [HD.out] at HN
          subst h10
          clear hcr
          go_wp2_with fail
          refine (decode_at_rest f i hlt _ (by exact HI.out.tabs)).mono ?_
          rintro e w1 ⟨rfl, hb1⟩
          rw [HD.out]
          have HI1 := Lib.hid (HI.out.still (by exact hb1))
          clear hb1
          go_wp2_with fail
          refine (hasPrefix_of _ _ _ false PX.out).mono ?_
          rintro e w' ⟨rfl, rfl⟩
          go_wp2_with fail
          refine (Tryd.Builder_WriteByte_k K K (Lib.byteCells out) 32 _ (by exact HI1.out.bld) (by rw [Lib.byteCells_length]; have := HI1.out.len; omega) (by exact Nat.le_of_lt HI1.out.size)).mono ?_
          rintro e w2 ⟨rfl, hb2, hbel2, _⟩
          have HI2 := Lib.hid (HI1.out.wrote (b := [32]) (j := i + n) (.inr hb2) hbel2 (by have := HI1.out.len; simp; omega))
          clear hb2 hbel2
          go_wp2
          go_roundg (gk - 1)
          case measure => omega
          case rel => exact ⟨i + n, out ++ [32], ch, true, by omega, by omega, rfl, rfl, by rw [extract_more' f i _ (by omega)], HI2.out, HN.out⟩
        · have t10 : ((r : Int) == 10) = false := by rw [beq_eq_false_iff_ne]; omega
          by_cases h13 : r = 13
          · have HN := Lib.hid (HX.out.line hlt hcr (.inr (by rw [HD.out]; exact h13)))
            rw [HD.out] at HN
            subst h13
            clear hcr
            go_wp2_with fail
            refine (decode_at_rest f i hlt _ (by exact HI.out.tabs)).mono ?_
            rintro e w1 ⟨rfl, hb1⟩
            rw [HD.out]
            have HI1 := Lib.hid (HI.out.still (by exact hb1))
            clear hb1
            go_wp2_with fail
            refine (hasPrefix_of _ _ _ false PX.out).mono ?_
            rintro e w' ⟨rfl, rfl⟩
            go_wp2_with fail
            refine (Tryd.Builder_WriteByte_k K K (Lib.byteCells out) 32 _ (by exact HI1.out.bld) (by rw [Lib.byteCells_length]; have := HI1.out.len; omega) (by exact Nat.le_of_lt HI1.out.size)).mono ?_
            rintro e w2 ⟨rfl, hb2, hbel2, _⟩
            have HI2 := Lib.hid (HI1.out.wrote (b := [32]) (j := i + n) (.inr hb2) hbel2 (by have := HI1.out.len; simp; omega))
            clear hb2 hbel2
            go_wp2
            go_roundg (gk - 1)
            case measure => omega
            case rel => exact ⟨i + n, out ++ [32], ch, true, by omega, by omega, rfl, rfl, by rw [extract_more' f i _ (by omega)], HI2.out, HN.out⟩
          · have t13 : ((r : Int) == 13) = false := by rw [beq_eq_false_iff_ne]; omega
            have hno : ¬ ((Utf8.decode f i).1 = 10 ∨ (Utf8.decode f i).1 = 13) := by rw [HD.out]; exact fun h => h.elim h10 h13
            clear h10 h13
            by_cases hfd : r = 65533
            · have tfd : ((r : Int) == 65533) = true := by rw [beq_iff_eq]; omega
              by_cases hn1e : n = 1
              · have HN := Lib.hid (HX.out.bad hlt hcr hno (by rw [HD.out]; exact .inl ⟨hfd, hn1e⟩))
                rw [HD.out] at HN
                subst hn1e
                clear hcr hno hfd
                go_wp2_with fail
                refine (decode_at_rest f i hlt _ (by exact HI.out.tabs)).mono ?_
                rintro e w1 ⟨rfl, hb1⟩
                rw [HD.out]
                have HI1 := Lib.hid (HI.out.still (by exact hb1))
                clear hb1
                go_wp2_with fail
                refine (hasPrefix_of _ _ _ false PX.out).mono ?_
                rintro e w' ⟨rfl, rfl⟩
                go_wp2_with fail
                refine (Tryd.Builder_WriteByte_k K K (Lib.byteCells out) 63 _ (by exact HI1.out.bld) (by rw [Lib.byteCells_length]; have := HI1.out.len; omega) (by exact Nat.le_of_lt HI1.out.size)).mono ?_
                rintro e w2 ⟨rfl, hb2, hbel2, _⟩
                have HI2 := Lib.hid (HI1.out.wrote (b := [63]) (j := i + 1) (.inr hb2) hbel2 (by have := HI1.out.len; simp; omega))
                clear hb2 hbel2
                go_wp2
                go_roundg (gk - 1)
                case measure => omega
                case rel => exact ⟨i + 1, out ++ [63], true, ln, by omega, by omega, rfl, rfl, by rw [extract_more' f i _ (by omega)], HI2.out, HN.out⟩
              · have tn1 : ((n : Int) == 1) = false := by rw [beq_eq_false_iff_ne]; omega
                have HOK : Hid (charOk r = true) := by show charOk r = true; rw [hfd]; exact charOk_fffd
                have HN := Lib.hid (HX.out.copy hlt hcr hno (by rw [HD.out]; rintro (h | h); · exact hn1e h.2
                                                                · exact absurd (HOK.out.symm.trans h) (by decide)))
                rw [HD.out] at HN
                clear hcr hno hfd hn1e
                go_wp2_with fail
                refine (decode_at_rest f i hlt _ (by exact HI.out.tabs)).mono ?_
                rintro e w1 ⟨rfl, hb1⟩
                rw [HD.out]
                have HI1 := Lib.hid (HI.out.still (by exact hb1))
                clear hb1
                go_wp2_with fail
                refine (hasPrefix_of _ _ _ false PX.out).mono ?_
                rintro e w' ⟨rfl, rfl⟩
                go_wp2_with fail
                refine (charF_any r _).mono ?_
                rintro e w' ⟨rfl, rfl⟩
                rw [HOK.out]
                go_wp2_with fail
                refine (Tryd.Builder_WriteString_k K K (Lib.byteCells out) _ _ (by exact HI1.out.bld) (by rw [Lib.byteCells_length, ByteArray.size_extract]; have := HI1.out.len; omega) (by exact Nat.le_of_lt HI1.out.size)).mono ?_
                rintro e w2 ⟨rfl, hb2, hbel2, _⟩
                have HI2 : Hid (XInv f K w (i + n) (out ++ piece f i n) w2) := HI1.out.wrote (.inr (by rw [← extract_piece]; exact hb2)) hbel2 (by have := HI1.out.len; simp [piece]; omega)
                clear hb2 hbel2
                go_wp2
                go_roundg (gk - 1)
                case measure => omega
                case rel => exact ⟨i + n, out ++ piece f i n, ch, ln, by omega, by omega, rfl, rfl, by rw [extract_more' f i _ (by omega)], HI2.out, HN.out⟩
            · have tfd : ((r : Int) == 65533) = false := by rw [beq_eq_false_iff_ne]; omega
              cases hok : charOk r with
              | true =>
                have HOK := Lib.hid hok
                have HN := Lib.hid (HX.out.copy hlt hcr hno (by rw [HD.out]; rintro (h | h); · exact hfd h.1
                                                                · exact absurd (hok.symm.trans h) (by decide)))
                rw [HD.out] at HN
                clear hcr hno hfd hok
                go_wp2_with fail
                refine (decode_at_rest f i hlt _ (by exact HI.out.tabs)).mono ?_
                rintro e w1 ⟨rfl, hb1⟩
                rw [HD.out]
                have HI1 := Lib.hid (HI.out.still (by exact hb1))
                clear hb1
                go_wp2_with fail
                refine (hasPrefix_of _ _ _ false PX.out).mono ?_
                rintro e w' ⟨rfl, rfl⟩
                go_wp2_with fail
                refine (charF_any r _).mono ?_
                rintro e w' ⟨rfl, rfl⟩
                rw [HOK.out]
                go_wp2_with fail
                refine (Tryd.Builder_WriteString_k K K (Lib.byteCells out) _ _ (by exact HI1.out.bld) (by rw [Lib.byteCells_length, ByteArray.size_extract]; have := HI1.out.len; omega) (by exact Nat.le_of_lt HI1.out.size)).mono ?_
                rintro e w2 ⟨rfl, hb2, hbel2, _⟩
                have HI2 : Hid (XInv f K w (i + n) (out ++ piece f i n) w2) := HI1.out.wrote (.inr (by rw [← extract_piece]; exact hb2)) hbel2 (by have := HI1.out.len; simp [piece]; omega)
                clear hb2 hbel2
                go_wp2
                go_roundg (gk - 1)
                case measure => omega
                case rel => exact ⟨i + n, out ++ piece f i n, ch, ln, by omega, by omega, rfl, rfl, by rw [extract_more' f i _ (by omega)], HI2.out, HN.out⟩
              | false =>
                have HOK := Lib.hid hok
                have HN := Lib.hid (HX.out.bad hlt hcr hno (by rw [HD.out]; exact .inr hok))
                rw [HD.out] at HN
                clear hcr hno hfd hok
                go_wp2_with fail
                refine (decode_at_rest f i hlt _ (by exact HI.out.tabs)).mono ?_
                rintro e w1 ⟨rfl, hb1⟩
                rw [HD.out]
                have HI1 := Lib.hid (HI.out.still (by exact hb1))
                clear hb1
                go_wp2_with fail
                refine (hasPrefix_of _ _ _ false PX.out).mono ?_
                rintro e w' ⟨rfl, rfl⟩
                go_wp2_with fail
                refine (charF_any r _).mono ?_
                rintro e w' ⟨rfl, rfl⟩
                rw [HOK.out]
                go_wp2_with fail
                refine (Tryd.Builder_WriteByte_k K K (Lib.byteCells out) 63 _ (by exact HI1.out.bld) (by rw [Lib.byteCells_length]; have := HI1.out.len; omega) (by exact Nat.le_of_lt HI1.out.size)).mono ?_
                rintro e w2 ⟨rfl, hb2, hbel2, _⟩
                have HI2 := Lib.hid (HI1.out.wrote (b := [63]) (j := i + n) (.inr hb2) hbel2 (by have := HI1.out.len; simp; omega))
                clear hb2 hbel2
                go_wp2
                go_roundg (gk - 1)
                case measure => omega
                case rel => exact ⟨i + n, out ++ [63], true, ln, by omega, by omega, rfl, rfl, by rw [extract_more' f i _ (by omega)], HI2.out, HN.out⟩
    · have hie : f.size - i = 0 := by omega
      have hne : (f.extract i f.size).toList.isEmpty = true := by
        rw [Lib.toList_data, Lib.extract_to_end, List.drop_of_length_le (by have : f.data.size = f.size := rfl; simp; omega)]; rfl
      have hdone := HX.out.done (by omega)
      have HDN := Lib.hid hdone; clear hdone hie
      have HRR : Hid (textR f = (guardB out, ch, ln)) := by
        show textR f = _
        unfold textR
        rw [HR.out, HDN.out]
      go_wp2_with fail
      refine (Tryd.Builder_String_any_k K K out _ (by exact HI.out.bld) (by exact Nat.le_of_lt HI.out.size)).mono ?_
      rintro e w1 ⟨rfl, _, hbel, _⟩
      have HB1 : Hid (Below K w w1) := HI.out.below.trans hbel
      clear hbel
      have hol : ((⟨out.toArray⟩ : ByteArray)).size = out.length := by show out.toArray.size = _; simp
      have hol2 : out.length ≤ 4000000000 := by have := HI.out.len; omega
      have HOL := Lib.hid hol; clear hol
      by_cases e61 : out.head? = some 61
      · have P61 : Hid (Lib.hasPrefix (⟨out.toArray⟩ : ByteArray).data.toList [61] = true) := by
          show Lib.hasPrefix _ _ = true
          rw [hasPrefix_one]; exact e61
        have HGB : Hid (guardB out = 39 :: out) := by show guardB out = _; unfold guardB; rw [if_pos (.inl e61)]
        have nopos : ¬ 9223372036854775807 < 1 + (⟨out.toArray⟩ : ByteArray).size := by rw [HOL.out]; omega
        clear e61
        go_wp2_with fail
        refine (hasPrefix_of _ _ _ true P61.out).mono ?_
        rintro e w' ⟨rfl, rfl⟩
        go_wp2
        go_ret3
        unfold TextPost
        rw [HRR.out, HGB.out, HK.out]
        exact ⟨ret_text (cons_bytes out), HB1.out⟩
      · have P61 : Hid (Lib.hasPrefix (⟨out.toArray⟩ : ByteArray).data.toList [61] = false) := by
          show Lib.hasPrefix _ _ = false
          rw [← Bool.not_eq_true, hasPrefix_one]; exact e61
        by_cases e39 : out.head? = some 39
        · have P39 : Hid (Lib.hasPrefix (⟨out.toArray⟩ : ByteArray).data.toList [39] = true) := by
            show Lib.hasPrefix _ _ = true
            rw [hasPrefix_one]; exact e39
          have HGB : Hid (guardB out = 39 :: out) := by show guardB out = _; unfold guardB; rw [if_pos (.inr e39)]
          have nopos : ¬ 9223372036854775807 < 1 + (⟨out.toArray⟩ : ByteArray).size := by rw [HOL.out]; omega
          clear e61 e39
          go_wp2_with fail
          refine (hasPrefix_of _ _ _ false P61.out).mono ?_
          rintro e w' ⟨rfl, rfl⟩
          go_wp2_with fail
          refine (hasPrefix_of _ _ _ true P39.out).mono ?_
          rintro e w' ⟨rfl, rfl⟩
          go_wp2
          go_ret3
          unfold TextPost
          rw [HRR.out, HGB.out, HK.out]
          exact ⟨ret_text (cons_bytes out), HB1.out⟩
        · have P39 : Hid (Lib.hasPrefix (⟨out.toArray⟩ : ByteArray).data.toList [39] = false) := by
            show Lib.hasPrefix _ _ = false
            rw [← Bool.not_eq_true, hasPrefix_one]; exact e39
          have HGB : Hid (guardB out = out) := by show guardB out = _; unfold guardB; rw [if_neg (by exact fun h => h.elim e61 e39)]
          clear e61 e39
          go_wp2_with fail
          refine (hasPrefix_of _ _ _ false P61.out).mono ?_
          rintro e w' ⟨rfl, rfl⟩
          go_wp2_with fail
          refine (hasPrefix_of _ _ _ false P39.out).mono ?_
          rintro e w' ⟨rfl, rfl⟩
          go_wp2
          go_ret3
          unfold TextPost
          rw [HRR.out, HGB.out, HK.out]
          exact ⟨rfl, HB1.out⟩
end Go.Proofs.YtjndiielolphgaaDoor
