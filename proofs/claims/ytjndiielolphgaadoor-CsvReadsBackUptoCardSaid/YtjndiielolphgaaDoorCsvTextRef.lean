/- The walk of the reference's CsvText: the text of a cell for a field. Conditions: the field has at most 4000000000 bytes. -/
import Derived.Test.YtjndiielolphgaaDoorCsvText
import Derived.Test.YtjndiielolphgaaDoorRuneAll
import Derived.Test.YtjndiielolphgaaDoorCsvRefLaws
namespace Go.Proofs.YtjndiielolphgaaDoor
open Go.RowKit

theorem rune_rest (f : ByteArray) (i : Nat) (hi : i < f.size) (hs : f.size ≤ 4000000000) (w : World) :
    Calls Tryd.prog 25 #[.string (f.extract i f.size)] w fun e w' => e = .returned (.tuple #[.int .i64 (runeN (Utf8.decode f i)).1, .int .i64 (runeN (Utf8.decode f i)).2]) ∧ w' = w := by
  have := rune_any (f.extract i f.size) w (by rw [ByteArray.size_extract]; omega) (by rw [ByteArray.size_extract]; omega)
  rw [decode_extract] at this
  exact this

theorem piece_bytes (f : ByteArray) (i n : Nat) : (f.extract i (i + n)).data.toList = piece f i n := by
  rw [Lib.extract_data]; simp [piece]
theorem add_byte (fb : ByteArray) (c : UInt8) : (fb ++ ⟨#[c]⟩).data.toList = fb.data.toList ++ [c] := by
  rw [ByteArray.data_append, Array.toList_append]
theorem add_piece (fb f : ByteArray) (i n : Nat) : (fb ++ f.extract i (i + n)).data.toList = fb.data.toList ++ piece f i n := by
  rw [ByteArray.data_append, Array.toList_append, piece_bytes]
theorem size_byte (fb : ByteArray) (c : UInt8) : (fb ++ ⟨#[c]⟩).size = fb.size + 1 := by
  rw [ByteArray.size_append]; rfl
theorem ba_self (fb : ByteArray) : (⟨fb.data.toList.toArray⟩ : ByteArray) = fb := by
  simp

theorem cons_ba (fb : ByteArray) : (⟨#[39]⟩ : ByteArray) ++ fb = ⟨(39 :: fb.data.toList).toArray⟩ := by
  have := cons_bytes fb.data.toList
  rw [ba_self] at this
  exact this
/-- a byte below 128 is its own character, and no other text decodes as one -/
theorem decode_ctl (f : ByteArray) (i : Nat) (hi : i < f.size) (c : UInt8) (hc : c.toNat < 128) (hd : (Utf8.decode f i).1 = c.toNat) : f[i]'hi = c ∧ (Utf8.decode f i).2 = 1 := by
  by_cases h : (f[i]'hi).toNat < 128
  · have e : Utf8.decode f i = ((f[i]'hi).toNat, 1) := by rw [Lib.decode_at, Lib.decodeN, get_pos f i hi, if_pos h]
    rw [e] at hd ⊢
    exact ⟨UInt8.toNat_inj.1 hd, rfl⟩
  · have := (decode_high f i hi (by omega)).1
    omega
theorem crlf_decode {f : ByteArray} {i : Nat} (h : isCrlf f i) : (Utf8.decode f i).1 = 13 := by
  have hz := crlf_size h
  obtain ⟨t, ht⟩ := h
  have hi : i < f.size := by omega
  rw [drop_cons f i hi] at ht
  simp only [List.cons.injEq] at ht
  rw [Lib.decode_at, Lib.decodeN, get_pos f i hi, ht.1, if_pos (by decide)]
  rfl
theorem bad_crlf {f : ByteArray} {i r n : Nat} (hd : Utf8.decode f i = (r, n)) (hb : r = 65533 ∧ n = 1) (h : isCrlf f i) : False := by
  have := crlf_decode h
  rw [hd] at this
  simp at this
  omega

set_option maxHeartbeats 4000000 in
set_option maxRecDepth 100000 in
theorem textRef_any (f : ByteArray) (w : World) (hs : f.size ≤ 4000000000) :
    Calls Tryd.prog 10 #[.string f] w fun e w' => e = .returned (.tuple #[.string ⟨(textR f).1.toArray⟩, .bool (textR f).2.1, .bool (textR f).2.2]) ∧ w' = w := by
  obtain ⟨R, hR⟩ : ∃ R, textF f (f.size + 1) 0 [] false false = R := ⟨_, rfl⟩
  have HR := Lib.hid hR; clear hR
  go_enter Tryd.func10, Tryd.ntmps10
  go_wp2
  go_loopg [5, 6, 7, 8, 9, 10] f.size (fun g v5 v6 v7 v8 _ _ wx => ∃ (i : Nat) (fb : ByteArray) (ch ln : Bool), f.size ≤ i + g ∧ i ≤ f.size ∧ v5 = .string fb ∧ v6 = .bool ch ∧ v7 = .bool ln ∧ v8 = .int .i64 i ∧ fb.size ≤ i ∧ wx = w ∧ TextIs f R i fb.data.toList ch ln)
  case atStart =>
    exact ⟨0, ByteArray.empty, false, false, by omega, by omega, rfl, rfl, rfl, rfl, by simp, rfl, f.size + 1, by omega, HR.out⟩
  case round =>
    obtain ⟨i, fb, ch, ln, hg, hi, rfl, rfl, rfl, rfl, hfb, rfl, htext⟩ := hrel
    have HX := Lib.hid htext; clear htext
    have nopos : ¬ 9223372036854775807 < fb.size + 1 := by omega
    by_cases hlt : i < f.size
    · have hltb : decide ((i : Int) < (f.size : Int)) = true := decide_eq_true (by omega)
      have hdec := decode_span' f i hlt
      obtain ⟨r, hr⟩ : ∃ r, (Utf8.decode f i).1 = r := ⟨_, rfl⟩
      obtain ⟨n, hn⟩ : ∃ n, (Utf8.decode f i).2 = n := ⟨_, rfl⟩
      have hd : Utf8.decode f i = (r, n) := by rw [← hr, ← hn]
      rw [hn] at hdec
      obtain ⟨hn1, hn2⟩ := hdec
      have HD := Lib.hid hd
      clear hr hn hd
      have hpsz : (f.extract i (i + n)).size = n := by rw [ByteArray.size_extract]; omega
      have HPS := Lib.hid hpsz; clear hpsz
      have nopos2 : ¬ 9223372036854775807 < fb.size + (f.extract i (i + n)).size := by rw [HPS.out]; omega
      by_cases hbadn : r = 65533 ∧ n = 1
      · have HRN : Hid (runeN (Utf8.decode f i) = (0, 0)) := by show runeN _ = _; rw [HD.out, runeN, if_pos hbadn]
        have hcr : ¬ isCrlf f i := fun h => bad_crlf HD.out hbadn h
        have HN := Lib.hid (HX.out.bad hlt hcr (by rw [HD.out, hbadn.1]; simp) (by rw [HD.out]; exact .inl hbadn))
        rw [HD.out, hbadn.2] at HN
        clear hbadn hcr
        go_wp2_with fail
        refine (rune_rest f i hlt hs _).mono ?_
        rintro e w' ⟨rfl, rfl⟩
        rw [HRN.out]
        go_wp2
        go_roundg (gk - 1)
        case measure => omega
        case rel => exact ⟨i + 1, fb ++ ⟨#[63]⟩, true, ln, by omega, by omega, rfl, rfl, rfl, by go_num, by rw [size_byte]; omega, rfl, by rw [add_byte]; exact HN.out⟩
      · have HRN : Hid (runeN (Utf8.decode f i) = (r, n)) := by show runeN _ = _; rw [HD.out, runeN, if_neg hbadn]
        have tn0 : ((n : Int) == 0) = false := by rw [beq_eq_false_iff_ne]; omega
        by_cases h13 : r = 13
        · have hd13 : (Utf8.decode f i).1 = 13 := by rw [HD.out]; exact h13
          have hx13 := decode_ctl f i hlt 13 (by decide) hd13
          have hn13 : n = 1 := by have := hx13.2; rw [HD.out] at this; exact this
          subst h13
          by_cases hlt2 : i + 1 < f.size
          · have hltb2 : decide ((i : Int) + 1 < (f.size : Int)) = true := decide_eq_true (by omega)
            obtain ⟨z, hz⟩ : ∃ z : UInt8, f[i + 1]'hlt2 = z := ⟨_, rfl⟩
            by_cases hz10 : z = 10
            · have hzb : ((z.toNat : Int) == 10) = true := by subst hz10; rfl
              have HN := Lib.hid (HX.out.crlf hlt ⟨_, by rw [drop_cons f i hlt, drop_cons f (i + 1) hlt2, hx13.1, hz, hz10]⟩)
              subst hn13
              clear hx13 hd13 hz10 hbadn
              go_wp2_with fail
              refine (rune_rest f i hlt hs _).mono ?_
              rintro e w' ⟨rfl, rfl⟩
              rw [HRN.out]
              go_wp2
              go_roundg (gk - 1)
              case measure => omega
              case rel => exact ⟨i + 2, fb ++ ⟨#[32]⟩, ch, true, by omega, by omega, rfl, rfl, rfl, by go_num, by rw [size_byte]; omega, rfl, by rw [add_byte]; exact HN.out⟩
            · have hzb : ((z.toNat : Int) == 10) = false := by rw [beq_eq_false_iff_ne]; intro h; exact hz10 (UInt8.toNat_inj.1 (by show z.toNat = 10; omega))
              have hcr : ¬ isCrlf f i := by
                rintro ⟨t, ht⟩
                rw [drop_cons f i hlt, drop_cons f (i + 1) hlt2, hz] at ht
                simp only [List.cons.injEq] at ht
                exact hz10 ht.2.1
              have HN := Lib.hid (HX.out.line hlt hcr (.inr hd13))
              rw [HD.out, hn13] at HN
              subst hn13
              clear hx13 hd13 hz10 hbadn hcr
              go_wp2_with fail
              refine (rune_rest f i hlt hs _).mono ?_
              rintro e w' ⟨rfl, rfl⟩
              rw [HRN.out]
              go_wp2
              go_roundg (gk - 1)
              case measure => omega
              case rel => exact ⟨i + 1, fb ++ ⟨#[32]⟩, ch, true, by omega, by omega, rfl, rfl, rfl, by go_num, by rw [size_byte]; omega, rfl, by rw [add_byte]; exact HN.out⟩
          · have hltb2 : decide ((i : Int) + 1 < (f.size : Int)) = false := decide_eq_false (by omega)
            have hcr : ¬ isCrlf f i := fun h => by have := crlf_size h; omega
            have HN := Lib.hid (HX.out.line hlt hcr (.inr hd13))
            rw [HD.out, hn13] at HN
            subst hn13
            clear hx13 hd13 hbadn hcr
            go_wp2_with fail
            refine (rune_rest f i hlt hs _).mono ?_
            rintro e w' ⟨rfl, rfl⟩
            rw [HRN.out]
            go_wp2
            go_roundg (gk - 1)
            case measure => omega
            case rel => exact ⟨i + 1, fb ++ ⟨#[32]⟩, ch, true, by omega, by omega, rfl, rfl, rfl, by go_num, by rw [size_byte]; omega, rfl, by rw [add_byte]; exact HN.out⟩
        · have t13 : ((r : Int) == 13) = false := by rw [beq_eq_false_iff_ne]; omega
          have hcr : ¬ isCrlf f i := fun h => h13 (by have := crlf_decode h; rw [HD.out] at this; exact this)
          by_cases h10 : r = 10
          · have HN := Lib.hid (HX.out.line hlt hcr (.inl (by rw [HD.out]; exact h10)))
            rw [HD.out] at HN
            subst h10
            clear hcr h13 hbadn
            go_wp2_with fail
            refine (rune_rest f i hlt hs _).mono ?_
            rintro e w' ⟨rfl, rfl⟩
            rw [HRN.out]
            go_wp2
            go_roundg (gk - 1)
            case measure => omega
            case rel => exact ⟨i + n, fb ++ ⟨#[32]⟩, ch, true, by omega, by omega, rfl, rfl, rfl, by go_num, by rw [size_byte]; omega, rfl, by rw [add_byte]; exact HN.out⟩
          · have t10 : ((r : Int) == 10) = false := by rw [beq_eq_false_iff_ne]; omega
            have hno : ¬ ((Utf8.decode f i).1 = 10 ∨ (Utf8.decode f i).1 = 13) := by rw [HD.out]; exact fun h => h.elim h10 h13
            cases hok : charOk r with
            | true =>
              have HOK := Lib.hid hok
              have HN := Lib.hid (HX.out.copy hlt hcr hno (by rw [HD.out]; exact fun h => h.elim hbadn (fun h => absurd (hok.symm.trans h) (by decide))))
              rw [HD.out] at HN
              clear hcr hno h10 h13 hok hbadn
              go_wp2_with fail
              refine (rune_rest f i hlt hs _).mono ?_
              rintro e w' ⟨rfl, rfl⟩
              rw [HRN.out]
              go_wp2_with fail
              refine (charR_any r _).mono ?_
              rintro e w' ⟨rfl, rfl⟩
              rw [HOK.out]
              go_wp2
              go_roundg (gk - 1)
              case measure => omega
              case rel => exact ⟨i + n, fb ++ f.extract i (i + n), ch, ln, by omega, by omega, rfl, rfl, rfl, by go_num, by rw [ByteArray.size_append, HPS.out]; omega, rfl, by rw [add_piece]; exact HN.out⟩
            | false =>
              have HOK := Lib.hid hok
              have HN := Lib.hid (HX.out.bad hlt hcr hno (by rw [HD.out]; exact .inr hok))
              rw [HD.out] at HN
              clear hcr hno h10 h13 hok hbadn
              go_wp2_with fail
              refine (rune_rest f i hlt hs _).mono ?_
              rintro e w' ⟨rfl, rfl⟩
              rw [HRN.out]
              go_wp2_with fail
              refine (charR_any r _).mono ?_
              rintro e w' ⟨rfl, rfl⟩
              rw [HOK.out]
              go_wp2
              go_roundg (gk - 1)
              case measure => omega
              case rel => exact ⟨i + n, fb ++ ⟨#[63]⟩, true, ln, by omega, by omega, rfl, rfl, rfl, by go_num, by rw [size_byte]; omega, rfl, by rw [add_byte]; exact HN.out⟩
    · have hltb : decide ((i : Int) < (f.size : Int)) = false := decide_eq_false (by omega)
      have hdone := HX.out.done (by omega)
      have HDN := Lib.hid hdone; clear hdone
      have HRR : Hid (textR f = (guardB fb.data.toList, ch, ln)) := by
        show textR f = _
        unfold textR
        rw [HR.out, HDN.out]
      cases hfbl : fb.data.toList with
      | nil =>
        have hfb0 : fb = ByteArray.empty := by
          apply ByteArray.ext; apply Array.ext'; rw [hfbl]; rfl
        subst hfb0
        clear hfbl
        go_wp2
        go_ret3
        rw [HRR.out]
        exact ⟨rfl, rfl⟩
      | cons b0 t =>
        have hpos : 0 < fb.size := by have := congrArg List.length hfbl; have hs : fb.data.size = fb.size := rfl; simp at this; omega
        have hne : fb.toList.isEmpty = false := by rw [Lib.toList_data, hfbl]; rfl
        have hb0 : fb[0]'hpos = b0 := by
          have := Lib.data_getElem? fb 0 hpos; rw [hfbl] at this; simpa using this.symm
        have hposI : (0 : Int) < (fb.size : Int) := by omega
        have nopos3 : ¬ 9223372036854775807 < 1 + fb.size := by omega
        by_cases e61 : b0 = 61
        · have t61 : ((b0.toNat : Int) == 61) = true := by subst e61; rfl
          have HGB : Hid (guardB fb.data.toList = 39 :: fb.data.toList) := by show guardB _ = _; unfold guardB; rw [if_pos (.inl (by rw [hfbl, e61]; rfl))]
          clear e61 hfbl
          go_wp2
          go_ret3
          rw [HRR.out, HGB.out]
          exact ⟨ret_text (cons_ba fb), rfl⟩
        · have t61 : ((b0.toNat : Int) == 61) = false := by rw [beq_eq_false_iff_ne]; intro h; exact e61 (UInt8.toNat_inj.1 (by show b0.toNat = 61; omega))
          by_cases e39 : b0 = 39
          · have t39 : ((b0.toNat : Int) == 39) = true := by subst e39; rfl
            have HGB : Hid (guardB fb.data.toList = 39 :: fb.data.toList) := by show guardB _ = _; unfold guardB; rw [if_pos (.inr (by rw [hfbl, e39]; rfl))]
            clear e61 e39 hfbl
            go_wp2
            go_ret3
            rw [HRR.out, HGB.out]
            exact ⟨ret_text (cons_ba fb), rfl⟩
          · have t39 : ((b0.toNat : Int) == 39) = false := by rw [beq_eq_false_iff_ne]; intro h; exact e39 (UInt8.toNat_inj.1 (by show b0.toNat = 39; omega))
            have HGB : Hid (guardB fb.data.toList = fb.data.toList) := by
              show guardB _ = _; unfold guardB; rw [hfbl, if_neg]; simp only [List.head?_cons, Option.some.injEq]; exact fun h => h.elim e61 e39
            clear e61 e39 hfbl
            go_wp2
            go_ret3
            rw [HRR.out, HGB.out]
            exact ⟨ret_text (by rw [ba_self]), rfl⟩
end Go.Proofs.YtjndiielolphgaaDoor
