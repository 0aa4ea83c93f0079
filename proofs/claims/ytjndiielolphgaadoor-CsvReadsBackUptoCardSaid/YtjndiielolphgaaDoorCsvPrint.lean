/- The walk of csv.Print: it writes the records, or says which argument is bad. Conditions: what is written has at most 1000000000 bytes; bytealg's MaxLen holds a number. -/
import Derived.Test.YtjndiielolphgaaDoorCsvPrintA
namespace Go.Proofs.YtjndiielolphgaaDoor
open Go.RowKit

def PrintPost (w : World) (out : Csv.Bytes) (bad : Bool) (e : Ending) (w' : World) : Prop :=
  e = .returned (.tuple #[.string (ba (if bad then [] else out)), .int .i64 (if bad then 4 else 0)]) ∧ Below w.heap.size w w'

set_option maxHeartbeats 1000000 in
theorem print_badsep (v : Value) (sep : Int) (w : World) (h : isSep sep = false) :
    Calls Tryd.prog 13 #[v, .int .u8 sep] w fun e w' => e = .returned (.tuple #[.string { data := #[] }, .int .i64 1]) ∧ w' = w := by
  have HS := Lib.hid h; clear h
  go_enter Tryd.func13, Tryd.ntmps13
  go_wp2_with (go_at_call 28; refine (csvSep_any _ _).mono ?_; rintro e w' ⟨rfl, hw⟩; rw [hw, HS.out])
  go_ret2
  exact ⟨rfl, rfl⟩

set_option maxHeartbeats 8000000 in
set_option maxRecDepth 100000 in
theorem print_any (v : Value) (rows : List (List Csv.Bytes)) (sep : Int) (c : UInt8) (w : World) (hc : SepFacts sep c) (hc2 : c.toNat < 128) (hsep : isSep sep = true)
    (hrows : RowsAt w v rows) (hlen : (Csv.printOut c rows).length ≤ 1000000000) (hm : ∃ m, w.cell? ⟨2, 0, none⟩ = some (.int .i64 m)) (hrl : rows.length ≤ 1000000000) (hrs : ∀ r ∈ rows, r.length ≤ 1000000000) :
    Calls Tryd.prog 13 #[v, .int .u8 sep] w (PrintPost w (Csv.printOut c rows) (rows.any List.isEmpty)) := by
  have HS := Lib.hid hsep; clear hsep
  have HC := Lib.hid hc; clear hc
  have HM := Lib.hid hm; clear hm
  have HRS := Lib.hid hrs; clear hrs
  have henc := HC.out.enc
  obtain ⟨A0, C0, rfl, hcells⟩ := hrows
  have HR := Lib.hid hcells; clear hcells
  obtain ⟨K, hK⟩ : ∃ K, w.heap.size = K := ⟨_, rfl⟩
  have HK := Lib.hid hK
  obtain ⟨OUT, hO⟩ : ∃ OUT, Csv.printOut c rows = OUT := ⟨_, rfl⟩
  obtain ⟨BAD, hB⟩ : ∃ BAD, rows.any List.isEmpty = BAD := ⟨_, rfl⟩
  rw [hO] at hlen ⊢
  rw [hB]
  have HO := Lib.hid hO; clear hO
  have HBAD := Lib.hid hB; clear hB
  go_enter Tryd.func13, Tryd.ntmps13
  go_wp2_with (go_at_call 28; refine (csvSep_any _ _).mono ?_; rintro e w' ⟨rfl, hw⟩; rw [hw, HS.out])
  go_loopg [16] rows.length (fun g v16 wx => ∃ (i : Nat) (out : Csv.Bytes), i + g = rows.length ∧ v16 = .int .i64 i ∧ PrInv K w out wx ∧ out ++ Csv.printOut c (rows.drop i) = OUT ∧ (rows.drop i).any List.isEmpty = BAD)
  case atStart =>
    refine ⟨0, [], by omega, rfl, ⟨?_, ?_, ?_⟩, by simpa using HO.out, by simpa using HBAD.out⟩
    · rw [← HK.out]; exact (Below.refl _ _).alloc (Nat.le_refl _) _
    · exact .inl ⟨Nat.le_refl _, .slice none 0 0, alloc_at _ _ _ HK.out, ⟨by simp [Lib.byteCells], .inl ⟨rfl, by simp [Lib.byteCells]⟩⟩, by simp [Value.ownBlock]⟩
    · have := HK.out; simp; omega
  case round =>
    obtain ⟨i, out, hi, rfl, hinv, hout, hbad⟩ := hrel
    have HI := Lib.hid hinv; clear hinv
    have HT := Lib.hid hout; clear hout
    have HBD := Lib.hid hbad; clear hbad
    by_cases hlt : i < rows.length
    · have hltb : decide ((i : Int) < (rows.length : Int)) = true := decide_eq_true (by omega)
      have hltn : decide (i < rows.length) = true := decide_eq_true hlt
      obtain ⟨b1, o1, u, rfl, hcu, hstr⟩ := HR.out i hlt
      have hc1 : wr.cell? ⟨b1, o1 + i, none⟩ = some u := HI.out.cell HK.out hcu
      have hdr : rows.drop i = rows[i] :: rows.drop (i + 1) := List.drop_eq_getElem_cons hlt
      have hrw := HRS.out rows[i] (List.getElem_mem hlt)
      obtain ⟨row, hrow⟩ : ∃ row, rows[i] = row := ⟨_, rfl⟩
      rw [hrow] at hstr hdr hrw
      clear hrow hcu
      obtain ⟨A1, C1, rfl, hstrc⟩ := hstr
      have HW := Lib.hid hstrc; clear hstrc
      have HDR := Lib.hid hdr; clear hdr
      by_cases hemp : row = []
      · subst hemp
        have HBT : Hid (BAD = true) := by
          show BAD = true
          rw [← HBD.out, HDR.out]; rfl
        go_wp2
        go_ret2
        refine ⟨by rw [HBT.out]; rfl, ?_⟩
        rw [HK.out]; exact HI.out.below
      · have hz : ¬ (row.length = 0) := fun h => hemp (List.eq_nil_of_length_eq_zero h)
        have hzb : ((row.length : Int) == 0) = false := by rw [beq_eq_false_iff_ne]; omega
        have hzn : (row.length == 0) = false := by rw [beq_eq_false_iff_ne]; exact hz
        have hbd2 : (rows.drop (i + 1)).any List.isEmpty = BAD := by
          have h := HBD.out
          rw [HDR.out, List.any_cons] at h
          have he : row.isEmpty = false := by cases row with
            | nil => exact absurd rfl hemp
            | cons _ _ => rfl
          rw [he, Bool.false_or] at h; exact h
        have HBD2 := Lib.hid hbd2; clear hbd2
        obtain ⟨O1, hO1⟩ : ∃ O1, out ++ Csv.cellsOut c row.length 0 row = O1 := ⟨_, rfl⟩
        have hT2 : O1 ++ 10 :: Csv.printOut c (rows.drop (i + 1)) = OUT := by
          have h := HT.out
          rw [HDR.out] at h
          rw [← hO1, ← h]
          simp [Csv.printOut, Csv.rowOut]
        have hO1l : O1.length + 1 ≤ OUT.length := by rw [← hT2]; simp
        have HT2 := Lib.hid hT2; clear hT2
        have HO1 := Lib.hid hO1; clear hO1
        obtain ⟨gkO, rfl⟩ : ∃ g : Nat, g = gk := ⟨_, rfl⟩
        clear hemp
        go_wp2
        go_loopg [25] row.length (fun g v25 wx => ∃ (j : Nat) (o : Csv.Bytes), j + g = row.length ∧ v25 = .int .i64 j ∧ PrInv K w o wx ∧ o ++ Csv.cellsOut c row.length j (row.drop j) = O1)
        case atStart => exact ⟨0, out, by omega, rfl, HI.out, by simpa using HO1.out⟩
        case round =>
          obtain ⟨j, o, hj, rfl, hinv, hout⟩ := hrel
          have HI1 := Lib.hid hinv; clear hinv
          by_cases hltj : j < row.length
          · have hltb2 : decide ((j : Int) < (row.length : Int)) = true := decide_eq_true (by omega)
            have hltn2 : decide (j < row.length) = true := decide_eq_true hltj
            obtain ⟨b2, o2, rfl, hcf⟩ := HW.out j hltj
            have hc2' : wr.cell? ⟨b2, o2 + j, none⟩ = some (.string (ba row[j])) := HI1.out.cell HK.out hcf
            clear hcf
            obtain ⟨fl, hfl⟩ : ∃ fl, row[j] = fl := ⟨_, rfl⟩
            rw [List.drop_eq_getElem_cons hltj, hfl] at hout
            rw [hfl] at hc2'
            clear hfl
            simp only [Csv.cellsOut] at hout
            have holen := congrArg List.length hout
            simp only [List.length_append] at holen
            have HOT := Lib.hid hout; clear hout
            have hfs : (ba fl).size = fl.length := by show fl.toArray.size = _; simp
            have hfl1 : fl.length ≤ (Csv.fieldOut c row.length fl).length := by unfold Csv.fieldOut; split <;> simp <;> (have := len_esc fl; omega)
            cases han : fl.any (Csv.stop c) with
            | true =>
              have hmu : Csv.must c row.length fl = true := by unfold Csv.must; rw [han]; rfl
              have HAN := Lib.hid han; clear han
              simp only [Csv.fieldOut, hmu, if_true, List.length_append, List.length_cons, List.length_nil] at HOT holen hfl1
              clear hmu
              by_cases hj0 : j = 0
              · subst hj0
                rw [Nat.add_zero] at hc2'
                simp only [if_true, List.nil_append, List.length_nil] at HOT holen
                have hp0 : decide ((0 : Int) < ((0 : Nat) : Int)) = false := rfl
                go_wp2_with fail
                refine (contains_is fl sep c HC.out hc2 true HAN.out (by omega) _).mono ?_
                rintro e w2 ⟨rfl, hbc⟩
                have HI2 := Lib.hid (HI1.out.still (by exact hbc))
                clear hbc
                go_wp2_with fail
                refine (replace_is fl (by omega) _ (by obtain ⟨m, hm⟩ := HM.out; exact ⟨m, HI2.out.cell HK.out hm⟩)).mono ?_
                rintro e w3 ⟨rfl, hbc⟩
                have HI3 := Lib.hid (HI2.out.still (by exact hbc))
                clear hbc
                have hes : (ba (Csv.esc fl)).size = (Csv.esc fl).length := by show (Csv.esc fl).toArray.size = _; simp
                have hes2 := esc_len fl
                go_wp2_with fail
                refine (Tryd.Builder_WriteString_k K K (Lib.byteCells (o)) _ _ (by exact HI3.out.bld) (by rw [Lib.byteCells_length, ByteArray.size_append, ByteArray.size_append, hes, show ({ data := #[34] } : ByteArray).size = 1 from rfl]; first | omega | (simp only [List.length_append, List.length_cons, List.length_nil]; omega)) (by exact Nat.le_of_lt HI3.out.size)).mono ?_
                rintro e w4 ⟨rfl, hbw, hbel2, _⟩
                have HI4 := Lib.hid (HI3.out.wrote (b := 34 :: (Csv.esc fl ++ [34])) (.inr (by have e0 : Lib.strCells ({ data := #[34] } ++ ba (Csv.esc fl) ++ { data := #[34] }) = Lib.byteCells (34 :: (Csv.esc fl ++ [34])) := strCells_quoted _; rw [e0] at hbw; exact hbw)) hbel2 rfl)
                clear hbw hbel2
                go_wp2
                go_roundg (gk - 1)
                case measure => omega
                case rel => exact ⟨1, o ++ (34 :: (Csv.esc fl ++ [34])), by omega, by go_num, HI4.out, by rw [← HOT.out]; simp only [List.append_assoc, Nat.zero_add]⟩
              · simp only [hj0, if_false] at HOT holen
                have hp0 : decide ((0 : Int) < (j : Int)) = true := decide_eq_true (by omega)
                have hp1 : decide (0 < j) = true := decide_eq_true (by omega)
                simp only [List.length_cons, List.length_nil, List.length_append] at holen
                go_wp2_with fail
                refine (Tryd.Builder_WriteByte_k K K (Lib.byteCells o) sep _ (by exact HI1.out.bld) (by rw [Lib.byteCells_length]; omega) (by exact Nat.le_of_lt HI1.out.size)).mono ?_
                rintro e w2 ⟨rfl, hb2, hbel2, _⟩
                have HI2 := Lib.hid (HI1.out.wrote (b := [c]) (.inr (by rw [HC.out.num] at hb2; exact hb2)) hbel2 rfl)
                clear hb2 hbel2
                go_wp2_with fail
                refine (contains_is fl sep c HC.out hc2 true HAN.out (by omega) _).mono ?_
                rintro e w3 ⟨rfl, hbc⟩
                have HI3 := Lib.hid (HI2.out.still (by exact hbc))
                clear hbc
                go_wp2_with fail
                refine (replace_is fl (by omega) _ (by obtain ⟨m, hm⟩ := HM.out; exact ⟨m, HI3.out.cell HK.out hm⟩)).mono ?_
                rintro e w4 ⟨rfl, hbc⟩
                have HI4 := Lib.hid (HI3.out.still (by exact hbc))
                clear hbc
                have hes : (ba (Csv.esc fl)).size = (Csv.esc fl).length := by show (Csv.esc fl).toArray.size = _; simp
                have hes2 := esc_len fl
                go_wp2_with fail
                refine (Tryd.Builder_WriteString_k K K (Lib.byteCells (o ++ [c])) _ _ (by exact HI4.out.bld) (by rw [Lib.byteCells_length, ByteArray.size_append, ByteArray.size_append, hes, show ({ data := #[34] } : ByteArray).size = 1 from rfl]; first | omega | (simp only [List.length_append, List.length_cons, List.length_nil]; omega)) (by exact Nat.le_of_lt HI4.out.size)).mono ?_
                rintro e w5 ⟨rfl, hbw, hbel2, _⟩
                have HI5 := Lib.hid (HI4.out.wrote (b := 34 :: (Csv.esc fl ++ [34])) (.inr (by have e0 : Lib.strCells ({ data := #[34] } ++ ba (Csv.esc fl) ++ { data := #[34] }) = Lib.byteCells (34 :: (Csv.esc fl ++ [34])) := strCells_quoted _; rw [e0] at hbw; exact hbw)) hbel2 rfl)
                clear hbw hbel2
                go_wp2
                go_roundg (gk - 1)
                case measure => omega
                case rel => exact ⟨j + 1, o ++ [c] ++ (34 :: (Csv.esc fl ++ [34])), by omega, by go_num, HI5.out, by rw [← HOT.out]; simp only [List.append_assoc, Nat.zero_add]⟩
            | false =>
              by_cases hne : fl = []
              · have hie : fl.isEmpty = true := by rw [hne]; rfl
                have hem : (ba fl).toList.isEmpty = true := by rw [hne, Lib.toList_data]; rfl
                clear hne
                by_cases h1 : row.length = 1
                · have hn1 : (row.length == 1) = true := by rw [beq_iff_eq]; exact h1
                  have hi1 : ((row.length : Int) == 1) = true := by rw [beq_iff_eq]; omega
                  clear h1
                  have hmu : Csv.must c row.length fl = true := by unfold Csv.must; rw [han, hie, hn1]; rfl
                  have HAN := Lib.hid han; clear han
                  simp only [Csv.fieldOut, hmu, if_true, List.length_append, List.length_cons, List.length_nil] at HOT holen hfl1
                  clear hmu
                  by_cases hj0 : j = 0
                  · subst hj0
                    rw [Nat.add_zero] at hc2'
                    simp only [if_true, List.nil_append, List.length_nil] at HOT holen
                    have hp0 : decide ((0 : Int) < ((0 : Nat) : Int)) = false := rfl
                    go_wp2_with fail
                    refine (contains_is fl sep c HC.out hc2 false HAN.out (by omega) _).mono ?_
                    rintro e w2 ⟨rfl, hbc⟩
                    have HI2 := Lib.hid (HI1.out.still (by exact hbc))
                    clear hbc
                    go_wp2_with fail
                    refine (replace_is fl (by omega) _ (by obtain ⟨m, hm⟩ := HM.out; exact ⟨m, HI2.out.cell HK.out hm⟩)).mono ?_
                    rintro e w3 ⟨rfl, hbc⟩
                    have HI3 := Lib.hid (HI2.out.still (by exact hbc))
                    clear hbc
                    have hes : (ba (Csv.esc fl)).size = (Csv.esc fl).length := by show (Csv.esc fl).toArray.size = _; simp
                    have hes2 := esc_len fl
                    go_wp2_with fail
                    refine (Tryd.Builder_WriteString_k K K (Lib.byteCells (o)) _ _ (by exact HI3.out.bld) (by rw [Lib.byteCells_length, ByteArray.size_append, ByteArray.size_append, hes, show ({ data := #[34] } : ByteArray).size = 1 from rfl]; first | omega | (simp only [List.length_append, List.length_cons, List.length_nil]; omega)) (by exact Nat.le_of_lt HI3.out.size)).mono ?_
                    rintro e w4 ⟨rfl, hbw, hbel2, _⟩
                    have HI4 := Lib.hid (HI3.out.wrote (b := 34 :: (Csv.esc fl ++ [34])) (.inr (by have e0 : Lib.strCells ({ data := #[34] } ++ ba (Csv.esc fl) ++ { data := #[34] }) = Lib.byteCells (34 :: (Csv.esc fl ++ [34])) := strCells_quoted _; rw [e0] at hbw; exact hbw)) hbel2 rfl)
                    clear hbw hbel2
                    go_wp2
                    go_roundg (gk - 1)
                    case measure => omega
                    case rel => exact ⟨1, o ++ (34 :: (Csv.esc fl ++ [34])), by omega, by go_num, HI4.out, by rw [← HOT.out]; simp only [List.append_assoc, Nat.zero_add]⟩
                  · simp only [hj0, if_false] at HOT holen
                    have hp0 : decide ((0 : Int) < (j : Int)) = true := decide_eq_true (by omega)
                    have hp1 : decide (0 < j) = true := decide_eq_true (by omega)
                    simp only [List.length_cons, List.length_nil, List.length_append] at holen
                    go_wp2_with fail
                    refine (Tryd.Builder_WriteByte_k K K (Lib.byteCells o) sep _ (by exact HI1.out.bld) (by rw [Lib.byteCells_length]; omega) (by exact Nat.le_of_lt HI1.out.size)).mono ?_
                    rintro e w2 ⟨rfl, hb2, hbel2, _⟩
                    have HI2 := Lib.hid (HI1.out.wrote (b := [c]) (.inr (by rw [HC.out.num] at hb2; exact hb2)) hbel2 rfl)
                    clear hb2 hbel2
                    go_wp2_with fail
                    refine (contains_is fl sep c HC.out hc2 false HAN.out (by omega) _).mono ?_
                    rintro e w3 ⟨rfl, hbc⟩
                    have HI3 := Lib.hid (HI2.out.still (by exact hbc))
                    clear hbc
                    go_wp2_with fail
                    refine (replace_is fl (by omega) _ (by obtain ⟨m, hm⟩ := HM.out; exact ⟨m, HI3.out.cell HK.out hm⟩)).mono ?_
                    rintro e w4 ⟨rfl, hbc⟩
                    have HI4 := Lib.hid (HI3.out.still (by exact hbc))
                    clear hbc
                    have hes : (ba (Csv.esc fl)).size = (Csv.esc fl).length := by show (Csv.esc fl).toArray.size = _; simp
                    have hes2 := esc_len fl
                    go_wp2_with fail
                    refine (Tryd.Builder_WriteString_k K K (Lib.byteCells (o ++ [c])) _ _ (by exact HI4.out.bld) (by rw [Lib.byteCells_length, ByteArray.size_append, ByteArray.size_append, hes, show ({ data := #[34] } : ByteArray).size = 1 from rfl]; first | omega | (simp only [List.length_append, List.length_cons, List.length_nil]; omega)) (by exact Nat.le_of_lt HI4.out.size)).mono ?_
                    rintro e w5 ⟨rfl, hbw, hbel2, _⟩
                    have HI5 := Lib.hid (HI4.out.wrote (b := 34 :: (Csv.esc fl ++ [34])) (.inr (by have e0 : Lib.strCells ({ data := #[34] } ++ ba (Csv.esc fl) ++ { data := #[34] }) = Lib.byteCells (34 :: (Csv.esc fl ++ [34])) := strCells_quoted _; rw [e0] at hbw; exact hbw)) hbel2 rfl)
                    clear hbw hbel2
                    go_wp2
                    go_roundg (gk - 1)
                    case measure => omega
                    case rel => exact ⟨j + 1, o ++ [c] ++ (34 :: (Csv.esc fl ++ [34])), by omega, by go_num, HI5.out, by rw [← HOT.out]; simp only [List.append_assoc, Nat.zero_add]⟩
                · have hn1 : (row.length == 1) = false := by rw [beq_eq_false_iff_ne]; exact h1
                  have hi1 : ((row.length : Int) == 1) = false := by rw [beq_eq_false_iff_ne]; omega
                  clear h1
                  have hmu : Csv.must c row.length fl = false := by unfold Csv.must; rw [han, hie, hn1]; rfl
                  have HAN := Lib.hid han; clear han
                  simp only [Csv.fieldOut, hmu, Bool.false_eq_true, if_false, List.length_append, List.length_cons, List.length_nil] at HOT holen hfl1
                  clear hmu
                  by_cases hj0 : j = 0
                  · subst hj0
                    rw [Nat.add_zero] at hc2'
                    simp only [if_true, List.nil_append, List.length_nil] at HOT holen
                    have hp0 : decide ((0 : Int) < ((0 : Nat) : Int)) = false := rfl
                    go_wp2_with fail
                    refine (contains_is fl sep c HC.out hc2 false HAN.out (by omega) _).mono ?_
                    rintro e w2 ⟨rfl, hbc⟩
                    have HI2 := Lib.hid (HI1.out.still (by exact hbc))
                    clear hbc
                    go_wp2_with fail
                    refine (Tryd.Builder_WriteString_k K K (Lib.byteCells (o)) _ _ (by exact HI2.out.bld) (by rw [Lib.byteCells_length, hfs]; first | omega | (simp; omega)) (by exact Nat.le_of_lt HI2.out.size)).mono ?_
                    rintro e w3 ⟨rfl, hbw, hbel2, _⟩
                    have HI3 := Lib.hid (HI2.out.wrote (b := fl) (.inr hbw) hbel2 rfl)
                    clear hbw hbel2
                    go_wp2
                    go_roundg (gk - 1)
                    case measure => omega
                    case rel => exact ⟨1, o ++ fl, by omega, by go_num, HI3.out, by rw [← HOT.out]; simp only [List.append_assoc, Nat.zero_add]⟩
                  · simp only [hj0, if_false] at HOT holen
                    have hp0 : decide ((0 : Int) < (j : Int)) = true := decide_eq_true (by omega)
                    have hp1 : decide (0 < j) = true := decide_eq_true (by omega)
                    simp only [List.length_cons, List.length_nil, List.length_append] at holen
                    go_wp2_with fail
                    refine (Tryd.Builder_WriteByte_k K K (Lib.byteCells o) sep _ (by exact HI1.out.bld) (by rw [Lib.byteCells_length]; omega) (by exact Nat.le_of_lt HI1.out.size)).mono ?_
                    rintro e w2 ⟨rfl, hb2, hbel2, _⟩
                    have HI2 := Lib.hid (HI1.out.wrote (b := [c]) (.inr (by rw [HC.out.num] at hb2; exact hb2)) hbel2 rfl)
                    clear hb2 hbel2
                    go_wp2_with fail
                    refine (contains_is fl sep c HC.out hc2 false HAN.out (by omega) _).mono ?_
                    rintro e w3 ⟨rfl, hbc⟩
                    have HI3 := Lib.hid (HI2.out.still (by exact hbc))
                    clear hbc
                    go_wp2_with fail
                    refine (Tryd.Builder_WriteString_k K K (Lib.byteCells (o ++ [c])) _ _ (by exact HI3.out.bld) (by rw [Lib.byteCells_length, hfs]; first | omega | (simp; omega)) (by exact Nat.le_of_lt HI3.out.size)).mono ?_
                    rintro e w4 ⟨rfl, hbw, hbel2, _⟩
                    have HI4 := Lib.hid (HI3.out.wrote (b := fl) (.inr hbw) hbel2 rfl)
                    clear hbw hbel2
                    go_wp2
                    go_roundg (gk - 1)
                    case measure => omega
                    case rel => exact ⟨j + 1, o ++ [c] ++ fl, by omega, by go_num, HI4.out, by rw [← HOT.out]; simp only [List.append_assoc, Nat.zero_add]⟩
              · have hie : fl.isEmpty = false := by cases fl with
                  | nil => exact absurd rfl hne
                  | cons _ _ => rfl
                have hem : (ba fl).toList.isEmpty = false := by rw [Lib.toList_data]; exact hie
                clear hne
                have hmu : Csv.must c row.length fl = false := by unfold Csv.must; rw [han, hie]; rfl
                have HAN := Lib.hid han; clear han
                simp only [Csv.fieldOut, hmu, Bool.false_eq_true, if_false, List.length_append, List.length_cons, List.length_nil] at HOT holen hfl1
                clear hmu
                by_cases hj0 : j = 0
                · subst hj0
                  rw [Nat.add_zero] at hc2'
                  simp only [if_true, List.nil_append, List.length_nil] at HOT holen
                  have hp0 : decide ((0 : Int) < ((0 : Nat) : Int)) = false := rfl
                  go_wp2_with fail
                  refine (contains_is fl sep c HC.out hc2 false HAN.out (by omega) _).mono ?_
                  rintro e w2 ⟨rfl, hbc⟩
                  have HI2 := Lib.hid (HI1.out.still (by exact hbc))
                  clear hbc
                  go_wp2_with fail
                  refine (Tryd.Builder_WriteString_k K K (Lib.byteCells (o)) _ _ (by exact HI2.out.bld) (by rw [Lib.byteCells_length, hfs]; first | omega | (simp; omega)) (by exact Nat.le_of_lt HI2.out.size)).mono ?_
                  rintro e w3 ⟨rfl, hbw, hbel2, _⟩
                  have HI3 := Lib.hid (HI2.out.wrote (b := fl) (.inr hbw) hbel2 rfl)
                  clear hbw hbel2
                  go_wp2
                  go_roundg (gk - 1)
                  case measure => omega
                  case rel => exact ⟨1, o ++ fl, by omega, by go_num, HI3.out, by rw [← HOT.out]; simp only [List.append_assoc, Nat.zero_add]⟩
                · simp only [hj0, if_false] at HOT holen
                  have hp0 : decide ((0 : Int) < (j : Int)) = true := decide_eq_true (by omega)
                  have hp1 : decide (0 < j) = true := decide_eq_true (by omega)
                  simp only [List.length_cons, List.length_nil, List.length_append] at holen
                  go_wp2_with fail
                  refine (Tryd.Builder_WriteByte_k K K (Lib.byteCells o) sep _ (by exact HI1.out.bld) (by rw [Lib.byteCells_length]; omega) (by exact Nat.le_of_lt HI1.out.size)).mono ?_
                  rintro e w2 ⟨rfl, hb2, hbel2, _⟩
                  have HI2 := Lib.hid (HI1.out.wrote (b := [c]) (.inr (by rw [HC.out.num] at hb2; exact hb2)) hbel2 rfl)
                  clear hb2 hbel2
                  go_wp2_with fail
                  refine (contains_is fl sep c HC.out hc2 false HAN.out (by omega) _).mono ?_
                  rintro e w3 ⟨rfl, hbc⟩
                  have HI3 := Lib.hid (HI2.out.still (by exact hbc))
                  clear hbc
                  go_wp2_with fail
                  refine (Tryd.Builder_WriteString_k K K (Lib.byteCells (o ++ [c])) _ _ (by exact HI3.out.bld) (by rw [Lib.byteCells_length, hfs]; first | omega | (simp; omega)) (by exact Nat.le_of_lt HI3.out.size)).mono ?_
                  rintro e w4 ⟨rfl, hbw, hbel2, _⟩
                  have HI4 := Lib.hid (HI3.out.wrote (b := fl) (.inr hbw) hbel2 rfl)
                  clear hbw hbel2
                  go_wp2
                  go_roundg (gk - 1)
                  case measure => omega
                  case rel => exact ⟨j + 1, o ++ [c] ++ fl, by omega, by go_num, HI4.out, by rw [← HOT.out]; simp only [List.append_assoc, Nat.zero_add]⟩
          · have hltb2 : decide ((j : Int) < (row.length : Int)) = false := decide_eq_false (by omega)
            have hltn2 : decide (j < row.length) = false := decide_eq_false hltj
            have hjr : j = row.length := by omega
            rw [hjr, List.drop_length] at hout
            simp only [Csv.cellsOut, List.append_nil] at hout
            subst hout
            go_wp2_with fail
            refine (Tryd.Builder_WriteByte_k K K (Lib.byteCells o) 10 _ (by exact HI1.out.bld) (by rw [Lib.byteCells_length]; omega) (by exact Nat.le_of_lt HI1.out.size)).mono ?_
            rintro e w2 ⟨rfl, hb2, hbel2, _⟩
            have HI2 := Lib.hid (HI1.out.wrote (b := [10]) (.inr hb2) hbel2 rfl)
            clear hb2 hbel2
            go_wp2
            go_roundg (gkO - 1)
            case measure => omega
            case rel => exact ⟨i + 1, o ++ [10], by omega, by go_num, HI2.out, by simpa using HT2.out, HBD2.out⟩
    · have hltb : decide ((i : Int) < (rows.length : Int)) = false := decide_eq_false (by omega)
      have hltn : decide (i < rows.length) = false := decide_eq_false hlt
      have hin : i = rows.length := by omega
      have ht := HT.out
      have hbd := HBD.out
      rw [hin, List.drop_length] at ht hbd
      simp only [Csv.printOut, List.flatMap_nil, List.append_nil, List.any_nil] at ht hbd
      subst ht
      subst hbd
      clear hin
      go_wp2_with fail
      refine (Tryd.Builder_String_any_k K K out _ (by exact HI.out.bld) (by exact Nat.le_of_lt HI.out.size)).mono ?_
      rintro e w1 ⟨rfl, _, hbel, _⟩
      have HB1 : Hid (Below K w w1) := HI.out.below.trans hbel
      clear hbel
      go_wp2
      go_ret2
      refine ⟨rfl, ?_⟩
      rw [HK.out]; exact HB1.out
end Go.Proofs.YtjndiielolphgaaDoor
