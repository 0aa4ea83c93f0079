/- The walk of the law CsvPrintMatches: it returns true. Conditions: the rows lie as they came in; what is written has at most 1000000000 bytes; what csv.Print answers is given. -/
import Derived.Test.YtjndiielolphgaaDoorCsvAll
import Derived.Test.YtjndiielolphgaaDoorCsvPrint
import Derived.Test.YtjndiielolphgaaDoorCsvFields
import Derived.Test.YtjndiielolphgaaDoorCsvImportLaw1
namespace Go.Proofs.YtjndiielolphgaaDoor
open Go.RowKit

theorem ba_add (a b : Csv.Bytes) : ba a ++ ba b = ba (a ++ b) := by
  apply ByteArray.ext
  apply Array.ext'
  rw [ByteArray.data_append, Array.toList_append]; simp [ba]
theorem ba_size (a : Csv.Bytes) : (ba a).size = a.length := by show a.toArray.size = _; simp
theorem ba_at (f : Csv.Bytes) (k : Nat) (h : k < f.length) (h' : k < (ba f).size) : (ba f)[k]'h' = f[k] := rfl
theorem ba_piece (f : Csv.Bytes) (k : Nat) (h : k < f.length) : (ba f).extract k (k + 1) = ba [f[k]] := by
  apply ByteArray.ext
  apply Array.ext'
  rw [Lib.extract_data]
  have : (ba f).data.toList = f := rfl
  rw [this, List.drop_eq_getElem_cons h, Nat.add_sub_cancel_left]
  rfl
theorem esc_cons (c : UInt8) (l : Csv.Bytes) : Csv.esc (c :: l) = (if c = 34 then [34, 34] else [c]) ++ Csv.esc l := by
  simp only [Csv.esc]; split <;> rfl
theorem esc_step (f : Csv.Bytes) (k : Nat) (h : k < f.length) (h' : k < (ba f).size) : ∃ y : UInt8, (ba f)[k]'h' = y ∧ (ba f).extract k (k + 1) = ba [y] ∧ Csv.esc (f.drop k) = (if y = 34 then [34, 34] else [y]) ++ Csv.esc (f.drop (k + 1)) :=
  ⟨f[k], rfl, ba_piece f k h, by rw [List.drop_eq_getElem_cons h]; exact esc_cons _ _⟩

theorem conv_one (w : World) (sep : Int) (c : UInt8) (hc : sep = c.toNat) :
    (convert 48 9 (.slice (some ⟨w.heap.size, 0, none⟩) 1 1)).run Tryd.prog (w.alloc (.cells #[.int .u8 sep] 5)) = .ok (.string (ba [c])) (w.alloc (.cells #[.int .u8 sep] 5)) := by
  have h := run_convert_bytes_arg (P := Tryd.prog) (w.alloc (.cells #[.int .u8 sep] 5)) 48 5 Tryd.underlying48 Tryd.underlying5 w.heap.size 0 1 1 [sep] rfl (fun i hi => by
    obtain rfl : i = 0 := by omega
    exact Lib.cell_of_heap (heap_alloc_new _ _) 0) 9 Tryd.underlying9
  rw [h]
  subst hc
  have e : strOfNums [((c.toNat : Nat) : Int)] = ba [c] := by simp [strOfNums, ba]
  rw [e]

theorem all_not_any (p : UInt8 → Bool) : ∀ l : List UInt8, (l.all fun b => !p b) = !l.any p
  | [] => rfl
  | b :: l => by
    have := all_not_any p l
    simp only [List.all_cons, List.any_cons, this, Bool.not_or]

set_option maxHeartbeats 8000000 in
set_option maxRecDepth 100000 in
theorem printlaw_ok (v : Value) (rows : List (List Csv.Bytes)) (sep : Int) (c : UInt8) (w : World) (hc : sep = c.toNat) (hrows : RowsAt w v rows)
    (hlen : (Csv.printOut c rows).length ≤ 1000000000) (hrl : rows.length ≤ 1000000000) (hrs : ∀ r ∈ rows, r.length ≤ 1000000000) (S : Csv.Bytes) (E WANT : Int)
    (hp : ∀ w1 : World, Below w.heap.size w w1 → Calls Tryd.prog 13 #[v, .int .u8 sep] w1 fun e w' => e = .returned (.tuple #[.string (ba S), .int .i64 E]) ∧ Below w1.heap.size w1 w')
    (hsb : isSep sep = true) (hw : (if (0 : Int) = 0 then (if rows.any List.isEmpty then 4 else 0) else 0) = WANT) (hend : WANT ≠ 0 → S = [] ∧ E = WANT) (hend0 : WANT = 0 → E = 0 ∧ S = Csv.printOut c rows) :
    Calls Tryd.prog 4 #[v, .int .u8 sep] w fun e w' => e = .returned (.bool true) ∧ Below w.heap.size w w' := by
  have HC := Lib.hid hc; clear hc
  have HS := Lib.hid hsb; clear hsb
  have HP := Lib.hid hp; clear hp
  have HRS := Lib.hid hrs; clear hrs
  obtain ⟨OUT, hO⟩ : ∃ OUT, Csv.printOut c rows = OUT := ⟨_, rfl⟩
  rw [hO] at hlen hend0
  have HE := Lib.hid hend; clear hend
  have HE0 := Lib.hid hend0; clear hend0
  have HO := Lib.hid hO; clear hO
  have HW0 := Lib.hid hw; clear hw
  obtain ⟨A0, C0, rfl, hcells⟩ := hrows
  have HR := Lib.hid hcells; clear hcells
  obtain ⟨B, hB⟩ : ∃ B, w.heap.size = B := ⟨_, rfl⟩
  have HB := Lib.hid hB
  have em0 : (ba []).toList.isEmpty = true := by rw [Lib.toList_data]; rfl
  go_enter Tryd.func4, Tryd.ntmps4
  go_wp2_with fail
  refine (fields_true _).mono ?_
  rintro e w1 ⟨rfl, hb⟩
  have hcell1 : w1.cell? ⟨B, 0, none⟩ = some (.int .u8 sep) := by
    refine (hb.cell (p := ⟨B, 0, none⟩) (by simp; omega)).trans ?_
    rw [← HB.out]; exact Lib.cell_of_heap (heap_alloc_new _ _) 0
  have hbw : Below w.heap.size w w1 := ((Below.refl _ _).alloc (Nat.le_refl _) _).trans (hb.mono (by simp))
  have hsz1 : B < w1.heap.size := cell_lt hcell1
  have HB1 := Lib.hid hbw; clear hbw hb
  go_wp2_with fail
  refine (HP.out _ HB1.out).mono ?_
  rintro e w2 ⟨rfl, hb2⟩
  have hcell2 := cell_below hcell1 hb2
  have HB2 : Hid (Below w.heap.size w w2) := below_chain HB1.out hb2
  have hsz2 : B < w2.heap.size := cell_lt hcell2
  clear hb2 hcell1 hsz1
  have HCL := Lib.hid hcell2
  obtain ⟨H, hH⟩ : ∃ H, w2.heap.size = H := ⟨_, rfl⟩
  have HH := Lib.hid hH
  rw [hH] at hsz2
  clear hH
  go_wp2_with (go_at_call 9; refine (lawSep_any _ _).mono ?_; rintro e w' ⟨rfl, hw⟩; rw [hw, HS.out])
  go_loopg [7, 8, 28] rows.length (fun g v7 v8 v28 wx => ∃ (i : Nat) (out : Csv.Bytes) (m : Int), i + g = rows.length ∧ v28 = .int .i64 i ∧ v7 = .int .i64 m ∧ v8 = .string (ba out) ∧ (m = 0 ∨ m = 1 ∨ m = 4) ∧ Below H w2 wx ∧ out ++ Csv.printOut c (rows.drop i) = OUT ∧ (if m = 0 then (if (rows.drop i).any List.isEmpty then 4 else 0) else m) = WANT)
  case atStart => exact ⟨0, [], 0, by omega, rfl, rfl, rfl, by decide, Below.refl _ _, by simpa using HO.out, by simpa using HW0.out⟩
  case round =>
    obtain ⟨i, out, m, hi, rfl, rfl, rfl, hm, hbel, hout, hwant⟩ := hrel
    have HI := Lib.hid hbel; clear hbel
    have HT := Lib.hid hout; clear hout
    have HM := Lib.hid hm; clear hm
    have HWN := Lib.hid hwant; clear hwant
    clear hcell2
    have hcs : wr.cell? ⟨B, 0, none⟩ = some (.int .u8 sep) := (HI.out.cell (p := ⟨B, 0, none⟩) hsz2).trans HCL.out
    by_cases hlt : i < rows.length
    · have hltb : decide ((i : Int) < (rows.length : Int)) = true := decide_eq_true (by omega)
      have hltn : decide (i < rows.length) = true := decide_eq_true hlt
      obtain ⟨b1, o1, u, rfl, hcu, hstr⟩ := HR.out i hlt
      have hcw2 : Hid (Below w.heap.size w wr) := HB2.out.trans (HI.out.mono (by rw [HB.out]; omega))
      have hc1 : wr.cell? ⟨b1, o1 + i, none⟩ = some u := cell_below hcu hcw2.out
      have hdr : rows.drop i = rows[i] :: rows.drop (i + 1) := List.drop_eq_getElem_cons hlt
      have hrw := HRS.out rows[i] (List.getElem_mem hlt)
      obtain ⟨row, hrow⟩ : ∃ row, rows[i] = row := ⟨_, rfl⟩
      rw [hrow] at hstr hdr hrw
      clear hrow hcu
      obtain ⟨A1, C1, rfl, hstrc⟩ := hstr
      have HW := Lib.hid hstrc; clear hstrc
      have HDR := Lib.hid hdr; clear hdr
      obtain ⟨O1, hO1⟩ : ∃ O1, out ++ Csv.cellsOut c row.length 0 row = O1 := ⟨_, rfl⟩
      have hT2 : O1 ++ 10 :: Csv.printOut c (rows.drop (i + 1)) = OUT := by
        have h := HT.out
        rw [HDR.out] at h
        rw [← hO1, ← h]
        simp [Csv.printOut, Csv.rowOut]
      have hO1l : O1.length + 1 ≤ OUT.length := by rw [← hT2]; simp
      have HT2 := Lib.hid hT2; clear hT2
      have HO1 := Lib.hid hO1; clear hO1
      obtain ⟨gkO, rfl⟩ : ∃ g : Nat, g = gk := ⟨_, rfl⟩
      by_cases hemp : row = []
      · subst hemp
        have hO1e : out = O1 := by have := HO1.out; simpa [Csv.cellsOut] using this
        have HOE := Lib.hid hO1e; clear hO1e
        have n10 : ¬ 9223372036854775807 < (ba out).size + 1 := by rw [ba_size, HOE.out]; omega
        by_cases hm0 : m = 0
        · subst hm0
          have hwe : WANT = 4 := by
            have h := HWN.out
            rw [HDR.out] at h
            simpa using h.symm
          have HWE := Lib.hid hwe; clear hwe
          go_wp2
          refine wp_loop_rounds 1 ?_
          rw [rounds_succ]
          go_wp2
          go_roundg (gkO - 1)
          case measure => omega
          case rel => exact ⟨i + 1, O1 ++ [10], 4, by omega, by go_num, rfl, by rw [← ba_add, HOE.out]; rfl, by decide, HI.out, by simpa using HT2.out, by rw [HWE.out]; rfl⟩
        · have hm1 : (m == 0) = false := by rw [beq_eq_false_iff_ne]; exact hm0
          have HMN : Hid (¬ m = 0) := hm0
          clear hm0
          go_wp2
          refine wp_loop_rounds 1 ?_
          rw [rounds_succ]
          go_wp2
          go_roundg (gkO - 1)
          case measure => omega
          case rel => exact ⟨i + 1, O1 ++ [10], m, by omega, by go_num, rfl, by rw [← ba_add, HOE.out]; rfl, HM.out, HI.out, by simpa using HT2.out, by have h := HWN.out; rw [if_neg HMN.out] at h ⊢; exact h⟩
      · have hz : ¬ (row.length = 0) := fun h => hemp (List.eq_nil_of_length_eq_zero h)
        have hzb : ((row.length : Int) == 0) = false := by rw [beq_eq_false_iff_ne]; omega
        have hzn : (row.length == 0) = false := by rw [beq_eq_false_iff_ne]; exact hz
        have hwn2 : (if m = 0 then (if (rows.drop (i + 1)).any List.isEmpty then 4 else 0) else m) = WANT := by
          have h := HWN.out
          rw [HDR.out, List.any_cons] at h
          have he : row.isEmpty = false := by cases row with
            | nil => exact absurd rfl hemp
            | cons _ _ => rfl
          rw [he, Bool.false_or] at h; exact h
        have HWN2 := Lib.hid hwn2; clear hwn2
        clear hemp
        go_wp2
        go_loopg [8, 41] row.length (fun g v8 v41 wx => ∃ (j : Nat) (o : Csv.Bytes), j + g = row.length ∧ v41 = .int .i64 j ∧ v8 = .string (ba o) ∧ Below H w2 wx ∧ o ++ Csv.cellsOut c row.length j (row.drop j) = O1)
        case atStart => exact ⟨0, out, by omega, rfl, rfl, HI.out, by simpa using HO1.out⟩
        case round =>
          obtain ⟨j, o, hj, rfl, rfl, hbel, hout⟩ := hrel
          have HI1 := Lib.hid hbel; clear hbel
          clear hcs
          have hcs : wr.cell? ⟨B, 0, none⟩ = some (.int .u8 sep) := (HI1.out.cell (p := ⟨B, 0, none⟩) hsz2).trans HCL.out
          by_cases hltj : j < row.length
          · have hltb2 : decide ((j : Int) < (row.length : Int)) = true := decide_eq_true (by omega)
            have hltn2 : decide (j < row.length) = true := decide_eq_true hltj
            obtain ⟨b2, o2, rfl, hcf⟩ := HW.out j hltj
            have hcw3 : Hid (Below w.heap.size w wr) := HB2.out.trans (HI1.out.mono (by rw [HB.out]; omega))
            have hc2' : wr.cell? ⟨b2, o2 + j, none⟩ = some (.string (ba row[j])) := cell_below hcf hcw3.out
            clear hcf hcw3
            obtain ⟨fl, hfl⟩ : ∃ fl, row[j] = fl := ⟨_, rfl⟩
            rw [List.drop_eq_getElem_cons hltj, hfl] at hout
            rw [hfl] at hc2'
            clear hfl
            simp only [Csv.cellsOut] at hout
            have holen := congrArg List.length hout
            simp only [List.length_append] at holen
            have HOT := Lib.hid hout; clear hout
            have hfs : (ba fl).size = fl.length := ba_size fl
            have hfl1 : fl.length ≤ (Csv.fieldOut c row.length fl).length := by unfold Csv.fieldOut; split <;> simp <;> (have := len_esc fl; omega)
            have hes2 := len_esc fl
            cases han : fl.any (Csv.stop c) with
            | true =>
              have hmu : Csv.must c row.length fl = true := by unfold Csv.must; rw [han]; rfl
              have HAN := Lib.hid han; clear han
              simp only [Csv.fieldOut, hmu, if_true, List.length_append, List.length_cons, List.length_nil] at HOT holen hfl1
              clear hmu
              by_cases hj0 : j = 0
              · subst hj0
                rw [Nat.add_zero] at hc2'
                simp only [if_true, List.nil_append, List.length_nil] at HOT holen
                have hp0 : decide ((0 : Int) < ((0 : Nat) : Int)) = false := rfl
                go_wp2_with fail
                refine (all_any (ba fl) sep c B _ (by rw [ba_size]; omega) (by exact hcs) HC.out false (by rw [show (ba fl).data.toList = fl from rfl, all_not_any, HAN.out]; rfl)).mono ?_
                rintro e w4 ⟨rfl, q4, rfl⟩
                go_wp2
                have hol : (o).length + (34 :: (Csv.esc fl ++ [34])).length ≤ O1.length := by simp only [List.length_append, List.length_cons, List.length_nil]; omega
                simp only [List.length_append, List.length_cons, List.length_nil] at hol
                obtain ⟨gkJ, rfl⟩ : ∃ g : Nat, g = gk := ⟨_, rfl⟩
                go_loopg [13, 68] fl.length (fun g v13 v68 wx => ∃ (k : Nat) (x : Csv.Bytes), k + g = fl.length ∧ v68 = .int .i64 k ∧ v13 = .string (ba x) ∧ Below H w2 wx ∧ x ++ Csv.esc (fl.drop k) = 34 :: Csv.esc fl)
                case atStart => exact ⟨0, [34], by omega, rfl, rfl, by first | exact HI1.out | exact below_drewN HI1.out _, by simp⟩
                case round =>
                  obtain ⟨k, x, hk, rfl, rfl, hbel, hx⟩ := hrel
                  have HI3 := Lib.hid hbel; clear hbel
                  have hxl := congrArg List.length hx
                  simp only [List.length_append, List.length_cons] at hxl
                  have HX := Lib.hid hx; clear hx
                  by_cases hltk : k < fl.length
                  · have hltb3 : decide ((k : Int) < (fl.length : Int)) = true := decide_eq_true (by omega)
                    have hltn3 : decide (k < fl.length) = true := decide_eq_true hltk
                    have hltk' : k < (ba fl).size := by rw [ba_size]; exact hltk
                    have hltb4 : decide ((k : Int) < ((ba fl).size : Int)) = true := decide_eq_true (by omega)
                    have hltn4 : decide (k < (ba fl).size) = true := decide_eq_true hltk'
                    have hsz : ((ba fl).extract k (k + 1)).size = 1 := by rw [ByteArray.size_extract]; omega
                    have npx : ¬ 9223372036854775807 < (ba x).size + 1 := by rw [ba_size]; omega
                    have npx2 : ¬ 9223372036854775807 < (ba x).size + 1 + 1 := by rw [ba_size]; omega
                    obtain ⟨y, hy, hpc, hes⟩ := esc_step fl k hltk hltk'
                    have HPC := Lib.hid hpc; clear hpc
                    have hxs := HX.out
                    rw [hes] at hxs
                    clear hes
                    by_cases hq : y = 34
                    · rw [if_pos hq] at hxs
                      have HXS := Lib.hid hxs; clear hxs
                      have hyb2 : ((y.toNat : Int) == 34) = true := by subst hq; rfl
                      have hy34 := hq
                      clear hq
                      go_wp2
                      go_roundg (gk - 1)
                      case measure => omega
                      case rel => exact ⟨k + 1, x ++ [34, 34], by omega, by go_num, by rw [HPC.out, hy34, show ({ data := #[34] } : ByteArray) = ba [34] from rfl, ba_add, ba_add]; simp, by first | exact HI3.out | exact below_drewN HI3.out _, by rw [← HXS.out]; simp⟩
                    · rw [if_neg hq] at hxs
                      have HXS := Lib.hid hxs; clear hxs
                      have hyb2 : ((y.toNat : Int) == 34) = false := by
                        rw [beq_eq_false_iff_ne]; intro h
                        exact hq (UInt8.toNat_inj.1 (by have : (34 : UInt8).toNat = 34 := rfl; omega))
                      clear hq
                      go_wp2
                      go_roundg (gk - 1)
                      case measure => omega
                      case rel => exact ⟨k + 1, x ++ [y], by omega, by go_num, by rw [HPC.out, ba_add], by first | exact HI3.out | exact below_drewN HI3.out _, by rw [← HXS.out]; simp⟩
                  · have hltb3 : decide ((k : Int) < (fl.length : Int)) = false := decide_eq_false (by omega)
                    have hltn3 : decide (k < fl.length) = false := decide_eq_false hltk
                    have hltb4 : decide ((k : Int) < ((ba fl).size : Int)) = false := decide_eq_false (by rw [ba_size]; omega)
                    have hltn4 : decide (k < (ba fl).size) = false := decide_eq_false (by rw [ba_size]; exact hltk)
                    have hke : k = fl.length := by omega
                    have hxe := HX.out
                    rw [hke, List.drop_length] at hxe
                    simp only [Csv.esc, List.append_nil] at hxe
                    subst hxe
                    have npx : ¬ 9223372036854775807 < (ba (34 :: Csv.esc fl)).size + 1 := by rw [ba_size]; simp only [List.length_cons]; omega
                    have npo : ¬ 9223372036854775807 < (ba (o)).size + ((ba (34 :: Csv.esc fl)).size + 1) := by rw [ba_size, ba_size]; simp only [List.length_cons, List.length_append, List.length_nil]; omega
                    go_wp2
                    go_roundg (gkJ - 1)
                    case measure => omega
                    case rel => exact ⟨1, o ++ (34 :: (Csv.esc fl ++ [34])), by omega, by go_num, by rw [show ({ data := #[34] } : ByteArray) = ba [34] from rfl, ba_add, ba_add]; rfl, by first | exact HI3.out | exact below_drewN HI3.out _, by rw [← HOT.out]; simp only [List.append_assoc, Nat.zero_add]⟩
              · simp only [hj0, if_false] at HOT holen
                have hp0 : decide ((0 : Int) < (j : Int)) = true := decide_eq_true (by omega)
                have hp1 : decide (0 < j) = true := decide_eq_true (by omega)
                simp only [List.length_cons, List.length_nil, List.length_append] at holen
                have np1 : ¬ 9223372036854775807 < (ba o).size + 1 := by rw [ba_size]; omega
                have hsc : (ba [c]).size = 1 := rfl
                have hcv := conv_one wr sep c HC.out
                have hHs : H ≤ wr.heap.size := by rw [← HH.out]; exact HI1.out.size
                have HI2 : Hid (Below H w2 (wr.alloc (.cells #[.int .u8 sep] 5))) := HI1.out.alloc hHs _
                clear hHs
                go_wp2_with fail
                refine (all_any (ba fl) sep c B _ (by rw [ba_size]; omega) (by exact cell_below hcs ((Below.refl _ _).alloc (Nat.le_refl _) _)) HC.out false (by rw [show (ba fl).data.toList = fl from rfl, all_not_any, HAN.out]; rfl)).mono ?_
                rintro e w4 ⟨rfl, q4, rfl⟩
                rw [ba_add]
                go_wp2
                have hol : (o ++ [c]).length + (34 :: (Csv.esc fl ++ [34])).length ≤ O1.length := by simp only [List.length_append, List.length_cons, List.length_nil]; omega
                simp only [List.length_append, List.length_cons, List.length_nil] at hol
                obtain ⟨gkJ, rfl⟩ : ∃ g : Nat, g = gk := ⟨_, rfl⟩
                go_loopg [13, 68] fl.length (fun g v13 v68 wx => ∃ (k : Nat) (x : Csv.Bytes), k + g = fl.length ∧ v68 = .int .i64 k ∧ v13 = .string (ba x) ∧ Below H w2 wx ∧ x ++ Csv.esc (fl.drop k) = 34 :: Csv.esc fl)
                case atStart => exact ⟨0, [34], by omega, rfl, rfl, by first | exact HI2.out | exact below_drewN HI2.out _, by simp⟩
                case round =>
                  obtain ⟨k, x, hk, rfl, rfl, hbel, hx⟩ := hrel
                  have HI3 := Lib.hid hbel; clear hbel
                  have hxl := congrArg List.length hx
                  simp only [List.length_append, List.length_cons] at hxl
                  have HX := Lib.hid hx; clear hx
                  by_cases hltk : k < fl.length
                  · have hltb3 : decide ((k : Int) < (fl.length : Int)) = true := decide_eq_true (by omega)
                    have hltn3 : decide (k < fl.length) = true := decide_eq_true hltk
                    have hltk' : k < (ba fl).size := by rw [ba_size]; exact hltk
                    have hltb4 : decide ((k : Int) < ((ba fl).size : Int)) = true := decide_eq_true (by omega)
                    have hltn4 : decide (k < (ba fl).size) = true := decide_eq_true hltk'
                    have hsz : ((ba fl).extract k (k + 1)).size = 1 := by rw [ByteArray.size_extract]; omega
                    have npx : ¬ 9223372036854775807 < (ba x).size + 1 := by rw [ba_size]; omega
                    have npx2 : ¬ 9223372036854775807 < (ba x).size + 1 + 1 := by rw [ba_size]; omega
                    obtain ⟨y, hy, hpc, hes⟩ := esc_step fl k hltk hltk'
                    have HPC := Lib.hid hpc; clear hpc
                    have hxs := HX.out
                    rw [hes] at hxs
                    clear hes
                    by_cases hq : y = 34
                    · rw [if_pos hq] at hxs
                      have HXS := Lib.hid hxs; clear hxs
                      have hyb2 : ((y.toNat : Int) == 34) = true := by subst hq; rfl
                      have hy34 := hq
                      clear hq
                      go_wp2
                      go_roundg (gk - 1)
                      case measure => omega
                      case rel => exact ⟨k + 1, x ++ [34, 34], by omega, by go_num, by rw [HPC.out, hy34, show ({ data := #[34] } : ByteArray) = ba [34] from rfl, ba_add, ba_add]; simp, by first | exact HI3.out | exact below_drewN HI3.out _, by rw [← HXS.out]; simp⟩
                    · rw [if_neg hq] at hxs
                      have HXS := Lib.hid hxs; clear hxs
                      have hyb2 : ((y.toNat : Int) == 34) = false := by
                        rw [beq_eq_false_iff_ne]; intro h
                        exact hq (UInt8.toNat_inj.1 (by have : (34 : UInt8).toNat = 34 := rfl; omega))
                      clear hq
                      go_wp2
                      go_roundg (gk - 1)
                      case measure => omega
                      case rel => exact ⟨k + 1, x ++ [y], by omega, by go_num, by rw [HPC.out, ba_add], by first | exact HI3.out | exact below_drewN HI3.out _, by rw [← HXS.out]; simp⟩
                  · have hltb3 : decide ((k : Int) < (fl.length : Int)) = false := decide_eq_false (by omega)
                    have hltn3 : decide (k < fl.length) = false := decide_eq_false hltk
                    have hltb4 : decide ((k : Int) < ((ba fl).size : Int)) = false := decide_eq_false (by rw [ba_size]; omega)
                    have hltn4 : decide (k < (ba fl).size) = false := decide_eq_false (by rw [ba_size]; exact hltk)
                    have hke : k = fl.length := by omega
                    have hxe := HX.out
                    rw [hke, List.drop_length] at hxe
                    simp only [Csv.esc, List.append_nil] at hxe
                    subst hxe
                    have npx : ¬ 9223372036854775807 < (ba (34 :: Csv.esc fl)).size + 1 := by rw [ba_size]; simp only [List.length_cons]; omega
                    have npo : ¬ 9223372036854775807 < (ba (o ++ [c])).size + ((ba (34 :: Csv.esc fl)).size + 1) := by rw [ba_size, ba_size]; simp only [List.length_cons, List.length_append, List.length_nil]; omega
                    go_wp2
                    go_roundg (gkJ - 1)
                    case measure => omega
                    case rel => exact ⟨j + 1, o ++ [c] ++ (34 :: (Csv.esc fl ++ [34])), by omega, by go_num, by rw [show ({ data := #[34] } : ByteArray) = ba [34] from rfl, ba_add, ba_add]; rfl, by first | exact HI3.out | exact below_drewN HI3.out _, by rw [← HOT.out]; simp only [List.append_assoc, Nat.zero_add]⟩
            | false =>
              by_cases hne : fl = []
              · have hie : fl.isEmpty = true := by rw [hne]; rfl
                have hem : (ba fl).toList.isEmpty = true := by rw [hne, Lib.toList_data]; rfl
                clear hne
                by_cases h1 : row.length = 1
                · have hn1 : (row.length == 1) = true := by rw [beq_iff_eq]; exact h1
                  have hi1 : ((row.length : Int) == 1) = true := by rw [beq_iff_eq]; omega
                  clear h1
                  have hmu : Csv.must c row.length fl = true := by unfold Csv.must; rw [han, hie, hn1]; rfl
                  have HAN := Lib.hid han; clear han
                  simp only [Csv.fieldOut, hmu, if_true, List.length_append, List.length_cons, List.length_nil] at HOT holen hfl1
                  clear hmu
                  by_cases hj0 : j = 0
                  · subst hj0
                    rw [Nat.add_zero] at hc2'
                    simp only [if_true, List.nil_append, List.length_nil] at HOT holen
                    have hp0 : decide ((0 : Int) < ((0 : Nat) : Int)) = false := rfl
                    go_wp2_with fail
                    refine (all_any (ba fl) sep c B _ (by rw [ba_size]; omega) (by exact hcs) HC.out true (by rw [show (ba fl).data.toList = fl from rfl, all_not_any, HAN.out]; rfl)).mono ?_
                    rintro e w4 ⟨rfl, q4, rfl⟩
                    go_wp2
                    have hol : (o).length + (34 :: (Csv.esc fl ++ [34])).length ≤ O1.length := by simp only [List.length_append, List.length_cons, List.length_nil]; omega
                    simp only [List.length_append, List.length_cons, List.length_nil] at hol
                    obtain ⟨gkJ, rfl⟩ : ∃ g : Nat, g = gk := ⟨_, rfl⟩
                    go_loopg [13, 68] fl.length (fun g v13 v68 wx => ∃ (k : Nat) (x : Csv.Bytes), k + g = fl.length ∧ v68 = .int .i64 k ∧ v13 = .string (ba x) ∧ Below H w2 wx ∧ x ++ Csv.esc (fl.drop k) = 34 :: Csv.esc fl)
                    case atStart => exact ⟨0, [34], by omega, rfl, rfl, by first | exact HI1.out | exact below_drewN HI1.out _, by simp⟩
                    case round =>
                      obtain ⟨k, x, hk, rfl, rfl, hbel, hx⟩ := hrel
                      have HI3 := Lib.hid hbel; clear hbel
                      have hxl := congrArg List.length hx
                      simp only [List.length_append, List.length_cons] at hxl
                      have HX := Lib.hid hx; clear hx
                      by_cases hltk : k < fl.length
                      · have hltb3 : decide ((k : Int) < (fl.length : Int)) = true := decide_eq_true (by omega)
                        have hltn3 : decide (k < fl.length) = true := decide_eq_true hltk
                        have hltk' : k < (ba fl).size := by rw [ba_size]; exact hltk
                        have hltb4 : decide ((k : Int) < ((ba fl).size : Int)) = true := decide_eq_true (by omega)
                        have hltn4 : decide (k < (ba fl).size) = true := decide_eq_true hltk'
                        have hsz : ((ba fl).extract k (k + 1)).size = 1 := by rw [ByteArray.size_extract]; omega
                        have npx : ¬ 9223372036854775807 < (ba x).size + 1 := by rw [ba_size]; omega
                        have npx2 : ¬ 9223372036854775807 < (ba x).size + 1 + 1 := by rw [ba_size]; omega
                        obtain ⟨y, hy, hpc, hes⟩ := esc_step fl k hltk hltk'
                        have HPC := Lib.hid hpc; clear hpc
                        have hxs := HX.out
                        rw [hes] at hxs
                        clear hes
                        by_cases hq : y = 34
                        · rw [if_pos hq] at hxs
                          have HXS := Lib.hid hxs; clear hxs
                          have hyb2 : ((y.toNat : Int) == 34) = true := by subst hq; rfl
                          have hy34 := hq
                          clear hq
                          go_wp2
                          go_roundg (gk - 1)
                          case measure => omega
                          case rel => exact ⟨k + 1, x ++ [34, 34], by omega, by go_num, by rw [HPC.out, hy34, show ({ data := #[34] } : ByteArray) = ba [34] from rfl, ba_add, ba_add]; simp, by first | exact HI3.out | exact below_drewN HI3.out _, by rw [← HXS.out]; simp⟩
                        · rw [if_neg hq] at hxs
                          have HXS := Lib.hid hxs; clear hxs
                          have hyb2 : ((y.toNat : Int) == 34) = false := by
                            rw [beq_eq_false_iff_ne]; intro h
                            exact hq (UInt8.toNat_inj.1 (by have : (34 : UInt8).toNat = 34 := rfl; omega))
                          clear hq
                          go_wp2
                          go_roundg (gk - 1)
                          case measure => omega
                          case rel => exact ⟨k + 1, x ++ [y], by omega, by go_num, by rw [HPC.out, ba_add], by first | exact HI3.out | exact below_drewN HI3.out _, by rw [← HXS.out]; simp⟩
                      · have hltb3 : decide ((k : Int) < (fl.length : Int)) = false := decide_eq_false (by omega)
                        have hltn3 : decide (k < fl.length) = false := decide_eq_false hltk
                        have hltb4 : decide ((k : Int) < ((ba fl).size : Int)) = false := decide_eq_false (by rw [ba_size]; omega)
                        have hltn4 : decide (k < (ba fl).size) = false := decide_eq_false (by rw [ba_size]; exact hltk)
                        have hke : k = fl.length := by omega
                        have hxe := HX.out
                        rw [hke, List.drop_length] at hxe
                        simp only [Csv.esc, List.append_nil] at hxe
                        subst hxe
                        have npx : ¬ 9223372036854775807 < (ba (34 :: Csv.esc fl)).size + 1 := by rw [ba_size]; simp only [List.length_cons]; omega
                        have npo : ¬ 9223372036854775807 < (ba (o)).size + ((ba (34 :: Csv.esc fl)).size + 1) := by rw [ba_size, ba_size]; simp only [List.length_cons, List.length_append, List.length_nil]; omega
                        go_wp2
                        go_roundg (gkJ - 1)
                        case measure => omega
                        case rel => exact ⟨1, o ++ (34 :: (Csv.esc fl ++ [34])), by omega, by go_num, by rw [show ({ data := #[34] } : ByteArray) = ba [34] from rfl, ba_add, ba_add]; rfl, by first | exact HI3.out | exact below_drewN HI3.out _, by rw [← HOT.out]; simp only [List.append_assoc, Nat.zero_add]⟩
                  · simp only [hj0, if_false] at HOT holen
                    have hp0 : decide ((0 : Int) < (j : Int)) = true := decide_eq_true (by omega)
                    have hp1 : decide (0 < j) = true := decide_eq_true (by omega)
                    simp only [List.length_cons, List.length_nil, List.length_append] at holen
                    have np1 : ¬ 9223372036854775807 < (ba o).size + 1 := by rw [ba_size]; omega
                    have hsc : (ba [c]).size = 1 := rfl
                    have hcv := conv_one wr sep c HC.out
                    have hHs : H ≤ wr.heap.size := by rw [← HH.out]; exact HI1.out.size
                    have HI2 : Hid (Below H w2 (wr.alloc (.cells #[.int .u8 sep] 5))) := HI1.out.alloc hHs _
                    clear hHs
                    go_wp2_with fail
                    refine (all_any (ba fl) sep c B _ (by rw [ba_size]; omega) (by exact cell_below hcs ((Below.refl _ _).alloc (Nat.le_refl _) _)) HC.out true (by rw [show (ba fl).data.toList = fl from rfl, all_not_any, HAN.out]; rfl)).mono ?_
                    rintro e w4 ⟨rfl, q4, rfl⟩
                    rw [ba_add]
                    go_wp2
                    have hol : (o ++ [c]).length + (34 :: (Csv.esc fl ++ [34])).length ≤ O1.length := by simp only [List.length_append, List.length_cons, List.length_nil]; omega
                    simp only [List.length_append, List.length_cons, List.length_nil] at hol
                    obtain ⟨gkJ, rfl⟩ : ∃ g : Nat, g = gk := ⟨_, rfl⟩
                    go_loopg [13, 68] fl.length (fun g v13 v68 wx => ∃ (k : Nat) (x : Csv.Bytes), k + g = fl.length ∧ v68 = .int .i64 k ∧ v13 = .string (ba x) ∧ Below H w2 wx ∧ x ++ Csv.esc (fl.drop k) = 34 :: Csv.esc fl)
                    case atStart => exact ⟨0, [34], by omega, rfl, rfl, by first | exact HI2.out | exact below_drewN HI2.out _, by simp⟩
                    case round =>
                      obtain ⟨k, x, hk, rfl, rfl, hbel, hx⟩ := hrel
                      have HI3 := Lib.hid hbel; clear hbel
                      have hxl := congrArg List.length hx
                      simp only [List.length_append, List.length_cons] at hxl
                      have HX := Lib.hid hx; clear hx
                      by_cases hltk : k < fl.length
                      · have hltb3 : decide ((k : Int) < (fl.length : Int)) = true := decide_eq_true (by omega)
                        have hltn3 : decide (k < fl.length) = true := decide_eq_true hltk
                        have hltk' : k < (ba fl).size := by rw [ba_size]; exact hltk
                        have hltb4 : decide ((k : Int) < ((ba fl).size : Int)) = true := decide_eq_true (by omega)
                        have hltn4 : decide (k < (ba fl).size) = true := decide_eq_true hltk'
                        have hsz : ((ba fl).extract k (k + 1)).size = 1 := by rw [ByteArray.size_extract]; omega
                        have npx : ¬ 9223372036854775807 < (ba x).size + 1 := by rw [ba_size]; omega
                        have npx2 : ¬ 9223372036854775807 < (ba x).size + 1 + 1 := by rw [ba_size]; omega
                        obtain ⟨y, hy, hpc, hes⟩ := esc_step fl k hltk hltk'
                        have HPC := Lib.hid hpc; clear hpc
                        have hxs := HX.out
                        rw [hes] at hxs
                        clear hes
                        by_cases hq : y = 34
                        · rw [if_pos hq] at hxs
                          have HXS := Lib.hid hxs; clear hxs
                          have hyb2 : ((y.toNat : Int) == 34) = true := by subst hq; rfl
                          have hy34 := hq
                          clear hq
                          go_wp2
                          go_roundg (gk - 1)
                          case measure => omega
                          case rel => exact ⟨k + 1, x ++ [34, 34], by omega, by go_num, by rw [HPC.out, hy34, show ({ data := #[34] } : ByteArray) = ba [34] from rfl, ba_add, ba_add]; simp, by first | exact HI3.out | exact below_drewN HI3.out _, by rw [← HXS.out]; simp⟩
                        · rw [if_neg hq] at hxs
                          have HXS := Lib.hid hxs; clear hxs
                          have hyb2 : ((y.toNat : Int) == 34) = false := by
                            rw [beq_eq_false_iff_ne]; intro h
                            exact hq (UInt8.toNat_inj.1 (by have : (34 : UInt8).toNat = 34 := rfl; omega))
                          clear hq
                          go_wp2
                          go_roundg (gk - 1)
                          case measure => omega
                          case rel => exact ⟨k + 1, x ++ [y], by omega, by go_num, by rw [HPC.out, ba_add], by first | exact HI3.out | exact below_drewN HI3.out _, by rw [← HXS.out]; simp⟩
                      · have hltb3 : decide ((k : Int) < (fl.length : Int)) = false := decide_eq_false (by omega)
                        have hltn3 : decide (k < fl.length) = false := decide_eq_false hltk
                        have hltb4 : decide ((k : Int) < ((ba fl).size : Int)) = false := decide_eq_false (by rw [ba_size]; omega)
                        have hltn4 : decide (k < (ba fl).size) = false := decide_eq_false (by rw [ba_size]; exact hltk)
                        have hke : k = fl.length := by omega
                        have hxe := HX.out
                        rw [hke, List.drop_length] at hxe
                        simp only [Csv.esc, List.append_nil] at hxe
                        subst hxe
                        have npx : ¬ 9223372036854775807 < (ba (34 :: Csv.esc fl)).size + 1 := by rw [ba_size]; simp only [List.length_cons]; omega
                        have npo : ¬ 9223372036854775807 < (ba (o ++ [c])).size + ((ba (34 :: Csv.esc fl)).size + 1) := by rw [ba_size, ba_size]; simp only [List.length_cons, List.length_append, List.length_nil]; omega
                        go_wp2
                        go_roundg (gkJ - 1)
                        case measure => omega
                        case rel => exact ⟨j + 1, o ++ [c] ++ (34 :: (Csv.esc fl ++ [34])), by omega, by go_num, by rw [show ({ data := #[34] } : ByteArray) = ba [34] from rfl, ba_add, ba_add]; rfl, by first | exact HI3.out | exact below_drewN HI3.out _, by rw [← HOT.out]; simp only [List.append_assoc, Nat.zero_add]⟩
                · have hn1 : (row.length == 1) = false := by rw [beq_eq_false_iff_ne]; exact h1
                  have hi1 : ((row.length : Int) == 1) = false := by rw [beq_eq_false_iff_ne]; omega
                  clear h1
                  have hmu : Csv.must c row.length fl = false := by unfold Csv.must; rw [han, hie, hn1]; rfl
                  have HAN := Lib.hid han; clear han
                  simp only [Csv.fieldOut, hmu, Bool.false_eq_true, if_false, List.length_append, List.length_cons, List.length_nil] at HOT holen hfl1
                  clear hmu
                  by_cases hj0 : j = 0
                  · subst hj0
                    rw [Nat.add_zero] at hc2'
                    simp only [if_true, List.nil_append, List.length_nil] at HOT holen
                    have hp0 : decide ((0 : Int) < ((0 : Nat) : Int)) = false := rfl
                    go_wp2_with fail
                    refine (all_any (ba fl) sep c B _ (by rw [ba_size]; omega) (by exact hcs) HC.out true (by rw [show (ba fl).data.toList = fl from rfl, all_not_any, HAN.out]; rfl)).mono ?_
                    rintro e w4 ⟨rfl, q4, rfl⟩
                    have npo : ¬ 9223372036854775807 < (ba (o)).size + (ba fl).size := by rw [ba_size, ba_size]; first | omega | (simp only [List.length_append, List.length_cons, List.length_nil]; omega)
                    go_wp2
                    go_roundg (gk - 1)
                    case measure => omega
                    case rel => exact ⟨1, o ++ fl, by omega, by go_num, by rw [ba_add], by first | exact HI1.out | exact below_drewN HI1.out _, by rw [← HOT.out]; simp only [List.append_assoc, Nat.zero_add]⟩
                  · simp only [hj0, if_false] at HOT holen
                    have hp0 : decide ((0 : Int) < (j : Int)) = true := decide_eq_true (by omega)
                    have hp1 : decide (0 < j) = true := decide_eq_true (by omega)
                    simp only [List.length_cons, List.length_nil, List.length_append] at holen
                    have np1 : ¬ 9223372036854775807 < (ba o).size + 1 := by rw [ba_size]; omega
                    have hsc : (ba [c]).size = 1 := rfl
                    have hcv := conv_one wr sep c HC.out
                    have hHs : H ≤ wr.heap.size := by rw [← HH.out]; exact HI1.out.size
                    have HI2 : Hid (Below H w2 (wr.alloc (.cells #[.int .u8 sep] 5))) := HI1.out.alloc hHs _
                    clear hHs
                    go_wp2_with fail
                    refine (all_any (ba fl) sep c B _ (by rw [ba_size]; omega) (by exact cell_below hcs ((Below.refl _ _).alloc (Nat.le_refl _) _)) HC.out true (by rw [show (ba fl).data.toList = fl from rfl, all_not_any, HAN.out]; rfl)).mono ?_
                    rintro e w4 ⟨rfl, q4, rfl⟩
                    rw [ba_add]
                    have npo : ¬ 9223372036854775807 < (ba (o ++ [c])).size + (ba fl).size := by rw [ba_size, ba_size]; first | omega | (simp only [List.length_append, List.length_cons, List.length_nil]; omega)
                    go_wp2
                    go_roundg (gk - 1)
                    case measure => omega
                    case rel => exact ⟨j + 1, o ++ [c] ++ fl, by omega, by go_num, by rw [ba_add], by first | exact HI2.out | exact below_drewN HI2.out _, by rw [← HOT.out]; simp only [List.append_assoc, Nat.zero_add]⟩
              · have hie : fl.isEmpty = false := by cases fl with
                  | nil => exact absurd rfl hne
                  | cons _ _ => rfl
                have hem : (ba fl).toList.isEmpty = false := by rw [Lib.toList_data]; exact hie
                clear hne
                have hmu : Csv.must c row.length fl = false := by unfold Csv.must; rw [han, hie]; rfl
                have HAN := Lib.hid han; clear han
                simp only [Csv.fieldOut, hmu, Bool.false_eq_true, if_false, List.length_append, List.length_cons, List.length_nil] at HOT holen hfl1
                clear hmu
                by_cases hj0 : j = 0
                · subst hj0
                  rw [Nat.add_zero] at hc2'
                  simp only [if_true, List.nil_append, List.length_nil] at HOT holen
                  have hp0 : decide ((0 : Int) < ((0 : Nat) : Int)) = false := rfl
                  go_wp2_with fail
                  refine (all_any (ba fl) sep c B _ (by rw [ba_size]; omega) (by exact hcs) HC.out true (by rw [show (ba fl).data.toList = fl from rfl, all_not_any, HAN.out]; rfl)).mono ?_
                  rintro e w4 ⟨rfl, q4, rfl⟩
                  have npo : ¬ 9223372036854775807 < (ba (o)).size + (ba fl).size := by rw [ba_size, ba_size]; first | omega | (simp only [List.length_append, List.length_cons, List.length_nil]; omega)
                  go_wp2
                  go_roundg (gk - 1)
                  case measure => omega
                  case rel => exact ⟨1, o ++ fl, by omega, by go_num, by rw [ba_add], by first | exact HI1.out | exact below_drewN HI1.out _, by rw [← HOT.out]; simp only [List.append_assoc, Nat.zero_add]⟩
                · simp only [hj0, if_false] at HOT holen
                  have hp0 : decide ((0 : Int) < (j : Int)) = true := decide_eq_true (by omega)
                  have hp1 : decide (0 < j) = true := decide_eq_true (by omega)
                  simp only [List.length_cons, List.length_nil, List.length_append] at holen
                  have np1 : ¬ 9223372036854775807 < (ba o).size + 1 := by rw [ba_size]; omega
                  have hsc : (ba [c]).size = 1 := rfl
                  have hcv := conv_one wr sep c HC.out
                  have hHs : H ≤ wr.heap.size := by rw [← HH.out]; exact HI1.out.size
                  have HI2 : Hid (Below H w2 (wr.alloc (.cells #[.int .u8 sep] 5))) := HI1.out.alloc hHs _
                  clear hHs
                  go_wp2_with fail
                  refine (all_any (ba fl) sep c B _ (by rw [ba_size]; omega) (by exact cell_below hcs ((Below.refl _ _).alloc (Nat.le_refl _) _)) HC.out true (by rw [show (ba fl).data.toList = fl from rfl, all_not_any, HAN.out]; rfl)).mono ?_
                  rintro e w4 ⟨rfl, q4, rfl⟩
                  rw [ba_add]
                  have npo : ¬ 9223372036854775807 < (ba (o ++ [c])).size + (ba fl).size := by rw [ba_size, ba_size]; first | omega | (simp only [List.length_append, List.length_cons, List.length_nil]; omega)
                  go_wp2
                  go_roundg (gk - 1)
                  case measure => omega
                  case rel => exact ⟨j + 1, o ++ [c] ++ fl, by omega, by go_num, by rw [ba_add], by first | exact HI2.out | exact below_drewN HI2.out _, by rw [← HOT.out]; simp only [List.append_assoc, Nat.zero_add]⟩
          · have hltb2 : decide ((j : Int) < (row.length : Int)) = false := decide_eq_false (by omega)
            have hltn2 : decide (j < row.length) = false := decide_eq_false hltj
            have hjr : j = row.length := by omega
            rw [hjr, List.drop_length] at hout
            simp only [Csv.cellsOut, List.append_nil] at hout
            subst hout
            have n10 : ¬ 9223372036854775807 < (ba o).size + 1 := by rw [ba_size]; omega
            go_wp2
            go_roundg (gkO - 1)
            case measure => omega
            case rel => exact ⟨i + 1, o ++ [10], m, by omega, by go_num, rfl, by rw [← ba_add]; rfl, HM.out, HI1.out, by simpa using HT2.out, HWN2.out⟩
    · have hltb : decide ((i : Int) < (rows.length : Int)) = false := decide_eq_false (by omega)
      have hltn : decide (i < rows.length) = false := decide_eq_false hlt
      have hin : i = rows.length := by omega
      have ht := HT.out
      have hwt := HWN.out
      rw [hin, List.drop_length] at ht hwt
      simp only [Csv.printOut, List.flatMap_nil, List.append_nil, List.any_nil, Bool.false_eq_true, if_false] at ht hwt
      have hmw : m = WANT := by by_cases h : m = 0 <;> simp [h] at hwt ⊢ <;> omega
      subst ht
      subst hmw
      clear hin hwt
      have hfin : Hid (Below w.heap.size w wr) := HB2.out.trans (HI.out.mono (by rw [HB.out]; omega))
      rcases HM.out with rfl | rfl | rfl
      · obtain ⟨rfl, rfl⟩ := HE0.out rfl
        go_wp2
        go_ret
        exact ⟨by first | rfl | simp, by rw [← HB.out]; exact hfin.out⟩
      · obtain ⟨rfl, rfl⟩ := HE.out (by decide)
        go_wp2
        go_ret
        exact ⟨by first | rfl | simp, by rw [← HB.out]; exact hfin.out⟩
      · obtain ⟨rfl, rfl⟩ := HE.out (by decide)
        go_wp2
        go_ret
        exact ⟨by first | rfl | simp, by rw [← HB.out]; exact hfin.out⟩

end Go.Proofs.YtjndiielolphgaaDoor
