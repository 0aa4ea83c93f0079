/- The walk of the law CsvReadsBack: it returns true. Conditions: the rows lie as they came in; what is written has at most 1000000000 bytes. -/
import Derived.Test.YtjndiielolphgaaDoorCsvBack
import Derived.Test.YtjndiielolphgaaDoorCsvPrint
import Derived.Test.YtjndiielolphgaaDoorCsvParse
import Derived.Test.YtjndiielolphgaaDoorCsvImportLaw1
namespace Go.Proofs.YtjndiielolphgaaDoor
open Go.RowKit

theorem rem4 (k : Int) : ∃ m : Nat, m < 4 ∧ (k.tmod 4 + 4).tmod 4 = m := by
  have h1 : -4 < k.tmod 4 := Int.lt_tmod_of_pos k (by decide)
  have h2 : 0 ≤ (k.tmod 4 + 4).tmod 4 := Int.tmod_nonneg _ (by omega)
  have h3 : (k.tmod 4 + 4).tmod 4 < 4 := Int.tmod_lt_of_pos _ (by decide)
  exact ⟨((k.tmod 4 + 4).tmod 4).toNat, by omega, by omega⟩

set_option maxHeartbeats 1000000 in
theorem mod4_any (k : Int) (w : World) :
    Calls Tryd.prog 16 #[.int .i64 k, .int .i64 4] w fun e w' => e = .returned (.int .i64 ((k.tmod 4 + 4).tmod 4)) ∧ w' = w := by
  have h1 : -4 < k.tmod 4 := Int.lt_tmod_of_pos k (by decide)
  have h2 : k.tmod 4 < 4 := Int.tmod_lt_of_pos k (by decide)
  have hw : wrap64 (k.tmod 4 + 4) = k.tmod 4 + 4 := by unfold wrap64; omega
  go_enter Tryd.func16, Tryd.ntmps16
  go_wp2
  go_ret
  refine ⟨?_, rfl⟩
  show Ending.returned (.int .i64 ((k.tmod 4 + 4) % 4)) = _
  exact ret_int (Int.tmod_eq_emod_of_nonneg (by omega)).symm

def seps : List Int := [44, 59, 124, 9]

theorem x_parse (sep : Int) (c : UInt8) (hc : sep = c.toNat) (h : sep ∈ seps) : Csv.parse c (ba [120, 13, 10]).data.toList ((ba [120, 13, 10]).size + 1) 0 [] = .ok [[[120]]] := by
  have : c = 44 ∨ c = 59 ∨ c = 124 ∨ c = 9 := by
    simp only [seps, List.mem_cons, List.not_mem_nil, or_false] at h
    rcases h with h | h | h | h <;> rw [h] at hc
    · exact .inl (UInt8.toNat_inj.1 (by have : (44 : UInt8).toNat = 44 := rfl; omega))
    · exact .inr (.inl (UInt8.toNat_inj.1 (by have : (59 : UInt8).toNat = 59 := rfl; omega)))
    · exact .inr (.inr (.inl (UInt8.toNat_inj.1 (by have : (124 : UInt8).toNat = 124 := rfl; omega))))
    · exact .inr (.inr (.inr (UInt8.toNat_inj.1 (by have : (9 : UInt8).toNat = 9 := rfl; omega))))
  rcases this with rfl | rfl | rfl | rfl <;> rfl

theorem sep_at (m : Nat) (h : m < 4) : ∃ sep : Int, (#[Value.int .u8 44, .int .u8 59, .int .u8 124, .int .u8 9] : Array Value)[m]? = some (.int .u8 sep) ∧ sep ∈ seps ∧ isSep sep = true := by
  have : m = 0 ∨ m = 1 ∨ m = 2 ∨ m = 3 := by omega
  rcases this with rfl | rfl | rfl | rfl
  · exact ⟨44, rfl, by decide, by decide⟩
  · exact ⟨59, rfl, by decide, by decide⟩
  · exact ⟨124, rfl, by decide, by decide⟩
  · exact ⟨9, rfl, by decide, by decide⟩

theorem ba_size' (a : Csv.Bytes) : (ba a).size = a.length := by show a.toArray.size = _; simp

set_option maxHeartbeats 8000000 in
set_option maxRecDepth 100000 in
theorem back_any (v : Value) (rows : List (List Csv.Bytes)) (k : Int) (w : World) (hrows : RowsAt w v rows) (hrl : rows.length ≤ 1000000000) (hrs : ∀ r ∈ rows, r.length ≤ 1000000000)
    (hlen : ∀ c, (Csv.printOut c (full rows)).length ≤ 1000000000) (hm : ∃ m, w.cell? ⟨2, 0, none⟩ = some (.int .i64 m)) :
    Calls Tryd.prog 5 #[v, .int .i64 k] w fun e w' => e = .returned (.bool true) ∧ Below w.heap.size w w' := by
  have HR := Lib.hid hrows; clear hrows
  have HRS := Lib.hid hrs; clear hrs
  have HL := Lib.hid hlen; clear hlen
  obtain ⟨mx, hm⟩ := hm
  have HM := Lib.hid hm; clear hm
  obtain ⟨m, hm4, hmk⟩ := rem4 k
  obtain ⟨sep, hsa, hsm, hsep⟩ := sep_at m hm4
  obtain ⟨c, hc, hc2⟩ := sep_facts sep hsep
  have HC := Lib.hid hc; clear hc
  have HS := Lib.hid hsep; clear hsep
  have HX := Lib.hid (x_parse sep c HC.out.num hsm); clear hsm
  obtain ⟨B, hB⟩ : ∃ B, w.heap.size = B := ⟨_, rfl⟩
  have HB := Lib.hid hB
  have hm4i : ((m : Int) < 4) := by omega
  have hm4b : decide ((m : Int) < 4) = true := decide_eq_true hm4i
  have hcs : (w.alloc (.cells #[.int .u8 44, .int .u8 59, .int .u8 124, .int .u8 9] 5)).cell? ⟨B, m, none⟩ = some (.int .u8 sep) := by
    rw [← HB.out, Lib.cell_of_heap (heap_alloc_new _ _) m]; exact hsa
  clear hsa
  have h1b : Below w.heap.size w (w.alloc (.cells #[.int .u8 44, .int .u8 59, .int .u8 124, .int .u8 9] 5)) := (Below.refl _ _).alloc (Nat.le_refl _) _
  have H1B := Lib.hid h1b; clear h1b
  go_enter Tryd.func5, Tryd.ntmps5
  go_wp2_with fail
  refine (mod4_any k _).mono ?_
  rintro e w1 ⟨rfl, rfl⟩
  rw [hmk]
  go_wp2_with fail
  refine (clone_any v rows _ (HR.out.below H1B.out) hrl).mono ?_
  rintro e w1 ⟨v1, rfl, hcl⟩
  have HCL := Lib.hid hcl; clear hcl
  clear hcs
  go_wp2_with fail
  refine (deleted_any v1 rows _ w1 HCL.out hrl).mono ?_
  rintro e w2 ⟨v2, rfl, hr2, hb2⟩
  have HR2 := Lib.hid hr2; clear hr2
  have H2B : Hid (Below w.heap.size w w2) := below_chain H1B.out hb2
  clear hb2 H1B HCL
  have HM2 := Lib.hid (cell_below HM.out H2B.out); clear HM
  have hfl := full_len rows
  go_wp2_with fail
  refine (print_any v2 (full rows) sep c w2 HC.out hc2 HS.out HR2.out (HL.out c) ⟨mx, HM2.out⟩ (by omega) (fun r hr => HRS.out r (full_mem hr))).mono ?_
  rintro e w3 ⟨h3, hb3⟩
  rw [full_any] at h3
  subst h3
  have HB3 := Lib.hid hb3; clear hb3
  have hsz : (ba (Csv.printOut c (full rows))).size ≤ 4000000000 := by rw [ba_size']; have := HL.out c; omega
  have hpp : Csv.parse c (ba (Csv.printOut c (full rows))).data.toList ((ba (Csv.printOut c (full rows))).size + 1) 0 [] = .ok (full rows) := by
    rw [ba_size']
    exact Csv.parse_print c HC.out.ok.n34 HC.out.ok.n10 (full rows) (full_ne rows)
  have HPP := Lib.hid hpp; clear hpp
  have HSZ := Lib.hid hsz; clear hsz
  simp only [Bool.false_eq_true, if_false]
  generalize ba (Csv.printOut c (full rows)) = OUT at HPP HSZ ⊢
  go_wp2_with fail
  refine (parse_any OUT sep c w3 HSZ.out HC.out hc2 HS.out _ HPP.out).mono ?_
  rintro e w4 ⟨hb4, v4, rfl, hown4, hl4⟩
  have HB4 := Lib.hid hb4; clear hb4
  have HO4 := Lib.hid hown4; clear hown4
  go_wp2_with fail
  refine (parse_any (ba [120, 13, 10]) sep c w4 (by decide) HC.out hc2 HS.out _ HX.out).mono ?_
  rintro e w5 ⟨hb5, v5, rfl, hown5, hl5⟩
  have HB5 := Lib.hid hb5; clear hb5
  obtain ⟨vs5, ho5, _⟩ := hown5
  obtain ⟨A5, C5, rfl⟩ := owns_form ho5
  clear ho5
  have H35 : Hid (Below w2.heap.size w2 w5) := below_chain HB3.out (below_chain HB4.out HB5.out)
  go_wp2_with fail
  refine (equalRowsAt_true (by exact HO4.out.below HB5.out) (by exact HR2.out.below H35.out) (by omega) (fun r hr => HRS.out r (full_mem hr))).mono ?_
  rintro e w6 ⟨rfl, q, rfl⟩
  go_wp2
  go_ret
  exact ⟨rfl, below_drewN (below_chain H2B.out H35.out) _⟩
end Go.Proofs.YtjndiielolphgaaDoor
