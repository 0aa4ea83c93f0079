/- The walk of the law CsvImportMatches where the records are read. Conditions: utf8's tables lie as they are laid. -/
import Derived.Test.YtjndiielolphgaaDoorCsvImportLaw1
namespace Go.Proofs.YtjndiielolphgaaDoor
open Go.RowKit

set_option maxHeartbeats 8000000 in
set_option maxRecDepth 100000 in
theorem implaw_ok (a : ByteArray) (sep : Int) (c : UInt8) (w : World) (hsz : a.size ≤ maxLen) (hc : SepFacts sep c) (hc2 : c.toNat < 128) (hsep : isSep sep = true) (rows : List (List Csv.Bytes))
    (hR : Csv.parse c (a.extract 0 (min (a.size : Int) 400).toNat).data.toList ((a.extract 0 (min (a.size : Int) 400).toNat).size + 1) 0 [] = .ok rows)
    (hU : Lib.Utf8Tabs 0 1 w) (hB : 2 ≤ w.heap.size) :
    Calls Tryd.prog 3 #[.string a, .int .u8 sep] w fun e w' => e = .returned (.bool true) ∧ Below w.heap.size w w' := by
  unfold maxLen at hsz
  have HS := Lib.hid hsep; clear hsep
  have HC := Lib.hid hc; clear hc
  have HR := Lib.hid hR; clear hR
  have HU := Lib.hid hU; clear hU
  go_enter Tryd.func3, Tryd.ntmps3
  go_wp2_with fail
  refine (fields_true _).mono ?_
  rintro e w1 ⟨rfl, hb⟩
  have HB := Lib.hid hb; clear hb
  go_wp2_with fail
  have hS := cut_le a
  generalize a.extract 0 (min (a.size : Int) 400).toNat = S at hS HR ⊢
  have hpb := parse_bound c S.data.toList (S.size + 1) 0 [] rows (by simp) (Nat.zero_le _) (by simp [total]) (by simp) HR.out
  obtain ⟨hTot, hWith⟩ := hpb
  have hSl : S.data.toList.length = S.size := by simp
  rw [hSl] at hTot hWith
  clear hSl
  refine (import_ok S sep c w1 (by omega) HC.out hc2 HS.out rows HR.out (by omega) hWith (tabs_below HU.out HB.out hB) (Nat.le_trans hB HB.out.size)).mono ?_
  rintro e w2 ⟨hb2, vc, vl, rfl, hoc, hol⟩
  have HB2 := Lib.hid hb2; clear hb2
  have HOC := Lib.hid hoc
  have HOL := Lib.hid hol
  obtain ⟨avc, cvc, hvc⟩ := owns_form5 hoc
  obtain ⟨avl, cvl, hvl⟩ := owns_form5 hol
  subst hvc
  subst hvl
  clear hoc hol
  simp only [gridV]
  have href : Csv.ref c (S.size + 1) S.data.toList 0 [] [] [] 0 false = .ok rows := by
    have := Csv.ref_parse c HC.out.ok S.data.toList (S.size + 1) 0 [] (Nat.zero_le _) (by simp)
    rw [HR.out] at this; exact this.symm
  have HQ := Lib.hid href; clear href
  have HWI := Lib.hid hWith; clear hWith
  go_wp2_with fail
  refine (ref_any S sep c _ (by omega) HC.out.num _ HQ.out).mono ?_
  rintro e w3 ⟨hb3, v8, rfl, hown⟩
  simp only [World.size_alloc] at hb3
  have HB3 : Hid (Below w2.heap.size w2 w3) := ((Below.refl _ _).alloc (Nat.le_refl _) _).trans (hb3.mono (by omega))
  have hG : w3.heap[w2.heap.size]? = some (.cells #[.int .i64 rows.length, .int .i64 (widest rows), .slice avc (rowsC 0 rows).length cvc, .slice none 0 0] 26 (0, 0)) := by
    rw [hb3.block _ (by omega)]; exact alloc_at _ _ _ rfl
  have HGG := Lib.hid hG
  have hGlt := heap_lt hG
  clear hG hb3
  obtain ⟨vs, hv1, hv2⟩ := hown
  obtain ⟨a7, c7, rfl, hm7, hel⟩ := owns_elem hv1
  have HEL := Lib.hid hel; clear hel
  have HV2 := Lib.hid hv2
  have hvl := hv2.length
  have HVL := Lib.hid hvl
  clear hv1 hv2 hvl
  unfold maxLen at hm7
  obtain ⟨G, hGe⟩ : ∃ G, w2.heap.size = G := ⟨_, rfl⟩
  have HGE := Lib.hid hGe
  obtain ⟨H, hH⟩ : ∃ H, w3.heap.size = H := ⟨_, rfl⟩
  have HH := Lib.hid hH
  rw [hGe, hH] at hGlt
  rw [hGe] at HGG
  clear hH
  obtain ⟨CS, hCS⟩ : ∃ CS, rowsC 0 rows = CS := ⟨_, rfl⟩
  obtain ⟨LS, hLS⟩ : ∃ LS, rowsL 0 rows = LS := ⟨_, rfl⟩
  obtain ⟨M, hMM⟩ : ∃ M, widest rows = M := ⟨_, rfl⟩
  have hCl : CS.length ≤ 1000000 := by rw [← hCS]; have := rowsC_len 0 rows; omega
  have hLl : LS.length ≤ 2000000 := by rw [← hLS]; have := rowsL_len 0 rows; omega
  rw [hCS, hMM] at HGG
  rw [hCS] at HOC
  rw [hLS] at HOL
  rw [hCS, hLS, hMM]
  have HCS := Lib.hid hCS; clear hCS
  have HLS := Lib.hid hLS; clear hLS
  have HMM := Lib.hid hMM; clear hMM
  have hMb : M ≤ 1000000 := by
    have h1 := HMM.out
    have h2 : ∀ rs : List (List Csv.Bytes), widest rs ≤ total rs := by
      intro rs
      induction rs with
      | nil => exact Nat.le_refl _
      | cons r t ih => simp only [widest, total]; omega
    have := h2 rows
    omega
  obtain ⟨iL, hiL, hz0L, hz1L, hz2L⟩ := info_parts Tryd.infoLoss
  obtain ⟨iC, hiC, hz0C, hz1C, hz2C⟩ := info_parts Tryd.infoCell
  have hm1 : ¬ (0 : Int) ≤ -1 := by omega
  go_wp2_with (go_at_call 9; refine (lawSep_any _ _).mono ?_; rintro e w' ⟨rfl, hw⟩; rw [hw, HS.out])
  go_loopg [11, 12, 13, 70] rows.length (fun g v11 v12 v13 v70 wx => ∃ (i m : Nat) (cs : List CellE) (ls : List LossE), i + g = rows.length ∧ v70 = .int .i64 i ∧ v13 = .int .i64 m ∧ max m (widest (rows.drop i)) = M ∧ JInv H w3 cs ls v11 v12 wx ∧ cs ++ rowsC i (rows.drop i) = CS ∧ ls ++ rowsL i (rows.drop i) = LS)
  case atStart =>
    exact ⟨0, 0, [], [], by omega, rfl, rfl, by simpa using HMM.out, ⟨Below.refl _ _, Nat.le_of_eq HH.out.symm, World.ownsRow_nil _ _ _ _, World.ownsRow_nil _ _ _ _⟩, by simpa using HCS.out, by simpa using HLS.out⟩
  case round =>
    obtain ⟨i, m, cs0, ls0, hi, rfl, rfl, hm, hinv, hcs, hls⟩ := hrel
    have HI0 := Lib.hid hinv; clear hinv
    have HC0 := Lib.hid hcs; clear hcs
    have HL0 := Lib.hid hls; clear hls
    by_cases hlt : i < rows.length
    · have hltb : decide ((i : Int) < (rows.length : Int)) = true := decide_eq_true (by omega)
      have hltn : decide (i < rows.length) = true := decide_eq_true hlt
      obtain ⟨g7, rfl, hg7, hcell⟩ := HEL.out i hlt
      have hkv : i < vs.length := by rw [HVL.out]; exact hlt
      have hc1 : wr.cell? ⟨g7, i, none⟩ = some vs[i] := (HI0.out.below.cell (p := ⟨g7, i, none⟩) (by rw [← HH.out]; exact hg7)).trans (hcell hkv)
      have hown := HV2.out.at i hkv hlt
      have hrowW := HWI.out rows[i] (List.getElem_mem hlt)
      have hdr := drop_row rows i hlt
      obtain ⟨row, hrow⟩ : ∃ row, rows[i] = row := ⟨_, rfl⟩
      rw [hrow] at hown hrowW hdr
      obtain ⟨ar, cr, hvr, hmr, hele⟩ := owns_elem hown
      rw [hvr] at hc1
      rw [hdr] at hm
      simp only [widest] at hm
      have HM2 : Hid (max (max m row.length) (widest (rows.drop (i + 1))) = M) := by show _ = _; rw [← hm]; omega
      have hlr : row.length ≤ M := by omega
      have hmM : m ≤ M := by omega
      have HRW := Lib.hid hrowW; clear hrowW
      have HELE := Lib.hid hele; clear hele
      have HDR := Lib.hid hdr; clear hdr
      clear hvr hown hcell hrow hm
      unfold maxLen at hmr
      obtain ⟨gkO, rfl⟩ : ∃ g : Nat, g = gk := ⟨_, rfl⟩
      obtain ⟨cs1, hcs1⟩ : ∃ cs1, cs0 ++ fieldsC i 0 row = cs1 := ⟨_, rfl⟩
      obtain ⟨ls1, hls1⟩ : ∃ ls1, ls0 ++ fieldsL i 0 row = ls1 := ⟨_, rfl⟩
      have HC1 : Hid (cs1 ++ rowsC (i + 1) (rows.drop (i + 1)) = CS) := by
        show _ = _
        rw [← HC0.out, HDR.out, rowsC, ← List.append_assoc, hcs1]
      have HL1 : Hid (ls1 ++ rowsL (i + 1) (rows.drop (i + 1)) = LS) := by
        show _ = _
        rw [← HL0.out, HDR.out, rowsL, ← List.append_assoc, hls1]
      have hcl1 : cs1.length ≤ 1000000 := by have := congrArg List.length HC1.out; simp at this; omega
      have hll1 : ls1.length ≤ 2000000 := by have := congrArg List.length HL1.out; simp at this; omega
      have HCS1 := Lib.hid hcs1; clear hcs1
      have HLS1 := Lib.hid hls1; clear hls1
      go_wp2
      go_loopg [11, 12, 81] row.length (fun g v11 v12 v81 wx => ∃ (j : Nat) (cs : List CellE) (ls : List LossE), j + g = row.length ∧ v81 = .int .i64 j ∧ JInv H w3 cs ls v11 v12 wx ∧ cs ++ fieldsC i j (row.drop j) = cs1 ∧ ls ++ fieldsL i j (row.drop j) = ls1)
      case atStart => exact ⟨0, cs0, ls0, by omega, rfl, HI0.out, by simpa using HCS1.out, by simpa using HLS1.out⟩
      case round =>
        obtain ⟨j, cs, ls, hj, rfl, hinv, hcs, hls⟩ := hrel
        have HI1 := Lib.hid hinv; clear hinv
        by_cases hltj : j < row.length
        · have hltb2 : decide ((j : Int) < (row.length : Int)) = true := decide_eq_true (by omega)
          have hltn2 : decide (j < row.length) = true := decide_eq_true hltj
          obtain ⟨gr, rfl, hgr, hcellr⟩ := HELE.out j hltj
          have hcr : wr.cell? ⟨gr, j, none⟩ = some (.string (ba row[j])) := (HI1.out.below.cell (p := ⟨gr, j, none⟩) (by rw [← HH.out]; exact hgr)).trans ((hcellr (by simpa [strCells] using hltj)).trans (by simp [strCells, strV, ba]))
          have hfl : row[j].length ≤ 4000000000 := Nat.le_trans (HRW.out row[j] (List.getElem_mem hltj)) (by omega)
          rw [drop_field row j hltj] at hcs hls
          simp only [fieldsC, fieldsL] at hcs hls
          have hcsl := congrArg List.length hcs
          have hlsl := congrArg List.length hls
          simp only [List.length_append] at hcsl hlsl
          clear hcellr hc1
          obtain ⟨tt, ch, ln, hR2⟩ : ∃ tt ch ln, textR (ba row[j]) = (tt, ch, ln) := ⟨_, _, _, rfl⟩
          have eC : cellsOf i j row[j] = if tt = [] then [] else [⟨i, j, tt⟩] := by unfold cellsOf; rw [hR2]
          have eL : lossesOf i j row[j] = (if ch then [⟨5, i, j, row[j]⟩] else []) ++ (if ln then [⟨6, i, j, row[j]⟩] else []) := by unfold lossesOf; rw [hR2]
          rw [eC] at hcs hcsl
          rw [eL] at hls hlsl
          have hct := textRef_ba row[j] wr hfl
          rw [hR2] at hct
          have HCT := Lib.hid hct
          clear hct eC eL hR2 hfl
          cases ch <;> cases ln
          · by_cases htt : tt = []
            · subst htt
              have hem : (ba ([] : Csv.Bytes)).toList.isEmpty = true := by rw [Lib.toList_data]; rfl
              simp only [if_false, if_true, Bool.false_eq_true, List.append_nil, List.nil_append, List.length_nil, List.length_cons, List.length_append] at hcs hls hcsl hlsl
              have HCS2 := Lib.hid hcs; clear hcs
              have HLS2 := Lib.hid hls; clear hls
              go_wp2_with fail
              refine HCT.out.mono ?_
              rintro e wr ⟨rfl, rfl⟩
              go_wp2
              go_roundg (gk - 1)
              case measure => omega
              case rel => exact ⟨j + 1, cs, ls, by omega, by go_num, HI1.out, by simpa using HCS2.out, by simpa using HLS2.out⟩
            · have hem : (ba tt).toList.isEmpty = false := by rw [Lib.toList_data]; cases tt with
                | nil => exact absurd rfl htt
                | cons _ _ => rfl
              simp only [htt, if_false, if_true, Bool.false_eq_true, List.append_nil, List.nil_append, List.length_nil, List.length_cons, List.length_append] at hcs hls hcsl hlsl
              have HCS2 := Lib.hid hcs; clear hcs
              have HLS2 := Lib.hid hls; clear hls
              clear htt
              go_wp2_with fail
              refine HCT.out.mono ?_
              rintro e wr ⟨rfl, rfl⟩
              have hoc3 := HI1.out.oc
              have hbc3 : (cs).length + 1 ≤ 4000000 := by first | omega | (simp; omega)
              have hsz3 := HI1.out.size
              go_wp2_with (at_builtin; refine wpList_append_own _ rfl _ _ 23 rfl H 40 iC (.agg #[.int .i64 0, .int .i64 0, .string { data := #[] }, .int .i64 0, .slice none 0 0]) 5 64 Tryd.underlying23 hiC hz0C hz1C hz2C rfl (by decide) u11 (cs).length ((cs).flatMap cellV) rfl (hoc3.alloc _) ⟨wr.heap.size, 0, none⟩ 1 1 (cellV ⟨i, j, tt⟩) rfl rfl (news_alloc _ _ _) (cellV_one _) (by unfold maxLen; omega) (by omega) (by simp; omega) ?_)
              intro v3 w3 hown3 hgrow3 _
              have HI3 := Lib.hid (HI1.out.cell ⟨i, j, tt⟩ (by simpa using hown3) hgrow3)
              clear hown3 hgrow3 hoc3 hbc3 hsz3
              go_wp2
              go_roundg (gk - 1)
              case measure => omega
              case rel => exact ⟨j + 1, cs ++ [CellE.mk i j tt], ls, by omega, by go_num, HI3.out, by simpa using HCS2.out, by simpa using HLS2.out⟩
          · by_cases htt : tt = []
            · subst htt
              have hem : (ba ([] : Csv.Bytes)).toList.isEmpty = true := by rw [Lib.toList_data]; rfl
              simp only [if_false, if_true, Bool.false_eq_true, List.append_nil, List.nil_append, List.length_nil, List.length_cons, List.length_append] at hcs hls hcsl hlsl
              have HCS2 := Lib.hid hcs; clear hcs
              have HLS2 := Lib.hid hls; clear hls
              go_wp2_with fail
              refine HCT.out.mono ?_
              rintro e wr ⟨rfl, rfl⟩
              have hol3 := HI1.out.ol
              have hbl3 : (ls).length + 1 ≤ 4000000 := by first | omega | (simp; omega)
              have hsz3 := HI1.out.size
              go_wp2_with (at_builtin; refine wpList_append_own _ rfl _ _ 27 rfl H 42 iL (.agg #[.int .i64 0, .int .i64 0, .int .i64 0, .int .i64 0, .string { data := #[] }]) 5 48 Tryd.underlying27 hiL hz0L hz1L hz2L rfl (by decide) u12 (ls).length ((ls).flatMap lossV) rfl (hol3.alloc _) ⟨wr.heap.size, 0, none⟩ 1 1 (lossV ⟨6, i, j, row[j]⟩) rfl rfl (news_alloc _ _ _) (lossV_one _) (by unfold maxLen; omega) (by omega) (by simp; omega) ?_)
              intro v3 w3 hown3 hgrow3 _
              have HI3 := Lib.hid (HI1.out.loss ⟨6, i, j, row[j]⟩ (by simpa [List.append_assoc] using hown3) hgrow3)
              clear hown3 hgrow3 hol3 hbl3 hsz3
              go_wp2
              go_roundg (gk - 1)
              case measure => omega
              case rel => exact ⟨j + 1, cs, ls ++ [LossE.mk 6 i j row[j]], by omega, by go_num, HI3.out, by simpa using HCS2.out, by simpa using HLS2.out⟩
            · have hem : (ba tt).toList.isEmpty = false := by rw [Lib.toList_data]; cases tt with
                | nil => exact absurd rfl htt
                | cons _ _ => rfl
              simp only [htt, if_false, if_true, Bool.false_eq_true, List.append_nil, List.nil_append, List.length_nil, List.length_cons, List.length_append] at hcs hls hcsl hlsl
              have HCS2 := Lib.hid hcs; clear hcs
              have HLS2 := Lib.hid hls; clear hls
              clear htt
              go_wp2_with fail
              refine HCT.out.mono ?_
              rintro e wr ⟨rfl, rfl⟩
              have hoc3 := HI1.out.oc
              have hbc3 : (cs).length + 1 ≤ 4000000 := by first | omega | (simp; omega)
              have hsz3 := HI1.out.size
              go_wp2_with (at_builtin; refine wpList_append_own _ rfl _ _ 23 rfl H 40 iC (.agg #[.int .i64 0, .int .i64 0, .string { data := #[] }, .int .i64 0, .slice none 0 0]) 5 64 Tryd.underlying23 hiC hz0C hz1C hz2C rfl (by decide) u11 (cs).length ((cs).flatMap cellV) rfl (hoc3.alloc _) ⟨wr.heap.size, 0, none⟩ 1 1 (cellV ⟨i, j, tt⟩) rfl rfl (news_alloc _ _ _) (cellV_one _) (by unfold maxLen; omega) (by omega) (by simp; omega) ?_)
              intro v3 w3 hown3 hgrow3 _
              have HI3 := Lib.hid (HI1.out.cell ⟨i, j, tt⟩ (by simpa using hown3) hgrow3)
              clear hown3 hgrow3 hoc3 hbc3 hsz3
              have hol4 := HI3.out.ol
              have hbl4 : (ls).length + 1 ≤ 4000000 := by first | omega | (simp; omega)
              have hsz4 := HI3.out.size
              go_wp2_with (at_builtin; refine wpList_append_own _ rfl _ _ 27 rfl H 42 iL (.agg #[.int .i64 0, .int .i64 0, .int .i64 0, .int .i64 0, .string { data := #[] }]) 5 48 Tryd.underlying27 hiL hz0L hz1L hz2L rfl (by decide) u12 (ls).length ((ls).flatMap lossV) rfl (hol4.alloc _) ⟨w3.heap.size, 0, none⟩ 1 1 (lossV ⟨6, i, j, row[j]⟩) rfl rfl (news_alloc _ _ _) (lossV_one _) (by unfold maxLen; omega) (by omega) (by simp; omega) ?_)
              intro v4 w4 hown4 hgrow4 _
              have HI4 := Lib.hid (HI3.out.loss ⟨6, i, j, row[j]⟩ (by simpa [List.append_assoc] using hown4) hgrow4)
              clear hown4 hgrow4 hol4 hbl4 hsz4
              go_wp2
              go_roundg (gk - 1)
              case measure => omega
              case rel => exact ⟨j + 1, cs ++ [CellE.mk i j tt], ls ++ [LossE.mk 6 i j row[j]], by omega, by go_num, HI4.out, by simpa using HCS2.out, by simpa using HLS2.out⟩
          · by_cases htt : tt = []
            · subst htt
              have hem : (ba ([] : Csv.Bytes)).toList.isEmpty = true := by rw [Lib.toList_data]; rfl
              simp only [if_false, if_true, Bool.false_eq_true, List.append_nil, List.nil_append, List.length_nil, List.length_cons, List.length_append] at hcs hls hcsl hlsl
              have HCS2 := Lib.hid hcs; clear hcs
              have HLS2 := Lib.hid hls; clear hls
              go_wp2_with fail
              refine HCT.out.mono ?_
              rintro e wr ⟨rfl, rfl⟩
              have hol3 := HI1.out.ol
              have hbl3 : (ls).length + 1 ≤ 4000000 := by first | omega | (simp; omega)
              have hsz3 := HI1.out.size
              go_wp2_with (at_builtin; refine wpList_append_own _ rfl _ _ 27 rfl H 42 iL (.agg #[.int .i64 0, .int .i64 0, .int .i64 0, .int .i64 0, .string { data := #[] }]) 5 48 Tryd.underlying27 hiL hz0L hz1L hz2L rfl (by decide) u12 (ls).length ((ls).flatMap lossV) rfl (hol3.alloc _) ⟨wr.heap.size, 0, none⟩ 1 1 (lossV ⟨5, i, j, row[j]⟩) rfl rfl (news_alloc _ _ _) (lossV_one _) (by unfold maxLen; omega) (by omega) (by simp; omega) ?_)
              intro v3 w3 hown3 hgrow3 _
              have HI3 := Lib.hid (HI1.out.loss ⟨5, i, j, row[j]⟩ (by simpa [List.append_assoc] using hown3) hgrow3)
              clear hown3 hgrow3 hol3 hbl3 hsz3
              go_wp2
              go_roundg (gk - 1)
              case measure => omega
              case rel => exact ⟨j + 1, cs, ls ++ [LossE.mk 5 i j row[j]], by omega, by go_num, HI3.out, by simpa using HCS2.out, by simpa using HLS2.out⟩
            · have hem : (ba tt).toList.isEmpty = false := by rw [Lib.toList_data]; cases tt with
                | nil => exact absurd rfl htt
                | cons _ _ => rfl
              simp only [htt, if_false, if_true, Bool.false_eq_true, List.append_nil, List.nil_append, List.length_nil, List.length_cons, List.length_append] at hcs hls hcsl hlsl
              have HCS2 := Lib.hid hcs; clear hcs
              have HLS2 := Lib.hid hls; clear hls
              clear htt
              go_wp2_with fail
              refine HCT.out.mono ?_
              rintro e wr ⟨rfl, rfl⟩
              have hoc3 := HI1.out.oc
              have hbc3 : (cs).length + 1 ≤ 4000000 := by first | omega | (simp; omega)
              have hsz3 := HI1.out.size
              go_wp2_with (at_builtin; refine wpList_append_own _ rfl _ _ 23 rfl H 40 iC (.agg #[.int .i64 0, .int .i64 0, .string { data := #[] }, .int .i64 0, .slice none 0 0]) 5 64 Tryd.underlying23 hiC hz0C hz1C hz2C rfl (by decide) u11 (cs).length ((cs).flatMap cellV) rfl (hoc3.alloc _) ⟨wr.heap.size, 0, none⟩ 1 1 (cellV ⟨i, j, tt⟩) rfl rfl (news_alloc _ _ _) (cellV_one _) (by unfold maxLen; omega) (by omega) (by simp; omega) ?_)
              intro v3 w3 hown3 hgrow3 _
              have HI3 := Lib.hid (HI1.out.cell ⟨i, j, tt⟩ (by simpa using hown3) hgrow3)
              clear hown3 hgrow3 hoc3 hbc3 hsz3
              have hol4 := HI3.out.ol
              have hbl4 : (ls).length + 1 ≤ 4000000 := by first | omega | (simp; omega)
              have hsz4 := HI3.out.size
              go_wp2_with (at_builtin; refine wpList_append_own _ rfl _ _ 27 rfl H 42 iL (.agg #[.int .i64 0, .int .i64 0, .int .i64 0, .int .i64 0, .string { data := #[] }]) 5 48 Tryd.underlying27 hiL hz0L hz1L hz2L rfl (by decide) u12 (ls).length ((ls).flatMap lossV) rfl (hol4.alloc _) ⟨w3.heap.size, 0, none⟩ 1 1 (lossV ⟨5, i, j, row[j]⟩) rfl rfl (news_alloc _ _ _) (lossV_one _) (by unfold maxLen; omega) (by omega) (by simp; omega) ?_)
              intro v4 w4 hown4 hgrow4 _
              have HI4 := Lib.hid (HI3.out.loss ⟨5, i, j, row[j]⟩ (by simpa [List.append_assoc] using hown4) hgrow4)
              clear hown4 hgrow4 hol4 hbl4 hsz4
              go_wp2
              go_roundg (gk - 1)
              case measure => omega
              case rel => exact ⟨j + 1, cs ++ [CellE.mk i j tt], ls ++ [LossE.mk 5 i j row[j]], by omega, by go_num, HI4.out, by simpa using HCS2.out, by simpa using HLS2.out⟩
          · by_cases htt : tt = []
            · subst htt
              have hem : (ba ([] : Csv.Bytes)).toList.isEmpty = true := by rw [Lib.toList_data]; rfl
              simp only [if_false, if_true, Bool.false_eq_true, List.append_nil, List.nil_append, List.length_nil, List.length_cons, List.length_append] at hcs hls hcsl hlsl
              have HCS2 := Lib.hid hcs; clear hcs
              have HLS2 := Lib.hid hls; clear hls
              go_wp2_with fail
              refine HCT.out.mono ?_
              rintro e wr ⟨rfl, rfl⟩
              have hol3 := HI1.out.ol
              have hbl3 : (ls).length + 1 ≤ 4000000 := by first | omega | (simp; omega)
              have hsz3 := HI1.out.size
              go_wp2_with (at_builtin; refine wpList_append_own _ rfl _ _ 27 rfl H 42 iL (.agg #[.int .i64 0, .int .i64 0, .int .i64 0, .int .i64 0, .string { data := #[] }]) 5 48 Tryd.underlying27 hiL hz0L hz1L hz2L rfl (by decide) u12 (ls).length ((ls).flatMap lossV) rfl (hol3.alloc _) ⟨wr.heap.size, 0, none⟩ 1 1 (lossV ⟨5, i, j, row[j]⟩) rfl rfl (news_alloc _ _ _) (lossV_one _) (by unfold maxLen; omega) (by omega) (by simp; omega) ?_)
              intro v3 w3 hown3 hgrow3 _
              have HI3 := Lib.hid (HI1.out.loss ⟨5, i, j, row[j]⟩ (by simpa [List.append_assoc] using hown3) hgrow3)
              clear hown3 hgrow3 hol3 hbl3 hsz3
              have hol4 := HI3.out.ol
              have hbl4 : (ls ++ [LossE.mk 5 i j row[j]]).length + 1 ≤ 4000000 := by first | omega | (simp; omega)
              have hsz4 := HI3.out.size
              go_wp2_with (at_builtin; refine wpList_append_own _ rfl _ _ 27 rfl H 42 iL (.agg #[.int .i64 0, .int .i64 0, .int .i64 0, .int .i64 0, .string { data := #[] }]) 5 48 Tryd.underlying27 hiL hz0L hz1L hz2L rfl (by decide) v3 (ls ++ [LossE.mk 5 i j row[j]]).length ((ls ++ [LossE.mk 5 i j row[j]]).flatMap lossV) rfl (hol4.alloc _) ⟨w3.heap.size, 0, none⟩ 1 1 (lossV ⟨6, i, j, row[j]⟩) rfl rfl (news_alloc _ _ _) (lossV_one _) (by unfold maxLen; omega) (by omega) (by simp; omega) ?_)
              intro v4 w4 hown4 hgrow4 _
              have HI4 := Lib.hid (HI3.out.loss ⟨6, i, j, row[j]⟩ (by simpa [List.append_assoc] using hown4) hgrow4)
              clear hown4 hgrow4 hol4 hbl4 hsz4
              go_wp2
              go_roundg (gk - 1)
              case measure => omega
              case rel => exact ⟨j + 1, cs, ls ++ [LossE.mk 5 i j row[j]] ++ [LossE.mk 6 i j row[j]], by omega, by go_num, HI4.out, by simpa using HCS2.out, by simpa using HLS2.out⟩
            · have hem : (ba tt).toList.isEmpty = false := by rw [Lib.toList_data]; cases tt with
                | nil => exact absurd rfl htt
                | cons _ _ => rfl
              simp only [htt, if_false, if_true, Bool.false_eq_true, List.append_nil, List.nil_append, List.length_nil, List.length_cons, List.length_append] at hcs hls hcsl hlsl
              have HCS2 := Lib.hid hcs; clear hcs
              have HLS2 := Lib.hid hls; clear hls
              clear htt
              go_wp2_with fail
              refine HCT.out.mono ?_
              rintro e wr ⟨rfl, rfl⟩
              have hoc3 := HI1.out.oc
              have hbc3 : (cs).length + 1 ≤ 4000000 := by first | omega | (simp; omega)
              have hsz3 := HI1.out.size
              go_wp2_with (at_builtin; refine wpList_append_own _ rfl _ _ 23 rfl H 40 iC (.agg #[.int .i64 0, .int .i64 0, .string { data := #[] }, .int .i64 0, .slice none 0 0]) 5 64 Tryd.underlying23 hiC hz0C hz1C hz2C rfl (by decide) u11 (cs).length ((cs).flatMap cellV) rfl (hoc3.alloc _) ⟨wr.heap.size, 0, none⟩ 1 1 (cellV ⟨i, j, tt⟩) rfl rfl (news_alloc _ _ _) (cellV_one _) (by unfold maxLen; omega) (by omega) (by simp; omega) ?_)
              intro v3 w3 hown3 hgrow3 _
              have HI3 := Lib.hid (HI1.out.cell ⟨i, j, tt⟩ (by simpa using hown3) hgrow3)
              clear hown3 hgrow3 hoc3 hbc3 hsz3
              have hol4 := HI3.out.ol
              have hbl4 : (ls).length + 1 ≤ 4000000 := by first | omega | (simp; omega)
              have hsz4 := HI3.out.size
              go_wp2_with (at_builtin; refine wpList_append_own _ rfl _ _ 27 rfl H 42 iL (.agg #[.int .i64 0, .int .i64 0, .int .i64 0, .int .i64 0, .string { data := #[] }]) 5 48 Tryd.underlying27 hiL hz0L hz1L hz2L rfl (by decide) u12 (ls).length ((ls).flatMap lossV) rfl (hol4.alloc _) ⟨w3.heap.size, 0, none⟩ 1 1 (lossV ⟨5, i, j, row[j]⟩) rfl rfl (news_alloc _ _ _) (lossV_one _) (by unfold maxLen; omega) (by omega) (by simp; omega) ?_)
              intro v4 w4 hown4 hgrow4 _
              have HI4 := Lib.hid (HI3.out.loss ⟨5, i, j, row[j]⟩ (by simpa [List.append_assoc] using hown4) hgrow4)
              clear hown4 hgrow4 hol4 hbl4 hsz4
              have hol5 := HI4.out.ol
              have hbl5 : (ls ++ [LossE.mk 5 i j row[j]]).length + 1 ≤ 4000000 := by first | omega | (simp; omega)
              have hsz5 := HI4.out.size
              go_wp2_with (at_builtin; refine wpList_append_own _ rfl _ _ 27 rfl H 42 iL (.agg #[.int .i64 0, .int .i64 0, .int .i64 0, .int .i64 0, .string { data := #[] }]) 5 48 Tryd.underlying27 hiL hz0L hz1L hz2L rfl (by decide) v4 (ls ++ [LossE.mk 5 i j row[j]]).length ((ls ++ [LossE.mk 5 i j row[j]]).flatMap lossV) rfl (hol5.alloc _) ⟨w4.heap.size, 0, none⟩ 1 1 (lossV ⟨6, i, j, row[j]⟩) rfl rfl (news_alloc _ _ _) (lossV_one _) (by unfold maxLen; omega) (by omega) (by simp; omega) ?_)
              intro v5 w5 hown5 hgrow5 _
              have HI5 := Lib.hid (HI4.out.loss ⟨6, i, j, row[j]⟩ (by simpa [List.append_assoc] using hown5) hgrow5)
              clear hown5 hgrow5 hol5 hbl5 hsz5
              go_wp2
              go_roundg (gk - 1)
              case measure => omega
              case rel => exact ⟨j + 1, cs ++ [CellE.mk i j tt], ls ++ [LossE.mk 5 i j row[j]] ++ [LossE.mk 6 i j row[j]], by omega, by go_num, HI5.out, by simpa using HCS2.out, by simpa using HLS2.out⟩
        · have hltb2 : decide ((j : Int) < (row.length : Int)) = false := decide_eq_false (by omega)
          have hltn2 : decide (j < row.length) = false := decide_eq_false hltj
          have hjr : j = row.length := by omega
          rw [hjr, List.drop_length] at hcs hls
          simp only [fieldsC, fieldsL, List.append_nil] at hcs hls
          subst hcs
          subst hls
          go_wp2
          go_roundg (gkO - 1)
          case measure => omega
          case rel => exact ⟨i + 1, max m row.length, cs, ls, by omega, by go_num, by go_num, HM2.out, HI1.out, HC1.out, HL1.out⟩
    · have hltb : decide ((i : Int) < (rows.length : Int)) = false := decide_eq_false (by omega)
      have hltn : decide (i < rows.length) = false := decide_eq_false hlt
      have hin : i = rows.length := by omega
      have hcs := HC0.out
      have hls := HL0.out
      rw [hin, List.drop_length] at hcs hls hm
      simp only [rowsC, rowsL, List.append_nil, widest, Nat.max_zero] at hcs hls hm
      subst hcs
      subst hls
      subst hm
      have hbG := HI0.out.below
      have q0 := (hbG.cell (p := ⟨G, 0, none⟩) hGlt).trans (Lib.cell_of_heap HGG.out 0)
      have q1 := (hbG.cell (p := ⟨G, 1, none⟩) hGlt).trans (Lib.cell_of_heap HGG.out 1)
      have q2 := (hbG.cell (p := ⟨G, 2, none⟩) hGlt).trans (Lib.cell_of_heap HGG.out 2)
      have q3 := (hbG.cell (p := ⟨G, 3, none⟩) hGlt).trans (Lib.cell_of_heap HGG.out 3)
      simp at q0 q1 q2 q3
      have hb23 : Below w2.heap.size w2 wr := HB3.out.trans (hbG.mono (by rw [HGE.out]; omega))
      have HB23 := Lib.hid hb23; clear hb23
      have hoc2 : wr.ownsRow w1.heap.size 40 5 (.slice avc cs0.length cvc) cs0.length (cs0.flatMap cellV) := (KeepKind.below HB23.out).owns HOC.out
      have hol2 : wr.ownsRow w1.heap.size 42 5 (.slice avl ls0.length cvl) ls0.length (ls0.flatMap lossV) := (KeepKind.below HB23.out).owns HOL.out
      have HOC2 := Lib.hid hoc2; clear hoc2
      have HOL2 := Lib.hid hol2; clear hol2
      clear hin hbG
      go_wp2_with fail
      refine (sameCells_true (by exact HOC2.out) (by exact HI0.out.oc)).mono ?_
      rintro e w5 ⟨rfl, hb5⟩
      have HB5 := Lib.hid hb5; clear hb5
      go_wp2_with fail
      refine (equalLoss_true (by exact (KeepKind.below HB5.out).owns HOL2.out) (by exact (KeepKind.below HB5.out).owns HI0.out.ol)).mono ?_
      rintro e w6 ⟨rfl, q, rfl⟩
      go_wp2
      go_ret
      refine ⟨rfl, below_drewN ?_ _⟩
      exact below_chain HB.out (below_chain HB2.out (below_chain HB23.out HB5.out))
end Go.Proofs.YtjndiielolphgaaDoor
