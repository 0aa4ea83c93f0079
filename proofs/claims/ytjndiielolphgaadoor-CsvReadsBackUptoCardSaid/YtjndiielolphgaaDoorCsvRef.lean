/- The walk of the reference's CsvParse. Conditions: the text has at most 4000000000 bytes. -/
import Derived.Test.YtjndiielolphgaaDoorCsvRefLaws
namespace Go.Proofs.YtjndiielolphgaaDoor
open Go.RowKit

theorem byte_ne {y : UInt8} {n : Nat} (h : y.toNat ≠ n) : ((y.toNat : Int) == (n : Int)) = false := by rw [beq_eq_false_iff_ne]; omega
theorem byte_bne {y : UInt8} {n : Nat} (h : y.toNat ≠ n) : ((y.toNat : Int) != (n : Int)) = true := by rw [bne_iff_ne]; omega
theorem one_mem {v : Value} (h : v.oneCell' = true) : ∀ u ∈ [v], u.oneCell' = true := by
  intro u hu; simp only [List.mem_singleton] at hu; subst hu; exact h
theorem toNat_ne {y : UInt8} {k : UInt8} (h : y ≠ k) : y.toNat ≠ k.toNat := fun e => h (UInt8.toNat_inj.1 e)

set_option maxHeartbeats 8000000 in
set_option maxRecDepth 100000 in
theorem ref_any (s : ByteArray) (sep : Int) (c : UInt8) (w : World) (hs : s.size ≤ 4000000000) (hc : sep = c.toNat) (R : Csv.Res)
    (hR : Csv.ref c (s.size + 1) s.data.toList 0 [] [] [] 0 false = R) :
    Calls Tryd.prog 8 #[.string s, .int .u8 sep] w (RefPost w R) := by
  have HC := Lib.hid hc; clear hc
  have HR := Lib.hid hR; clear hR
  obtain ⟨K, hK⟩ : ∃ K, w.heap.size = K := ⟨_, rfl⟩
  have HK := Lib.hid hK; clear hK
  go_enter Tryd.func8, Tryd.ntmps8
  go_wp2
  go_loopg [6, 7, 8, 9, 10, 11] s.size (fun g v6 v7 v8 v9 v10 v11 wx => ∃ (i : Nat) (rows : List (List Csv.Bytes)) (row : List Csv.Bytes) (fb : ByteArray) (st : Nat) (op : Bool) (W0 : World), s.size ≤ i + g ∧ i ≤ s.size ∧ v8 = .string fb ∧ v9 = .int .i64 st ∧ v10 = .bool op ∧ v11 = .int .i64 i ∧ rows.length ≤ i ∧ row.length ≤ i ∧ fb.size ≤ i ∧ TwoInv K w rows row v6 v7 W0 wx ∧ RefIs s c R i rows row fb.data.toList st op)
  case atStart =>
    refine ⟨0, [], [], ByteArray.empty, 0, false, w, by omega, by omega, rfl, rfl, rfl, rfl, by simp, by simp, by simp, ⟨Below.refl _ _, Nat.le_of_eq HK.out.symm, Nat.le_refl _, OwnRows.nil _ _ _ _, KeepKind.refl _ _, KeepKind.refl _ _, OwnStrs.nil _ _ _⟩, s.size + 1, by omega, HR.out⟩
  case round =>
    obtain ⟨i, rows, row, fb, st, op, W0, hg, hi, rfl, rfl, rfl, rfl, lrows, lrow, lf, htwo, href⟩ := hrel
    have HT := Lib.hid htwo; clear htwo
    have HI := Lib.hid href; clear href
    have nopos : ¬ 9223372036854775807 < fb.size + 1 := by omega
    by_cases hlt : i < s.size
    · have hltb : decide ((i : Int) < (s.size : Int)) = true := decide_eq_true (by omega)
      obtain ⟨y, hy⟩ : ∃ y : UInt8, s[i]'hlt = y := ⟨_, rfl⟩
      have hsz : (s.extract i (i + 1)).size = 1 := by rw [ByteArray.size_extract]; omega
      have hbs := bytes_snoc fb s i hlt
      rw [hy] at hbs
      have HBS := Lib.hid hbs; clear hbs
      have HY := Lib.hid hy
      by_cases hst : st = 2
      · subst hst
        by_cases hq : y = 34
        · have hyb : ((y.toNat : Int) != 34) = false := by subst hq; rfl
          have hyb2 : ((y.toNat : Int) == 34) = true := by subst hq; rfl
          by_cases hlt2 : i + 1 < s.size
          · have hltb2 : decide ((i : Int) + 1 < (s.size : Int)) = true := decide_eq_true (by omega)
            obtain ⟨z, hz⟩ : ∃ z : UInt8, s[i + 1]'hlt2 = z := ⟨_, rfl⟩
            by_cases hz34 : z = 34
            · have hzb : ((z.toNat : Int) == 34) = true := by subst hz34; rfl
              have HN := Lib.hid (HI.out.in_two hlt (by rw [hy, hq]) (by rw [head_drop s i hlt2, hz, hz34]))
              rw [hy] at HN
              clear hq hz34
              go_wp2
              go_roundg (gk - 1)
              case measure => omega
              case rel =>
                refine ⟨i + 2, rows, row, fb ++ s.extract i (i + 1), 2, op, W0, by omega, by omega, rfl, rfl, rfl, by go_num, ?_, ?_, ?_, HT.out, ?_⟩
                · first | omega | (simp; done) | (simp; omega)
                · first | omega | (simp; done) | (simp; omega)
                · rw [ByteArray.size_append, hsz]; omega
                · rw [HBS.out]; exact HN.out
            · have hzb : ((z.toNat : Int) == 34) = false := byte_ne (n := 34) (toNat_ne hz34)
              have HN := Lib.hid (HI.out.in_end hlt (by rw [hy, hq]) (by rw [head_drop s i hlt2, hz]; simpa using hz34))
              clear hq hz34
              go_wp2
              go_roundg (gk - 1)
              case measure => omega
              case rel =>
                refine ⟨i + 1, rows, row, fb, 3, op, W0, by omega, by omega, rfl, rfl, rfl, by go_num, ?_, ?_, ?_, HT.out, ?_⟩
                · first | omega | (simp; done) | (simp; omega)
                · first | omega | (simp; done) | (simp; omega)
                · omega
                · exact HN.out
          · have hltb2 : decide ((i : Int) + 1 < (s.size : Int)) = false := decide_eq_false (by omega)
            have HN := Lib.hid (HI.out.in_end hlt (by rw [hy, hq]) (head_over s i hlt2 _))
            clear hq
            go_wp2
            go_roundg (gk - 1)
            case measure => omega
            case rel =>
              refine ⟨i + 1, rows, row, fb, 3, op, W0, by omega, by omega, rfl, rfl, rfl, by go_num, ?_, ?_, ?_, HT.out, ?_⟩
              · first | omega | (simp; done) | (simp; omega)
              · first | omega | (simp; done) | (simp; omega)
              · omega
              · exact HN.out
        · have hyb : ((y.toNat : Int) != 34) = true := byte_bne (n := 34) (toNat_ne hq)
          have HN := Lib.hid (HI.out.in_byte hlt (by rw [hy]; exact hq))
          rw [hy] at HN
          clear hq
          go_wp2
          go_roundg (gk - 1)
          case measure => omega
          case rel =>
            refine ⟨i + 1, rows, row, fb ++ s.extract i (i + 1), 2, op, W0, by omega, by omega, rfl, rfl, rfl, by go_num, ?_, ?_, ?_, HT.out, ?_⟩
            · first | omega | (simp; done) | (simp; omega)
            · first | omega | (simp; done) | (simp; omega)
            · rw [ByteArray.size_append, hsz]; omega
            · rw [HBS.out]; exact HN.out
      · have hstb : ((st : Int) == 2) = false := by rw [beq_eq_false_iff_ne]; omega
        by_cases hsepc : y = c
        · have hyb : ((y.toNat : Int) == sep) = true := by rw [HC.out, hsepc]; simp
          have HN := Lib.hid (HI.out.sep hst hlt (by rw [hy, hsepc]))
          clear hsepc
          obtain ⟨i0, hi0, hz0, hz1, hz2⟩ := info_parts Tryd.infoStr
          have hrow := HT.out.row
          have hsz1 := HT.out.size
          go_wp2_with (at_builtin; refine wpList_append_own _ rfl _ _ 35 rfl W0.heap.size 9 i0 (.string { data := #[] }) 1 16 Tryd.underlying35 hi0 hz0 hz1 hz2 rfl (by decide) u7 row.length (strCells row) rfl (World.ownsRow.alloc hrow _) ⟨wr.heap.size, 0, none⟩ 1 1 [.string fb] rfl rfl (cell_one_new _ _ _) (one_mem rfl) (by unfold maxLen; omega) (by omega) (by simp; omega) ?_)
          intro v3 w3 hown3 hgrow3 _
          have HT3 := Lib.hid (HT.out.put fb _ hown3 hgrow3)
          clear hown3 hgrow3 hrow hsz1 hi0 hz0 hz1 hz2
          go_wp2
          go_roundg (gk - 1)
          case measure => omega
          case rel =>
            refine ⟨i + 1, rows, row ++ [fb.data.toList], ByteArray.empty, 0, true, W0, by omega, by omega, rfl, rfl, rfl, by go_num, ?_, ?_, ?_, HT3.out, ?_⟩
            · first | omega | (simp; done) | (simp; omega)
            · first | omega | (simp; done) | (simp; omega)
            · simp
            · exact HN.out
        · have hyb : ((y.toNat : Int) == sep) = false := by rw [HC.out, beq_eq_false_iff_ne]; intro h; exact hsepc (UInt8.toNat_inj.1 (by omega))
          by_cases h10 : y = 10
          · have hyb10 : ((y.toNat : Int) == 10) = true := by subst h10; rfl
            have hyb13 : ((y.toNat : Int) == 13) = false := by subst h10; rfl
            have HN := Lib.hid (HI.out.nl hst hlt (by rw [hy]; exact hsepc) (by rw [hy, h10]))
            clear hsepc h10
            obtain ⟨i0, hi0, hz0, hz1, hz2⟩ := info_parts Tryd.infoStr
            have hrow := HT.out.row
            have hsz1 := HT.out.size
            go_wp2_with (at_builtin; refine wpList_append_own _ rfl _ _ 35 rfl W0.heap.size 9 i0 (.string { data := #[] }) 1 16 Tryd.underlying35 hi0 hz0 hz1 hz2 rfl (by decide) u7 row.length (strCells row) rfl (World.ownsRow.alloc hrow _) ⟨wr.heap.size, 0, none⟩ 1 1 [.string fb] rfl rfl (cell_one_new _ _ _) (one_mem rfl) (by unfold maxLen; omega) (by omega) (by simp; omega) ?_)
            intro v3 w3 hown3 hgrow3 _
            have HT3 := Lib.hid (HT.out.put fb _ hown3 hgrow3)
            clear hown3 hgrow3 hrow hsz1 hi0 hz0 hz1 hz2
            have hform : ∃ a cap, v3 = .slice a (row.length + 1) cap := by
              have := owns_form HT3.out.row; simpa using this
            obtain ⟨av, cv, rfl⟩ := hform
            obtain ⟨vs, hv1, hv2⟩ := HT.out.own
            have hv3 := HT3.out.k31.owns hv1
            have hsz3 : K ≤ w3.heap.size := Nat.le_trans HT3.out.base HT3.out.size
            have HV1 := Lib.hid hv1; clear hv1
            have HV2 := Lib.hid hv2; clear hv2
            obtain ⟨i1, hi1, hz0, hz1, hz2⟩ := info_parts Tryd.infoStrs
            go_wp2_with (at_builtin; refine wpList_append_own _ rfl _ _ 31 rfl K 35 i1 (.slice none 0 0) 1 24 Tryd.underlying31 hi1 hz0 hz1 hz2 rfl (by decide) u6 rows.length vs rfl (hv3.alloc _) ⟨w3.heap.size, 0, none⟩ 1 1 [.slice av (row.length + 1) cv] rfl rfl (cell_one_new _ _ _) (one_mem rfl) (by unfold maxLen; omega) (by omega) (by simp; omega) ?_)
            intro v5 w5 hown5 hgrow5 _
            have HT5 := Lib.hid (HT3.out.push HV1.out HV2.out hown5 hgrow5)
            clear hown5 hgrow5 hv3 hsz3 hi1 hz0 hz1 hz2
            go_wp2
            go_roundg (gk - 1)
            case measure => omega
            case rel =>
              refine ⟨i + 1, rows ++ [row ++ [fb.data.toList]], [], ByteArray.empty, 0, false, w5, by omega, by omega, rfl, rfl, rfl, by go_num, ?_, ?_, ?_, HT5.out, ?_⟩
              · first | omega | (simp; done) | (simp; omega)
              · first | omega | (simp; done) | (simp; omega)
              · simp
              · exact HN.out
          · have hyb10 : ((y.toNat : Int) == 10) = false := byte_ne (n := 10) (toNat_ne h10)
            by_cases h13 : y = 13
            · have hyb13 : ((y.toNat : Int) == 13) = true := by subst h13; rfl
              by_cases hlt2 : i + 1 < s.size
              · have hltb2 : decide ((i : Int) + 1 < (s.size : Int)) = true := decide_eq_true (by omega)
                obtain ⟨z, hz⟩ : ∃ z : UInt8, s[i + 1]'hlt2 = z := ⟨_, rfl⟩
                by_cases hz10 : z = 10
                · have hzb : ((z.toNat : Int) == 10) = true := by subst hz10; rfl
                  have HN := Lib.hid (HI.out.crnl hst hlt (by rw [hy]; exact hsepc) (by rw [hy, h13]) (by rw [head_drop s i hlt2, hz, hz10]))
                  clear hsepc h10 h13 hz10
                  obtain ⟨i0, hi0, hz0, hz1, hz2⟩ := info_parts Tryd.infoStr
                  have hrow := HT.out.row
                  have hsz1 := HT.out.size
                  go_wp2_with (at_builtin; refine wpList_append_own _ rfl _ _ 35 rfl W0.heap.size 9 i0 (.string { data := #[] }) 1 16 Tryd.underlying35 hi0 hz0 hz1 hz2 rfl (by decide) u7 row.length (strCells row) rfl (World.ownsRow.alloc hrow _) ⟨wr.heap.size, 0, none⟩ 1 1 [.string fb] rfl rfl (cell_one_new _ _ _) (one_mem rfl) (by unfold maxLen; omega) (by omega) (by simp; omega) ?_)
                  intro v3 w3 hown3 hgrow3 _
                  have HT3 := Lib.hid (HT.out.put fb _ hown3 hgrow3)
                  clear hown3 hgrow3 hrow hsz1 hi0 hz0 hz1 hz2
                  have hform : ∃ a cap, v3 = .slice a (row.length + 1) cap := by
                    have := owns_form HT3.out.row; simpa using this
                  obtain ⟨av, cv, rfl⟩ := hform
                  obtain ⟨vs, hv1, hv2⟩ := HT.out.own
                  have hv3 := HT3.out.k31.owns hv1
                  have hsz3 : K ≤ w3.heap.size := Nat.le_trans HT3.out.base HT3.out.size
                  have HV1 := Lib.hid hv1; clear hv1
                  have HV2 := Lib.hid hv2; clear hv2
                  obtain ⟨i1, hi1, hz0, hz1, hz2⟩ := info_parts Tryd.infoStrs
                  go_wp2_with (at_builtin; refine wpList_append_own _ rfl _ _ 31 rfl K 35 i1 (.slice none 0 0) 1 24 Tryd.underlying31 hi1 hz0 hz1 hz2 rfl (by decide) u6 rows.length vs rfl (hv3.alloc _) ⟨w3.heap.size, 0, none⟩ 1 1 [.slice av (row.length + 1) cv] rfl rfl (cell_one_new _ _ _) (one_mem rfl) (by unfold maxLen; omega) (by omega) (by simp; omega) ?_)
                  intro v5 w5 hown5 hgrow5 _
                  have HT5 := Lib.hid (HT3.out.push HV1.out HV2.out hown5 hgrow5)
                  clear hown5 hgrow5 hv3 hsz3 hi1 hz0 hz1 hz2
                  go_wp2
                  go_roundg (gk - 1)
                  case measure => omega
                  case rel =>
                    refine ⟨i + 2, rows ++ [row ++ [fb.data.toList]], [], ByteArray.empty, 0, false, w5, by omega, by omega, rfl, rfl, rfl, by go_num, ?_, ?_, ?_, HT5.out, ?_⟩
                    · first | omega | (simp; done) | (simp; omega)
                    · first | omega | (simp; done) | (simp; omega)
                    · simp
                    · exact HN.out
                · have hzb : ((z.toNat : Int) == 10) = false := byte_ne (n := 10) (toNat_ne hz10)
                  have HN := Lib.hid (HI.out.cr hst hlt (by rw [hy]; exact hsepc) (by rw [hy, h13]) (by rw [head_drop s i hlt2, hz]; simpa using hz10))
                  clear hsepc h10 h13 hz10
                  go_wp2
                  go_ret2
                  unfold RefPost
                  rw [HN.out, HK.out]
                  exact ⟨HT.out.below, rfl⟩
              · have hltb2 : decide ((i : Int) + 1 < (s.size : Int)) = false := decide_eq_false (by omega)
                have HN := Lib.hid (HI.out.cr hst hlt (by rw [hy]; exact hsepc) (by rw [hy, h13]) (head_over s i hlt2 _))
                clear hsepc h10 h13
                go_wp2
                go_ret2
                unfold RefPost
                rw [HN.out, HK.out]
                exact ⟨HT.out.below, rfl⟩
            · have hyb13 : ((y.toNat : Int) == 13) = false := byte_ne (n := 13) (toNat_ne h13)
              by_cases hq : y = 34
              · have hybq : ((y.toNat : Int) == 34) = true := by subst hq; rfl
                by_cases hst0 : st = 0
                · subst hst0
                  have HN := Lib.hid (HI.out.quote hlt (by rw [hy]; exact hsepc) (by rw [hy, hq]))
                  clear hsepc h10 h13 hq hst
                  go_wp2
                  go_roundg (gk - 1)
                  case measure => omega
                  case rel =>
                    refine ⟨i + 1, rows, row, fb, 2, true, W0, by omega, by omega, rfl, rfl, rfl, by go_num, ?_, ?_, ?_, HT.out, ?_⟩
                    · first | omega | (simp; done) | (simp; omega)
                    · first | omega | (simp; done) | (simp; omega)
                    · omega
                    · exact HN.out
                · have hst0b : ((st : Int) == 0) = false := by rw [beq_eq_false_iff_ne]; omega
                  have HN := Lib.hid (HI.out.bad hst hlt (by rw [hy]; exact hsepc) (by rw [hy]; exact h10) (by rw [hy]; exact h13) (fun h => hst0 h.2) (.inl (by rw [hy, hq])))
                  clear hsepc h10 h13 hq hst hst0
                  go_wp2
                  go_ret2
                  unfold RefPost
                  rw [HN.out, HK.out]
                  exact ⟨HT.out.below, rfl⟩
              · have hybq : ((y.toNat : Int) == 34) = false := byte_ne (n := 34) (toNat_ne hq)
                by_cases hst3 : st = 3
                · have HN := Lib.hid (HI.out.bad hst hlt (by rw [hy]; exact hsepc) (by rw [hy]; exact h10) (by rw [hy]; exact h13) (fun h => hq (by rw [← hy]; exact h.1)) (.inr hst3))
                  subst hst3
                  clear hsepc h10 h13 hq hst
                  go_wp2
                  go_ret2
                  unfold RefPost
                  rw [HN.out, HK.out]
                  exact ⟨HT.out.below, rfl⟩
                · have hst3b : ((st : Int) == 3) = false := by rw [beq_eq_false_iff_ne]; omega
                  have HN := Lib.hid (HI.out.byte hst hlt (by rw [hy]; exact hsepc) (by rw [hy]; exact h10) (by rw [hy]; exact h13) (by rw [hy]; exact hq) hst3)
                  rw [hy] at HN
                  clear hsepc h10 h13 hq hst hst3
                  go_wp2
                  go_roundg (gk - 1)
                  case measure => omega
                  case rel =>
                    refine ⟨i + 1, rows, row, fb ++ s.extract i (i + 1), 1, true, W0, by omega, by omega, rfl, rfl, rfl, by go_num, ?_, ?_, ?_, HT.out, ?_⟩
                    · first | omega | (simp; done) | (simp; omega)
                    · first | omega | (simp; done) | (simp; omega)
                    · rw [ByteArray.size_append, hsz]; omega
                    · rw [HBS.out]; exact HN.out
    · have hieq : i = s.size := by omega
      have hltb : decide ((i : Int) < (s.size : Int)) = false := decide_eq_false (by omega)
      have HN := Lib.hid (HI.out.over hieq)
      have HIE := Lib.hid hieq; clear hieq
      by_cases hst : st = 2
      · subst hst
        go_wp2
        go_ret2
        unfold RefPost
        rw [HN.out, HK.out, HIE.out]
        exact ⟨HT.out.below, rfl⟩
      · have hstb : ((st : Int) == 2) = false := by rw [beq_eq_false_iff_ne]; omega
        have HST := Lib.hid hst; clear hst
        cases op with
        | true =>
          obtain ⟨i0, hi0, hz0, hz1, hz2⟩ := info_parts Tryd.infoStr
          have hrow := HT.out.row
          have hsz1 := HT.out.size
          go_wp2_with (at_builtin; refine wpList_append_own _ rfl _ _ 35 rfl W0.heap.size 9 i0 (.string { data := #[] }) 1 16 Tryd.underlying35 hi0 hz0 hz1 hz2 rfl (by decide) u7 row.length (strCells row) rfl (World.ownsRow.alloc hrow _) ⟨wr.heap.size, 0, none⟩ 1 1 [.string fb] rfl rfl (cell_one_new _ _ _) (one_mem rfl) (by unfold maxLen; omega) (by omega) (by simp; omega) ?_)
          intro v3 w3 hown3 hgrow3 _
          have HT3 := Lib.hid (HT.out.put fb _ hown3 hgrow3)
          clear hown3 hgrow3 hrow hsz1 hi0 hz0 hz1 hz2
          have hform : ∃ a cap, v3 = .slice a (row.length + 1) cap := by
            have := owns_form HT3.out.row; simpa using this
          obtain ⟨av, cv, rfl⟩ := hform
          obtain ⟨vs, hv1, hv2⟩ := HT.out.own
          have hv3 := HT3.out.k31.owns hv1
          have hsz3 : K ≤ w3.heap.size := Nat.le_trans HT3.out.base HT3.out.size
          have HV1 := Lib.hid hv1; clear hv1
          have HV2 := Lib.hid hv2; clear hv2
          obtain ⟨i1, hi1, hz0, hz1, hz2⟩ := info_parts Tryd.infoStrs
          go_wp2_with (at_builtin; refine wpList_append_own _ rfl _ _ 31 rfl K 35 i1 (.slice none 0 0) 1 24 Tryd.underlying31 hi1 hz0 hz1 hz2 rfl (by decide) u6 rows.length vs rfl (hv3.alloc _) ⟨w3.heap.size, 0, none⟩ 1 1 [.slice av (row.length + 1) cv] rfl rfl (cell_one_new _ _ _) (one_mem rfl) (by unfold maxLen; omega) (by omega) (by simp; omega) ?_)
          intro v5 w5 hown5 hgrow5 _
          have HT5 := Lib.hid (HT3.out.push HV1.out HV2.out hown5 hgrow5)
          clear hown5 hgrow5 hv3 hsz3 hi1 hz0 hz1 hz2
          go_wp2
          go_ret2
          unfold RefPost
          rw [HN.out, HK.out, if_neg HST.out]
          refine ⟨HT5.out.below, _, rfl, ?_⟩
          have := HT5.out.own
          rw [show fb.data.toList = fb.data.toList from rfl] at this
          exact this
        | false =>
          go_wp2
          go_ret2
          unfold RefPost
          rw [HN.out, HK.out, if_neg HST.out]
          exact ⟨HT.out.below, _, rfl, HT.out.own.keep HT.out.k31 HT.out.k9⟩
end Go.Proofs.YtjndiielolphgaaDoor
