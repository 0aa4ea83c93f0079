/- Contracts of the program's functions, joined from smaller texts. Conditions stand at each theorem. -/
import Derived.Test.YtjcdeeahjkfmoaaGreatDoorDecB
import Derived.Deep.DeepCutAuto
import Derived.Test.YtjcdeeahjkfmoaaGreatDoorRows
import Derived.Test.YtjcdeeahjkfmoaaGreatDoorNumA
import Derived.Lib.DecodeN
import Derived.Laws.BitsLemmas
import Derived.Laws.BitsAllLaws
import Derived.Laws.RangeAny
set_option linter.unusedVariables false
set_option linter.unusedSimpArgs false
set_option maxRecDepth 100000
set_option maxHeartbeats 4000000
namespace Go.Proofs.YtjcdeeahjkfmoaaGreatDoor.Num
open Go.RowKit Go.Lib
theorem digOk_all {l : List UInt8} (h : digOk l = true) : AllDigits l := by
 intro c hc
 unfold digOk at h
 rw [Bool.and_eq_true, Bool.and_eq_true, List.all_eq_true] at h
 exact (isDig_iff c).1 (h.1.1 c hc)
theorem digOk_dec {l : List UInt8} (h : digOk l = true) : l = Lib.decDigits (decVal l) := by
 refine decDigits_of l (digOk_all h) ?_ ?_
 ·unfold digOk at h
  rw [Bool.and_eq_true, Bool.and_eq_true] at h
  exact of_decide_eq_true h.1.2
 ·intro h48
  unfold digOk at h
  rw [Bool.and_eq_true, Bool.or_eq_true] at h
  rcases h.2 with h2 | h2
  ·exact absurd h48 (of_decide_eq_true h2)
  ·rw [of_decide_eq_true h2]; rfl
theorem frac_made {m : Bool} {t d : ByteArray} (h1 : digOk t.data.toList = true) (h2 : digOk d.data.toList = true) (h3 : d ≠ ⟨#[48]⟩) (h4 : ¬ (m = true ∧ t = ⟨#[48]⟩)) (h5 : t.size ≤ 300) (h6 : d.size ≤ 300)
  (hg : Nat.gcd (decVal t.data.toList) (decVal d.data.toList) = 1) : ∃ q, fits q = true ∧ (if m then (⟨(45 :: t.data.toList).toArray⟩ : ByteArray) else t) = numS q ∧ d = denS q := by
 have e1 := digOk_dec h1
 have e2 := digOk_dec h2
 have d0 : decVal d.data.toList ≠ 0 := by
  intro e
  rw [e, decDigits_zero] at e2
  exact h3 (ByteArray.ext (Array.toList_inj.1 e2))
 have k1 := ratOf_up m (decVal t.data.toList) d0
 have k2 := ratOf_den m (decVal t.data.toList) d0
 have k3 := ratOf_neg m (decVal t.data.toList) d0
 rw [hg, Nat.div_one] at k1 k2
 have hm : neg (ratOf m (decVal t.data.toList) (decVal d.data.toList)) = m := by
  rw [k3]
  cases m with
  | false => rfl
  | true =>
   rw [Bool.true_and]
   refine decide_eq_true (fun e => h4 ⟨rfl, ?_⟩)
   rw [e, decDigits_zero] at e1
   exact ByteArray.ext (Array.toList_inj.1 e1)
 refine ⟨ratOf m (decVal t.data.toList) (decVal d.data.toList), ?_, ?_, ?_⟩
 ·unfold fits
  rw [k1, k2, ← e1, ← e2, Array.length_toList, Array.length_toList, decide_eq_true (show t.data.size ≤ 300 from h5), decide_eq_true (show d.data.size ≤ 300 from h6)]; rfl
 ·unfold numS numText
  rw [hm, k1, ← e1]
  cases m <;> rfl
 ·unfold denS denText
  rw [k2, ← e2]
def FErrRet (w : World) (s d : ByteArray) : Ending → World → Prop := fun e w' => ∃ c : Int, e = .returned (.int .i64 c) ∧ Below w.heap.size w w' ∧ (c = 0 → ∃ q, fits q = true ∧ s = numS q ∧ d = denS q)
theorem FErrRet.no {w w' : World} {s d : ByteArray} {c : Int} (hc : c ≠ 0) (hb : Below w.heap.size w w') : FErrRet w s d (.returned (.int .i64 c)) w' := ⟨c, rfl, hb, fun h => absurd h hc⟩
theorem fracErr_pos (s d : ByteArray) (w : World) (hs : s.size ≤ 1000000000) (hd : d.size ≤ 1000000000) (hs1 : 0 < s.size) (h45 : (s[0]'hs1).toNat ≠ 45) :
  Calls Tryz.prog 47 #[.agg #[.string s, .string d]] w (FErrRet w s d) := by
 obtain ⟨x0, hx⟩ : ∃ x0, (s[0]'hs1).toNat = x0 := ⟨_, rfl⟩
 have m0 : x0 < 256 := by rw [← hx]; exact UInt8.toNat_lt _
 rw [hx] at h45
 have hem := bytes_some (fun e : s = ⟨#[]⟩ => by rw [e] at hs1; exact absurd hs1 (by decide))
 have hj1 : (0 : Int) < (s.size : Int) := by omega
 have q1 : ((x0 : Int) == 45) = false := by rw [beq_eq_false_iff_ne]; omega
 have q1n : (x0 == 45) = false := by rw [beq_eq_false_iff_ne]; exact h45
 have hts : (s).size ≤ 1000000000 := by exact hs
 have HST : Hid (s = if false then (⟨(45 :: (s).data.toList).toArray⟩ : ByteArray) else s) := by
  show _ = _
  rw [if_neg (by decide)]
 have HSZ : Hid (∀ a : ByteArray, a.data.toList.length = a.size) := fun a => by rw [Array.length_toList]; rfl
 have TT := hid (fun W => rdigits_any s W hts)
 have TD := hid (fun W => rdigits_any d W hd)
 obtain ⟨qHX, hb⟩ := rone_new w (.cells #[.string s, .string d] 30)
 have HX := hid qHX
 have HL := hid hb
 clear hb qHX
 obtain ⟨W0, hW0⟩ : ∃ W0, (w.alloc (.cells #[.string s, .string d] 30)) = W0 := ⟨_, rfl⟩
 rw [hW0] at HL HX
 have HW := hid hW0
 clear hW0
 clear hts hd hs
 go_enter Tryz.func47, Tryz.ntmps47
 go_wp2_with fail
 rw [HW.out]
 obtain ⟨⟨cHX0, cHX1⟩, fHX0, fHX1⟩ := two_at HX.out
 go_upto_region 4 with fail
 by_cases h1 : digOk s.data.toList = true
 ·rw [h1] at TT
  have H1 := hid h1
  clear h1
  go_wp2_with fail
  refine (TT.out _).mono ?_
  rintro e wr ⟨rfl, hwr⟩
  have hwr2 := hwr.symm
  subst hwr2
  clear hwr
  by_cases h2 : digOk d.data.toList = true
  ·rw [h2] at TD
   have H2 := hid h2
   clear h2
   go_wp2_with fail
   refine (TD.out _).mono ?_
   rintro e wr ⟨rfl, hwr⟩
   have hwr2 := hwr.symm
   subst hwr2
   clear hwr
   by_cases h3 : d = ⟨#[48]⟩
   ·have hz3 : (d.toList == [48]) = true := by rw [h3]; rw [ByteArray.toList_eq]; rfl
    clear h3
    go_wp2
    go_ret
    exact FErrRet.no (by decide) HL.out
   ·have hz3 := bytes_zero h3
    have H3 := hid h3
    clear h3
    have H4 : Hid (¬ (false = true ∧ s = ⟨#[48]⟩)) := fun h => Bool.noConfusion h.1
    by_cases h5 : s.size ≤ 300
    ·have q5 : decide ((300 : Int) < (s.size : Int)) = false := decide_eq_false (by omega)
     have q5n : decide (300 < s.size) = false := decide_eq_false (by omega)
     have H5 := hid h5
     by_cases h6 : d.size ≤ 300
     ·have q6 : decide ((300 : Int) < (d.size : Int)) = false := decide_eq_false (by omega)
      have q6n : decide (300 < d.size) = false := decide_eq_false (by omega)
      have H6 := hid h6
      clear h5 h6
      have T1 := hid (fun W => dcalls_shaped (natOf_any s W (by have := H5.out; omega) (digOk_all H1.out)))
      have T2 := hid (fun W => dcalls_shaped (natOf_any d W (by have := H6.out; omega) (digOk_all H2.out)))
      obtain ⟨X, hX⟩ : ∃ X, decVal s.data.toList = X := ⟨_, rfl⟩
      obtain ⟨Y, hY⟩ : ∃ Y, decVal d.data.toList = Y := ⟨_, rfl⟩
      have lX : (digs 10 X).length ≤ 300 := by
       by_cases h : X = 0
       ·subst h; exact Nat.le_trans (Nat.le_of_eq (show (digs 10 0).length = 0 by unfold digs; rfl)) (by omega)
       ·rw [digs_ten_len X h, ← hX, ← digOk_dec H1.out, HSZ.out]; exact H5.out
      have lY : (digs 10 Y).length ≤ 300 := by
       by_cases h : Y = 0
       ·subst h; exact Nat.le_trans (Nat.le_of_eq (show (digs 10 0).length = 0 by unfold digs; rfl)) (by omega)
       ·rw [digs_ten_len Y h, ← hY, ← digOk_dec H2.out, HSZ.out]; exact H6.out
      have lG : (digs 10 (Nat.gcd X Y)).length ≤ 1000000000 := by
       by_cases h : X = 0
       ·rw [h, Nat.gcd_zero_left]; omega
       ·exact Nat.le_trans (digs_len_mono ten2 (Nat.gcd_le_left Y (Nat.pos_of_ne_zero h))) (by omega)
      have HXX := hid hX; have HYY := hid hY
      rw [hX] at T1
      rw [hY] at T2
      have T3 := hid (fun v1 v2 W h h' => dcalls_shaped (dgcd_any v1 v2 X Y W h h' (by omega) (by omega)))
      have T4 := hid (fun v W h => dtext_any v (Nat.gcd X Y) W h lG)
      obtain ⟨G, hG⟩ : ∃ G, Nat.gcd X Y = G := ⟨_, rfl⟩
      rw [hG] at T3 T4
      have HG := hid hG
      obtain ⟨tx, htx⟩ : ∃ tx, (⟨(Lib.decDigits G).toArray⟩ : ByteArray) = tx := ⟨_, rfl⟩
      rw [htx] at T4
      have HTX := hid htx
      clear hX hY lX lY lG hG htx
      by_cases hg : G = 1
      ·have hz7 : (tx.toList == [49]) = true := by rw [← HTX.out, hg, decDigits_one]; rw [ByteArray.toList_eq]; rfl
       have hz8 : (!tx.toList == [49]) = false := by rw [hz7]; rfl
       have HGG := hid hg
       clear hg
       go_wp2_with fail
       clear cHX0 cHX1 fHX0 fHX1
       replace HX := hid (drew_block HX.out)
       replace HL := hid (show Below w.heap.size w W0.drew from HL.out.drew)
       go_region_held3 (fun W => W.cell? ⟨w.heap.size, 0, none⟩ = some (.string s) ∧ W.cell? ⟨w.heap.size, 1, none⟩ = some (.string d))
        (first | (with_reducible exact rcells2 HX.out) | fail)
        ((first | (go_at_call 54; (with_reducible refine (T1.out _).mono ?_); rintro e W1 ⟨B1, M1, D1, rfl, hp, hb⟩; replace HX := hid (keep_block HX.out hb); replace HL := hid (HL.out.trans (hb.mono HL.out.size)); have N1 := hid hp; clear hp; clear hb) | (go_at_call 54; (with_reducible refine (T2.out _).mono ?_); rintro e W2 ⟨B2, M2, D2, rfl, hp, hb⟩; replace HX := hid (keep_block HX.out hb); replace N1 := hid (N1.out.below hb); replace HL := hid (HL.out.trans (hb.mono HL.out.size)); have N2 := hid hp; clear hp; clear hb) | (go_at_call 53; (with_reducible refine (T3.out _ _ _ N1.out N2.out).mono ?_); rintro e W3 ⟨B3, M3, D3, rfl, hp, hb⟩; replace HX := hid (keep_block HX.out hb); replace N1 := hid (N1.out.below hb); replace N2 := hid (N2.out.below hb); replace HL := hid (HL.out.trans (hb.mono HL.out.size)); have N3 := hid hp; clear hp; clear hb) | (go_at_call 121; (with_reducible refine (T4.out _ _ N3.out).mono ?_); rintro e W4 ⟨rfl, hb⟩; replace HX := hid (keep_block HX.out hb); replace N1 := hid (N1.out.below hb); replace N2 := hid (N2.out.below hb); replace N3 := hid (N3.out.below hb); replace HL := hid (HL.out.trans (hb.mono HL.out.size)); clear hb)))
       go_wp2
       go_ret
       refine ⟨0, rfl, HL.out, fun _ => ?_⟩
       rw [HST.out]
       exact frac_made (m := false) H1.out H2.out H3.out (fun h => Bool.noConfusion h.1) H5.out H6.out (by rw [HXX.out, HYY.out, HG.out]; exact HGG.out)
      ·have hz7 : (tx.toList == [49]) = false := by
        rw [ByteArray.toList_eq, beq_eq_false_iff_ne, ← HTX.out]
        intro e
        have e2 : Lib.decDigits G = Lib.decDigits 1 := by rw [decDigits_one]; exact e
        exact hg (by rw [← decVal_decDigits G, e2, decVal_decDigits])
       have hz8 : (!tx.toList == [49]) = true := by rw [hz7]; rfl
       clear hg
       go_wp2_with fail
       clear cHX0 cHX1 fHX0 fHX1
       replace HX := hid (drew_block HX.out)
       replace HL := hid (show Below w.heap.size w W0.drew from HL.out.drew)
       go_region_held3 (fun W => W.cell? ⟨w.heap.size, 0, none⟩ = some (.string s) ∧ W.cell? ⟨w.heap.size, 1, none⟩ = some (.string d))
        (first | (with_reducible exact rcells2 HX.out) | fail)
        ((first | (go_at_call 54; (with_reducible refine (T1.out _).mono ?_); rintro e W5 ⟨B1, M1, D1, rfl, hp, hb⟩; replace HX := hid (keep_block HX.out hb); replace HL := hid (HL.out.trans (hb.mono HL.out.size)); have N1 := hid hp; clear hp; clear hb) | (go_at_call 54; (with_reducible refine (T2.out _).mono ?_); rintro e W6 ⟨B2, M2, D2, rfl, hp, hb⟩; replace HX := hid (keep_block HX.out hb); replace N1 := hid (N1.out.below hb); replace HL := hid (HL.out.trans (hb.mono HL.out.size)); have N2 := hid hp; clear hp; clear hb) | (go_at_call 53; (with_reducible refine (T3.out _ _ _ N1.out N2.out).mono ?_); rintro e W7 ⟨B3, M3, D3, rfl, hp, hb⟩; replace HX := hid (keep_block HX.out hb); replace N1 := hid (N1.out.below hb); replace N2 := hid (N2.out.below hb); replace HL := hid (HL.out.trans (hb.mono HL.out.size)); have N3 := hid hp; clear hp; clear hb) | (go_at_call 121; (with_reducible refine (T4.out _ _ N3.out).mono ?_); rintro e W8 ⟨rfl, hb⟩; replace HX := hid (keep_block HX.out hb); replace N1 := hid (N1.out.below hb); replace N2 := hid (N2.out.below hb); replace N3 := hid (N3.out.below hb); replace HL := hid (HL.out.trans (hb.mono HL.out.size)); clear hb)))
       go_wp2
       go_ret
       exact FErrRet.no (by decide) HL.out
     ·have q6 : decide ((300 : Int) < (d.size : Int)) = true := decide_eq_true (by omega)
      have q6n : decide (300 < d.size) = true := decide_eq_true (by omega)
      clear h5 h6
      go_wp2
      go_ret
      exact FErrRet.no (by decide) HL.out
    ·have q5 : decide ((300 : Int) < (s.size : Int)) = true := decide_eq_true (by omega)
     have q5n : decide (300 < s.size) = true := decide_eq_true (by omega)
     clear h5
     go_wp2
     go_ret
     exact FErrRet.no (by decide) HL.out
  ·rw [Bool.not_eq_true] at h2
   rw [h2] at TD
   clear h2
   go_wp2_with fail
   refine (TD.out _).mono ?_
   rintro e wr ⟨rfl, hwr⟩
   have hwr2 := hwr.symm
   subst hwr2
   clear hwr
   go_wp2
   go_ret
   exact FErrRet.no (by decide) HL.out
 ·rw [Bool.not_eq_true] at h1
  rw [h1] at TT
  clear h1
  go_wp2_with fail
  refine (TT.out _).mono ?_
  rintro e wr ⟨rfl, hwr⟩
  have hwr2 := hwr.symm
  subst hwr2
  clear hwr
  go_wp2
  go_ret
  exact FErrRet.no (by decide) HL.out
theorem fracErr_neg (s d : ByteArray) (w : World) (hs : s.size ≤ 1000000000) (hd : d.size ≤ 1000000000) (hs1 : 0 < s.size) (h45 : (s[0]'hs1).toNat = 45) :
  Calls Tryz.prog 47 #[.agg #[.string s, .string d]] w (FErrRet w s d) := by
 obtain ⟨x0, hx⟩ : ∃ x0, (s[0]'hs1).toNat = x0 := ⟨_, rfl⟩
 have m0 : x0 < 256 := by rw [← hx]; exact UInt8.toNat_lt _
 rw [hx] at h45
 have hem := bytes_some (fun e : s = ⟨#[]⟩ => by rw [e] at hs1; exact absurd hs1 (by decide))
 have hj1 : (0 : Int) < (s.size : Int) := by omega
 subst h45
 have hge : (1 : Int) ≤ (s.size : Int) := by omega
 have hge2 : 1 ≤ s.size := by omega
 have hmx : s.size ≤ 1000000000 := hs
 have hts : (s.extract 1 s.size).size ≤ 1000000000 := by rw [ByteArray.size_extract]; omega
 have HST : Hid (s = if true then (⟨(45 :: (s.extract 1 s.size).data.toList).toArray⟩ : ByteArray) else s.extract 1 s.size) := by
  obtain ⟨l, hl⟩ : ∃ l, s = ⟨(45 :: l).toArray⟩ := by
   have hdl : s.data.toList ≠ [] := fun e => by have := Array.length_toList (xs := s.data); rw [e] at this; have h2 : s.data.size = s.size := rfl; simp at this; omega
   obtain ⟨c, l, hcl⟩ := List.exists_cons_of_ne_nil hdl
   have hc0 : (s[0]'hs1) = c := by
    have h1 : (s[0]'hs1) = s.data.toList[0]'(by rw [Array.length_toList]; exact hs1) := rfl
    rw [h1]; simp [hcl]
   refine ⟨l, ByteArray.ext ?_⟩
   rw [show (45 : UInt8) = c from by rw [← hc0]; exact (UInt8.toNat_inj.1 hx).symm, ← hcl]
  have h2 := (cut_first 45 l s hl).1
  show _ = _
  rw [if_pos rfl, h2, hl]
 obtain ⟨t, ht⟩ : ∃ t, s.extract 1 s.size = t := ⟨_, rfl⟩
 rw [ht] at hts HST
 have HT := hid ht
 have HSZ : Hid (∀ a : ByteArray, a.data.toList.length = a.size) := fun a => by rw [Array.length_toList]; rfl
 have TT := hid (fun W => rdigits_any t W hts)
 have TD := hid (fun W => rdigits_any d W hd)
 obtain ⟨qHX, hb⟩ := rone_new w (.cells #[.string s, .string d] 30)
 have HX := hid qHX
 have HL := hid hb
 clear hb qHX ht
 obtain ⟨W0, hW0⟩ : ∃ W0, (w.alloc (.cells #[.string s, .string d] 30)) = W0 := ⟨_, rfl⟩
 rw [hW0] at HL HX
 have HW := hid hW0
 clear hW0
 clear hts hd hs
 go_enter Tryz.func47, Tryz.ntmps47
 go_wp2_with fail
 rw [HW.out]
 obtain ⟨⟨cHX0, cHX1⟩, fHX0, fHX1⟩ := two_at HX.out
 go_upto_region 4 with fail
 rw [HT.out]
 by_cases h1 : digOk t.data.toList = true
 ·rw [h1] at TT
  have H1 := hid h1
  clear h1
  go_wp2_with fail
  refine (TT.out _).mono ?_
  rintro e wr ⟨rfl, hwr⟩
  have hwr2 := hwr.symm
  subst hwr2
  clear hwr
  by_cases h2 : digOk d.data.toList = true
  ·rw [h2] at TD
   have H2 := hid h2
   clear h2
   go_wp2_with fail
   refine (TD.out _).mono ?_
   rintro e wr ⟨rfl, hwr⟩
   have hwr2 := hwr.symm
   subst hwr2
   clear hwr
   by_cases h3 : d = ⟨#[48]⟩
   ·have hz3 : (d.toList == [48]) = true := by rw [h3]; rw [ByteArray.toList_eq]; rfl
    clear h3
    go_wp2
    go_ret
    exact FErrRet.no (by decide) HL.out
   ·have hz3 := bytes_zero h3
    have H3 := hid h3
    clear h3
    by_cases h4 : t = ⟨#[48]⟩
    ·have hz4 : (t.toList == [48]) = true := by rw [h4]; rw [ByteArray.toList_eq]; rfl
     clear h4
     go_wp2
     go_ret
     exact FErrRet.no (by decide) HL.out
    ·have hz4 := bytes_zero h4
     have H4 : Hid (¬ (true = true ∧ t = ⟨#[48]⟩)) := fun h => h4 h.2
     clear h4
     by_cases h5 : t.size ≤ 300
     ·have q5 : decide ((300 : Int) < (t.size : Int)) = false := decide_eq_false (by omega)
      have q5n : decide (300 < t.size) = false := decide_eq_false (by omega)
      have H5 := hid h5
      by_cases h6 : d.size ≤ 300
      ·have q6 : decide ((300 : Int) < (d.size : Int)) = false := decide_eq_false (by omega)
       have q6n : decide (300 < d.size) = false := decide_eq_false (by omega)
       have H6 := hid h6
       clear h5 h6
       have T1 := hid (fun W => dcalls_shaped (natOf_any t W (by have := H5.out; omega) (digOk_all H1.out)))
       have T2 := hid (fun W => dcalls_shaped (natOf_any d W (by have := H6.out; omega) (digOk_all H2.out)))
       obtain ⟨X, hX⟩ : ∃ X, decVal t.data.toList = X := ⟨_, rfl⟩
       obtain ⟨Y, hY⟩ : ∃ Y, decVal d.data.toList = Y := ⟨_, rfl⟩
       have lX : (digs 10 X).length ≤ 300 := by
        by_cases h : X = 0
        ·subst h; exact Nat.le_trans (Nat.le_of_eq (show (digs 10 0).length = 0 by unfold digs; rfl)) (by omega)
        ·rw [digs_ten_len X h, ← hX, ← digOk_dec H1.out, HSZ.out]; exact H5.out
       have lY : (digs 10 Y).length ≤ 300 := by
        by_cases h : Y = 0
        ·subst h; exact Nat.le_trans (Nat.le_of_eq (show (digs 10 0).length = 0 by unfold digs; rfl)) (by omega)
        ·rw [digs_ten_len Y h, ← hY, ← digOk_dec H2.out, HSZ.out]; exact H6.out
       have lG : (digs 10 (Nat.gcd X Y)).length ≤ 1000000000 := by
        by_cases h : X = 0
        ·rw [h, Nat.gcd_zero_left]; omega
        ·exact Nat.le_trans (digs_len_mono ten2 (Nat.gcd_le_left Y (Nat.pos_of_ne_zero h))) (by omega)
       have HXX := hid hX; have HYY := hid hY
       rw [hX] at T1
       rw [hY] at T2
       have T3 := hid (fun v1 v2 W h h' => dcalls_shaped (dgcd_any v1 v2 X Y W h h' (by omega) (by omega)))
       have T4 := hid (fun v W h => dtext_any v (Nat.gcd X Y) W h lG)
       obtain ⟨G, hG⟩ : ∃ G, Nat.gcd X Y = G := ⟨_, rfl⟩
       rw [hG] at T3 T4
       have HG := hid hG
       obtain ⟨tx, htx⟩ : ∃ tx, (⟨(Lib.decDigits G).toArray⟩ : ByteArray) = tx := ⟨_, rfl⟩
       rw [htx] at T4
       have HTX := hid htx
       clear hX hY lX lY lG hG htx
       by_cases hg : G = 1
       ·have hz7 : (tx.toList == [49]) = true := by rw [← HTX.out, hg, decDigits_one]; rw [ByteArray.toList_eq]; rfl
        have hz8 : (!tx.toList == [49]) = false := by rw [hz7]; rfl
        have HGG := hid hg
        clear hg
        go_wp2_with fail
        clear cHX0 cHX1 fHX0 fHX1
        replace HX := hid (drew_block HX.out)
        replace HL := hid (show Below w.heap.size w W0.drew from HL.out.drew)
        go_region_held3 (fun W => W.cell? ⟨w.heap.size, 0, none⟩ = some (.string s) ∧ W.cell? ⟨w.heap.size, 1, none⟩ = some (.string d))
         (first | (with_reducible exact rcells2 HX.out) | fail)
         ((first | (go_at_call 54; (with_reducible refine (T1.out _).mono ?_); rintro e W1 ⟨B1, M1, D1, rfl, hp, hb⟩; replace HX := hid (keep_block HX.out hb); replace HL := hid (HL.out.trans (hb.mono HL.out.size)); have N1 := hid hp; clear hp; clear hb) | (go_at_call 54; (with_reducible refine (T2.out _).mono ?_); rintro e W2 ⟨B2, M2, D2, rfl, hp, hb⟩; replace HX := hid (keep_block HX.out hb); replace N1 := hid (N1.out.below hb); replace HL := hid (HL.out.trans (hb.mono HL.out.size)); have N2 := hid hp; clear hp; clear hb) | (go_at_call 53; (with_reducible refine (T3.out _ _ _ N1.out N2.out).mono ?_); rintro e W3 ⟨B3, M3, D3, rfl, hp, hb⟩; replace HX := hid (keep_block HX.out hb); replace N1 := hid (N1.out.below hb); replace N2 := hid (N2.out.below hb); replace HL := hid (HL.out.trans (hb.mono HL.out.size)); have N3 := hid hp; clear hp; clear hb) | (go_at_call 121; (with_reducible refine (T4.out _ _ N3.out).mono ?_); rintro e W4 ⟨rfl, hb⟩; replace HX := hid (keep_block HX.out hb); replace N1 := hid (N1.out.below hb); replace N2 := hid (N2.out.below hb); replace N3 := hid (N3.out.below hb); replace HL := hid (HL.out.trans (hb.mono HL.out.size)); clear hb)))
        go_wp2
        go_ret
        refine ⟨0, rfl, HL.out, fun _ => ?_⟩
        rw [HST.out]
        exact frac_made (m := true) H1.out H2.out H3.out (fun h => H4.out ⟨trivial, h.2⟩) H5.out H6.out (by rw [HXX.out, HYY.out, HG.out]; exact HGG.out)
       ·have hz7 : (tx.toList == [49]) = false := by
         rw [ByteArray.toList_eq, beq_eq_false_iff_ne, ← HTX.out]
         intro e
         have e2 : Lib.decDigits G = Lib.decDigits 1 := by rw [decDigits_one]; exact e
         exact hg (by rw [← decVal_decDigits G, e2, decVal_decDigits])
        have hz8 : (!tx.toList == [49]) = true := by rw [hz7]; rfl
        clear hg
        go_wp2_with fail
        clear cHX0 cHX1 fHX0 fHX1
        replace HX := hid (drew_block HX.out)
        replace HL := hid (show Below w.heap.size w W0.drew from HL.out.drew)
        go_region_held3 (fun W => W.cell? ⟨w.heap.size, 0, none⟩ = some (.string s) ∧ W.cell? ⟨w.heap.size, 1, none⟩ = some (.string d))
         (first | (with_reducible exact rcells2 HX.out) | fail)
         ((first | (go_at_call 54; (with_reducible refine (T1.out _).mono ?_); rintro e W5 ⟨B1, M1, D1, rfl, hp, hb⟩; replace HX := hid (keep_block HX.out hb); replace HL := hid (HL.out.trans (hb.mono HL.out.size)); have N1 := hid hp; clear hp; clear hb) | (go_at_call 54; (with_reducible refine (T2.out _).mono ?_); rintro e W6 ⟨B2, M2, D2, rfl, hp, hb⟩; replace HX := hid (keep_block HX.out hb); replace N1 := hid (N1.out.below hb); replace HL := hid (HL.out.trans (hb.mono HL.out.size)); have N2 := hid hp; clear hp; clear hb) | (go_at_call 53; (with_reducible refine (T3.out _ _ _ N1.out N2.out).mono ?_); rintro e W7 ⟨B3, M3, D3, rfl, hp, hb⟩; replace HX := hid (keep_block HX.out hb); replace N1 := hid (N1.out.below hb); replace N2 := hid (N2.out.below hb); replace HL := hid (HL.out.trans (hb.mono HL.out.size)); have N3 := hid hp; clear hp; clear hb) | (go_at_call 121; (with_reducible refine (T4.out _ _ N3.out).mono ?_); rintro e W8 ⟨rfl, hb⟩; replace HX := hid (keep_block HX.out hb); replace N1 := hid (N1.out.below hb); replace N2 := hid (N2.out.below hb); replace N3 := hid (N3.out.below hb); replace HL := hid (HL.out.trans (hb.mono HL.out.size)); clear hb)))
        go_wp2
        go_ret
        exact FErrRet.no (by decide) HL.out
      ·have q6 : decide ((300 : Int) < (d.size : Int)) = true := decide_eq_true (by omega)
       have q6n : decide (300 < d.size) = true := decide_eq_true (by omega)
       clear h5 h6
       go_wp2
       go_ret
       exact FErrRet.no (by decide) HL.out
     ·have q5 : decide ((300 : Int) < (t.size : Int)) = true := decide_eq_true (by omega)
      have q5n : decide (300 < t.size) = true := decide_eq_true (by omega)
      clear h5
      go_wp2
      go_ret
      exact FErrRet.no (by decide) HL.out
  ·rw [Bool.not_eq_true] at h2
   rw [h2] at TD
   clear h2
   go_wp2_with fail
   refine (TD.out _).mono ?_
   rintro e wr ⟨rfl, hwr⟩
   have hwr2 := hwr.symm
   subst hwr2
   clear hwr
   go_wp2
   go_ret
   exact FErrRet.no (by decide) HL.out
 ·rw [Bool.not_eq_true] at h1
  rw [h1] at TT
  clear h1
  go_wp2_with fail
  refine (TT.out _).mono ?_
  rintro e wr ⟨rfl, hwr⟩
  have hwr2 := hwr.symm
  subst hwr2
  clear hwr
  go_wp2
  go_ret
  exact FErrRet.no (by decide) HL.out
theorem fracErr_none (d : ByteArray) (w : World) : Calls Tryz.prog 47 #[.agg #[.string ⟨#[]⟩, .string d]] w (FErrRet w ⟨#[]⟩ d) := by
 have TT := hid (fun W => rdigits_any ⟨#[]⟩ W (by decide))
 have hr : digOk (⟨#[]⟩ : ByteArray).data.toList = false := rfl
 rw [hr] at TT
 clear hr
 obtain ⟨qHX, hb⟩ := rone_new w (.cells #[.string ⟨#[]⟩, .string d] 30)
 have HX := hid qHX
 have HL := hid hb
 clear hb qHX
 obtain ⟨W0, hW0⟩ : ∃ W0, (w.alloc (.cells #[.string ⟨#[]⟩, .string d] 30)) = W0 := ⟨_, rfl⟩
 rw [hW0] at HL HX
 have HW := hid hW0
 clear hW0
 go_enter Tryz.func47, Tryz.ntmps47
 go_wp2_with fail
 rw [HW.out]
 obtain ⟨⟨cHX0, cHX1⟩, fHX0, fHX1⟩ := two_at HX.out
 go_wp2_with fail
 refine (TT.out _).mono ?_
 rintro e wr ⟨rfl, hwr⟩
 have hwr2 := hwr.symm
 subst hwr2
 clear hwr
 go_wp2
 go_ret
 exact FErrRet.no (by decide) HL.out
theorem fracErr_any (s d : ByteArray) (w : World) (hs : s.size ≤ 1000000000) (hd : d.size ≤ 1000000000) : Calls Tryz.prog 47 #[.agg #[.string s, .string d]] w (FErrRet w s d) := by
 by_cases h0 : 0 < s.size
 ·by_cases h1 : (s[0]'h0).toNat = 45
  ·exact fracErr_neg s d w hs hd h0 h1
  ·exact fracErr_pos s d w hs hd h0 h1
 ·have hse : s = ⟨#[]⟩ := ByteArray.ext (Array.eq_empty_of_size_eq_zero (by have : s.data.size = s.size := rfl; omega))
  subst hse
  exact fracErr_none d w
end Go.Proofs.YtjcdeeahjkfmoaaGreatDoor.Num
namespace Go.Proofs.YtjcdeeahjkfmoaaGreatDoor
open Go.RowKit
theorem wraps_i64' (n : Int) (h0 : 0 ≤ n) (h1 : n < 2 ^ 40) : IntKind.i64.wrap n = n := by rw [IntKind.wrap_i64]; omega
theorem i64_and31 (n : Nat) (h : n < 256) : bits .and .i64 (n : Int) 31 = (n : Int) % 32 := bits_mask .i64 40 (by decide) wraps_i64' 5 (by decide) n (by omega) (by omega)
theorem i64_and15 (n : Nat) (h : n < 256) : bits .and .i64 (n : Int) 15 = (n : Int) % 16 := bits_mask .i64 40 (by decide) wraps_i64' 4 (by decide) n (by omega) (by omega)
theorem i64_and7 (n : Nat) (h : n < 256) : bits .and .i64 (n : Int) 7 = (n : Int) % 8 := bits_mask .i64 40 (by decide) wraps_i64' 3 (by decide) n (by omega) (by omega)
theorem i64_join6 (x : Int) (y : Nat) (h0 : 0 ≤ x) (h1 : x < 1073741824) (_hy : y < 256) : bits .or .i64 (x * 64) ((y : Int) % 64) = x * 64 + (y : Int) % 64 :=
 bits_join .i64 40 (by decide) wraps_i64' 6 _ _ (by omega) (by omega) (by omega) (by omega) (by omega) (by omega)
theorem u8_and63 (n : Nat) (h : n < 256) : bits .and .u8 (n : Int) 63 = (n : Int) % 64 := by
 rw [show (63 : Int) = ((63 : Nat) : Int) from rfl, u8_and_nat n 63 h (by omega), nat_mask6]; omega
theorem nat_and192 : ∀ n, n < 256 → n &&& 192 = n / 64 * 64 := by decide
theorem u8_and192 (n : Nat) (h : n < 256) : bits .and .u8 (n : Int) 192 = ((n / 64 * 64 : Nat) : Int) := by
 rw [show (192 : Int) = ((192 : Nat) : Int) from rfl, u8_and_nat n 192 h (by omega), nat_and192 n h]
theorem cont_yes (n : Nat) (h : n < 256) (hc : n / 64 = 2) : bits .and .u8 (n : Int) 192 = 128 := by rw [u8_and192 n h, hc]; rfl
theorem cont_no (n : Nat) (h : n < 256) (hc : ¬ n / 64 = 2) : ((bits .and .u8 (n : Int) 192) != 128) = true := by
 rw [u8_and192 n h, bne_iff_ne]; omega
theorem rune_ascii (s : ByteArray) (x0 : Nat) (w : World) (hn : 1 ≤ s.size) (hs : s.size ≤ 4000000000) (h0 : (s[0]'(by omega)).toNat = x0) (m0 : x0 < 256) (u0 : x0 < 128) :
  Calls Tryz.prog 123 #[.string s] w fun e w' => e = .returned (.tuple #[.int .i64 x0, .int .i64 1]) ∧ w' = w := by
 go_enter Tryz.func123, Tryz.ntmps123
 go_wp2
 go_ret2
 exact ⟨rfl, rfl⟩
theorem rune_low (s : ByteArray) (x0 : Nat) (w : World) (hn : 1 ≤ s.size) (hs : s.size ≤ 4000000000) (h0 : (s[0]'(by omega)).toNat = x0) (m0 : x0 < 256) (l0 : 128 ≤ x0) (u0 : x0 < 194) :
  Calls Tryz.prog 123 #[.string s] w fun e w' => e = .returned (.tuple #[.int .i64 0, .int .i64 0]) ∧ w' = w := by
 go_enter Tryz.func123, Tryz.ntmps123
 go_wp2
 go_ret2
 exact ⟨rfl, rfl⟩
theorem rune_high (s : ByteArray) (x0 : Nat) (w : World) (hn : 1 ≤ s.size) (hs : s.size ≤ 4000000000) (h0 : (s[0]'(by omega)).toNat = x0) (m0 : x0 < 256) (l0 : 245 ≤ x0) :
  Calls Tryz.prog 123 #[.string s] w fun e w' => e = .returned (.tuple #[.int .i64 0, .int .i64 0]) ∧ w' = w := by
 go_enter Tryz.func123, Tryz.ntmps123
 go_wp2
 go_ret2
 exact ⟨rfl, rfl⟩
theorem rune_short2 (s : ByteArray) (x0 : Nat) (w : World) (hn : 1 ≤ s.size) (hs : s.size ≤ 4000000000) (h0 : (s[0]'(by omega)).toNat = x0) (m0 : x0 < 256) (l0 : 194 ≤ x0) (u0 : x0 < 224) (hk : s.size < 2) :
  Calls Tryz.prog 123 #[.string s] w fun e w' => e = .returned (.tuple #[.int .i64 0, .int .i64 0]) ∧ w' = w := by
 have bm := i64_and31 x0 m0
 go_enter Tryz.func123, Tryz.ntmps123
 go_wp2
 go_ret2
 exact ⟨rfl, rfl⟩
theorem rune_cont21 (s : ByteArray) (x0 x1 : Nat) (w : World) (hn : 2 ≤ s.size) (hs : s.size ≤ 4000000000) (h0 : (s[0]'(by omega)).toNat = x0) (m0 : x0 < 256) (h1 : (s[1]'(by omega)).toNat = x1) (m1 : x1 < 256) (l0 : 194 ≤ x0) (u0 : x0 < 224) (hk : 2 ≤ s.size)  (q1 : ¬ x1 / 64 = 2) :
  Calls Tryz.prog 123 #[.string s] w fun e w' => e = .returned (.tuple #[.int .i64 0, .int .i64 0]) ∧ w' = w := by
 have bm := i64_and31 x0 m0
 have c1 := cont_no x1 m1 q1
 clear q1
 go_enter Tryz.func123, Tryz.ntmps123
 go_wp2
 refine wp_loop_rounds 1 ?_
 rw [rounds_succ]
 go_wp2
 go_ret2
 exact ⟨rfl, rfl⟩
theorem rune_ok2 (s : ByteArray) (x0 x1 : Nat) (w : World) (hn : 2 ≤ s.size) (hs : s.size ≤ 4000000000) (h0 : (s[0]'(by omega)).toNat = x0) (m0 : x0 < 256) (h1 : (s[1]'(by omega)).toNat = x1) (m1 : x1 < 256) (l0 : 194 ≤ x0) (u0 : x0 < 224) (q1 : x1 / 64 = 2)  :
  Calls Tryz.prog 123 #[.string s] w fun e w' => e = .returned (.tuple #[.int .i64 (((x0 : Int) % 32) * 64 + (x1 : Int) % 64), .int .i64 2]) ∧ w' = w := by
 have bm := i64_and31 x0 m0
 have c1 := cont_yes x1 m1 q1
 have d1 := u8_and63 x1 m1
 have o1' := i64_join6 ((x0 : Int) % 32) x1 (by omega) (by omega) m1
 obtain ⟨c, hc⟩ : ∃ c : Int, ((x0 : Int) % 32) * 64 + (x1 : Int) % 64 = c := ⟨_, rfl⟩
 have o1 := o1'.trans hc
 clear o1'
 rw [hc]
 have t0 : decide (c < 128) = false := decide_eq_false (by omega)
 have t1 : decide (55296 ≤ c) = false := decide_eq_false (by omega)
 have t2 : decide (1114111 < c) = false := decide_eq_false (by omega)
 clear hc
 clear q1
 go_enter Tryz.func123, Tryz.ntmps123
 go_wp2
 refine wp_loop_rounds 2 ?_
 rw [rounds_succ]
 go_wp2
 rw [rounds_succ]
 go_wp2
 go_ret2
 exact ⟨rfl, rfl⟩
theorem rune_short3 (s : ByteArray) (x0 : Nat) (w : World) (hn : 1 ≤ s.size) (hs : s.size ≤ 4000000000) (h0 : (s[0]'(by omega)).toNat = x0) (m0 : x0 < 256) (l0 : 224 ≤ x0) (u0 : x0 < 240) (hk : s.size < 3) :
  Calls Tryz.prog 123 #[.string s] w fun e w' => e = .returned (.tuple #[.int .i64 0, .int .i64 0]) ∧ w' = w := by
 have bm := i64_and15 x0 m0
 go_enter Tryz.func123, Tryz.ntmps123
 go_wp2
 go_ret2
 exact ⟨rfl, rfl⟩
theorem rune_cont31 (s : ByteArray) (x0 x1 : Nat) (w : World) (hn : 2 ≤ s.size) (hs : s.size ≤ 4000000000) (h0 : (s[0]'(by omega)).toNat = x0) (m0 : x0 < 256) (h1 : (s[1]'(by omega)).toNat = x1) (m1 : x1 < 256) (l0 : 224 ≤ x0) (u0 : x0 < 240) (hk : 3 ≤ s.size)  (q1 : ¬ x1 / 64 = 2) :
  Calls Tryz.prog 123 #[.string s] w fun e w' => e = .returned (.tuple #[.int .i64 0, .int .i64 0]) ∧ w' = w := by
 have bm := i64_and15 x0 m0
 have c1 := cont_no x1 m1 q1
 clear q1
 go_enter Tryz.func123, Tryz.ntmps123
 go_wp2
 refine wp_loop_rounds 1 ?_
 rw [rounds_succ]
 go_wp2
 go_ret2
 exact ⟨rfl, rfl⟩
theorem rune_cont32 (s : ByteArray) (x0 x1 x2 : Nat) (w : World) (hn : 3 ≤ s.size) (hs : s.size ≤ 4000000000) (h0 : (s[0]'(by omega)).toNat = x0) (m0 : x0 < 256) (h1 : (s[1]'(by omega)).toNat = x1) (m1 : x1 < 256) (h2 : (s[2]'(by omega)).toNat = x2) (m2 : x2 < 256) (l0 : 224 ≤ x0) (u0 : x0 < 240) (hk : 3 ≤ s.size) (q1 : x1 / 64 = 2) (q2 : ¬ x2 / 64 = 2) :
  Calls Tryz.prog 123 #[.string s] w fun e w' => e = .returned (.tuple #[.int .i64 0, .int .i64 0]) ∧ w' = w := by
 have bm := i64_and15 x0 m0
 have c1 := cont_yes x1 m1 q1
 have d1 := u8_and63 x1 m1
 have o1 := i64_join6 ((x0 : Int) % 16) x1 (by omega) (by omega) m1
 have c2 := cont_no x2 m2 q2
 clear q1 q2
 go_enter Tryz.func123, Tryz.ntmps123
 go_wp2
 refine wp_loop_rounds 2 ?_
 rw [rounds_succ]
 go_wp2
 rw [rounds_succ]
 go_wp2
 go_ret2
 exact ⟨rfl, rfl⟩
theorem rune_ok3 (s : ByteArray) (x0 x1 x2 : Nat) (w : World) (hn : 3 ≤ s.size) (hs : s.size ≤ 4000000000) (h0 : (s[0]'(by omega)).toNat = x0) (m0 : x0 < 256) (h1 : (s[1]'(by omega)).toNat = x1) (m1 : x1 < 256) (h2 : (s[2]'(by omega)).toNat = x2) (m2 : x2 < 256) (l0 : 224 ≤ x0) (u0 : x0 < 240) (q1 : x1 / 64 = 2) (q2 : x2 / 64 = 2) (g1 : 2048 ≤ (((x0 : Int) % 16) * 64 + (x1 : Int) % 64) * 64 + (x2 : Int) % 64) (g2 : (((x0 : Int) % 16) * 64 + (x1 : Int) % 64) * 64 + (x2 : Int) % 64 < 55296) :
  Calls Tryz.prog 123 #[.string s] w fun e w' => e = .returned (.tuple #[.int .i64 ((((x0 : Int) % 16) * 64 + (x1 : Int) % 64) * 64 + (x2 : Int) % 64), .int .i64 3]) ∧ w' = w := by
 have bm := i64_and15 x0 m0
 have c1 := cont_yes x1 m1 q1
 have d1 := u8_and63 x1 m1
 have o1 := i64_join6 ((x0 : Int) % 16) x1 (by omega) (by omega) m1
 have c2 := cont_yes x2 m2 q2
 have d2 := u8_and63 x2 m2
 have o2' := i64_join6 (((x0 : Int) % 16) * 64 + (x1 : Int) % 64) x2 (by omega) (by omega) m2
 obtain ⟨c, hc⟩ : ∃ c : Int, (((x0 : Int) % 16) * 64 + (x1 : Int) % 64) * 64 + (x2 : Int) % 64 = c := ⟨_, rfl⟩
 have o2 := o2'.trans hc
 clear o2'
 rw [hc] at g1 g2
 rw [hc]
 have t0 : decide (c < 2048) = false := decide_eq_false (by omega)
 have t1 : decide (55296 ≤ c) = false := decide_eq_false (by omega)
 have t2 : decide (1114111 < c) = false := decide_eq_false (by omega)
 clear g1 g2
 clear hc
 clear q1 q2
 go_enter Tryz.func123, Tryz.ntmps123
 go_wp2
 refine wp_loop_rounds 3 ?_
 rw [rounds_succ]
 go_wp2
 rw [rounds_succ]
 go_wp2
 rw [rounds_succ]
 go_wp2
 go_ret2
 exact ⟨rfl, rfl⟩
theorem rune_okb3 (s : ByteArray) (x0 x1 x2 : Nat) (w : World) (hn : 3 ≤ s.size) (hs : s.size ≤ 4000000000) (h0 : (s[0]'(by omega)).toNat = x0) (m0 : x0 < 256) (h1 : (s[1]'(by omega)).toNat = x1) (m1 : x1 < 256) (h2 : (s[2]'(by omega)).toNat = x2) (m2 : x2 < 256) (l0 : 224 ≤ x0) (u0 : x0 < 240) (q1 : x1 / 64 = 2) (q2 : x2 / 64 = 2) (g1 : 57344 ≤ (((x0 : Int) % 16) * 64 + (x1 : Int) % 64) * 64 + (x2 : Int) % 64) :
  Calls Tryz.prog 123 #[.string s] w fun e w' => e = .returned (.tuple #[.int .i64 ((((x0 : Int) % 16) * 64 + (x1 : Int) % 64) * 64 + (x2 : Int) % 64), .int .i64 3]) ∧ w' = w := by
 have bm := i64_and15 x0 m0
 have c1 := cont_yes x1 m1 q1
 have d1 := u8_and63 x1 m1
 have o1 := i64_join6 ((x0 : Int) % 16) x1 (by omega) (by omega) m1
 have c2 := cont_yes x2 m2 q2
 have d2 := u8_and63 x2 m2
 have o2' := i64_join6 (((x0 : Int) % 16) * 64 + (x1 : Int) % 64) x2 (by omega) (by omega) m2
 obtain ⟨c, hc⟩ : ∃ c : Int, (((x0 : Int) % 16) * 64 + (x1 : Int) % 64) * 64 + (x2 : Int) % 64 = c := ⟨_, rfl⟩
 have o2 := o2'.trans hc
 clear o2'
 rw [hc] at g1
 rw [hc]
 have t0 : decide (c < 2048) = false := decide_eq_false (by omega)
 have t1 : decide (55296 ≤ c) = true := decide_eq_true (by omega)
 have t2 : decide (c < 57344) = false := decide_eq_false (by omega)
 have t3 : decide (1114111 < c) = false := decide_eq_false (by omega)
 clear g1
 clear hc
 clear q1 q2
 go_enter Tryz.func123, Tryz.ntmps123
 go_wp2
 refine wp_loop_rounds 3 ?_
 rw [rounds_succ]
 go_wp2
 rw [rounds_succ]
 go_wp2
 rw [rounds_succ]
 go_wp2
 go_ret2
 exact ⟨rfl, rfl⟩
theorem rune_low3 (s : ByteArray) (x0 x1 x2 : Nat) (w : World) (hn : 3 ≤ s.size) (hs : s.size ≤ 4000000000) (h0 : (s[0]'(by omega)).toNat = x0) (m0 : x0 < 256) (h1 : (s[1]'(by omega)).toNat = x1) (m1 : x1 < 256) (h2 : (s[2]'(by omega)).toNat = x2) (m2 : x2 < 256) (l0 : 224 ≤ x0) (u0 : x0 < 240) (q1 : x1 / 64 = 2) (q2 : x2 / 64 = 2) (g1 : (((x0 : Int) % 16) * 64 + (x1 : Int) % 64) * 64 + (x2 : Int) % 64 < 2048) :
  Calls Tryz.prog 123 #[.string s] w fun e w' => e = .returned (.tuple #[.int .i64 0, .int .i64 0]) ∧ w' = w := by
 have bm := i64_and15 x0 m0
 have c1 := cont_yes x1 m1 q1
 have d1 := u8_and63 x1 m1
 have o1 := i64_join6 ((x0 : Int) % 16) x1 (by omega) (by omega) m1
 have c2 := cont_yes x2 m2 q2
 have d2 := u8_and63 x2 m2
 have o2' := i64_join6 (((x0 : Int) % 16) * 64 + (x1 : Int) % 64) x2 (by omega) (by omega) m2
 obtain ⟨c, hc⟩ : ∃ c : Int, (((x0 : Int) % 16) * 64 + (x1 : Int) % 64) * 64 + (x2 : Int) % 64 = c := ⟨_, rfl⟩
 have o2 := o2'.trans hc
 clear o2'
 rw [hc] at g1
 have t0 : decide (c < 2048) = true := decide_eq_true (by omega)
 clear g1
 clear hc
 clear q1 q2
 go_enter Tryz.func123, Tryz.ntmps123
 go_wp2
 refine wp_loop_rounds 3 ?_
 rw [rounds_succ]
 go_wp2
 rw [rounds_succ]
 go_wp2
 rw [rounds_succ]
 go_wp2
 go_ret2
 exact ⟨rfl, rfl⟩
theorem rune_sur3 (s : ByteArray) (x0 x1 x2 : Nat) (w : World) (hn : 3 ≤ s.size) (hs : s.size ≤ 4000000000) (h0 : (s[0]'(by omega)).toNat = x0) (m0 : x0 < 256) (h1 : (s[1]'(by omega)).toNat = x1) (m1 : x1 < 256) (h2 : (s[2]'(by omega)).toNat = x2) (m2 : x2 < 256) (l0 : 224 ≤ x0) (u0 : x0 < 240) (q1 : x1 / 64 = 2) (q2 : x2 / 64 = 2) (g1 : 55296 ≤ (((x0 : Int) % 16) * 64 + (x1 : Int) % 64) * 64 + (x2 : Int) % 64) (g2 : (((x0 : Int) % 16) * 64 + (x1 : Int) % 64) * 64 + (x2 : Int) % 64 < 57344) :
  Calls Tryz.prog 123 #[.string s] w fun e w' => e = .returned (.tuple #[.int .i64 0, .int .i64 0]) ∧ w' = w := by
 have bm := i64_and15 x0 m0
 have c1 := cont_yes x1 m1 q1
 have d1 := u8_and63 x1 m1
 have o1 := i64_join6 ((x0 : Int) % 16) x1 (by omega) (by omega) m1
 have c2 := cont_yes x2 m2 q2
 have d2 := u8_and63 x2 m2
 have o2' := i64_join6 (((x0 : Int) % 16) * 64 + (x1 : Int) % 64) x2 (by omega) (by omega) m2
 obtain ⟨c, hc⟩ : ∃ c : Int, (((x0 : Int) % 16) * 64 + (x1 : Int) % 64) * 64 + (x2 : Int) % 64 = c := ⟨_, rfl⟩
 have o2 := o2'.trans hc
 clear o2'
 rw [hc] at g1 g2
 have t0 : decide (c < 2048) = false := decide_eq_false (by omega)
 have t1 : decide (55296 ≤ c) = true := decide_eq_true (by omega)
 have t2 : decide (c < 57344) = true := decide_eq_true (by omega)
 clear g1 g2
 clear hc
 clear q1 q2
 go_enter Tryz.func123, Tryz.ntmps123
 go_wp2
 refine wp_loop_rounds 3 ?_
 rw [rounds_succ]
 go_wp2
 rw [rounds_succ]
 go_wp2
 rw [rounds_succ]
 go_wp2
 go_ret2
 exact ⟨rfl, rfl⟩
theorem rune_short4 (s : ByteArray) (x0 : Nat) (w : World) (hn : 1 ≤ s.size) (hs : s.size ≤ 4000000000) (h0 : (s[0]'(by omega)).toNat = x0) (m0 : x0 < 256) (l0 : 240 ≤ x0) (u0 : x0 < 245) (hk : s.size < 4) :
  Calls Tryz.prog 123 #[.string s] w fun e w' => e = .returned (.tuple #[.int .i64 0, .int .i64 0]) ∧ w' = w := by
 have bm := i64_and7 x0 m0
 go_enter Tryz.func123, Tryz.ntmps123
 go_wp2
 go_ret2
 exact ⟨rfl, rfl⟩
theorem rune_cont41 (s : ByteArray) (x0 x1 : Nat) (w : World) (hn : 2 ≤ s.size) (hs : s.size ≤ 4000000000) (h0 : (s[0]'(by omega)).toNat = x0) (m0 : x0 < 256) (h1 : (s[1]'(by omega)).toNat = x1) (m1 : x1 < 256) (l0 : 240 ≤ x0) (u0 : x0 < 245) (hk : 4 ≤ s.size)  (q1 : ¬ x1 / 64 = 2) :
  Calls Tryz.prog 123 #[.string s] w fun e w' => e = .returned (.tuple #[.int .i64 0, .int .i64 0]) ∧ w' = w := by
 have bm := i64_and7 x0 m0
 have c1 := cont_no x1 m1 q1
 clear q1
 go_enter Tryz.func123, Tryz.ntmps123
 go_wp2
 refine wp_loop_rounds 1 ?_
 rw [rounds_succ]
 go_wp2
 go_ret2
 exact ⟨rfl, rfl⟩
theorem rune_cont42 (s : ByteArray) (x0 x1 x2 : Nat) (w : World) (hn : 3 ≤ s.size) (hs : s.size ≤ 4000000000) (h0 : (s[0]'(by omega)).toNat = x0) (m0 : x0 < 256) (h1 : (s[1]'(by omega)).toNat = x1) (m1 : x1 < 256) (h2 : (s[2]'(by omega)).toNat = x2) (m2 : x2 < 256) (l0 : 240 ≤ x0) (u0 : x0 < 245) (hk : 4 ≤ s.size) (q1 : x1 / 64 = 2) (q2 : ¬ x2 / 64 = 2) :
  Calls Tryz.prog 123 #[.string s] w fun e w' => e = .returned (.tuple #[.int .i64 0, .int .i64 0]) ∧ w' = w := by
 have bm := i64_and7 x0 m0
 have c1 := cont_yes x1 m1 q1
 have d1 := u8_and63 x1 m1
 have o1 := i64_join6 ((x0 : Int) % 8) x1 (by omega) (by omega) m1
 have c2 := cont_no x2 m2 q2
 clear q1 q2
 go_enter Tryz.func123, Tryz.ntmps123
 go_wp2
 refine wp_loop_rounds 2 ?_
 rw [rounds_succ]
 go_wp2
 rw [rounds_succ]
 go_wp2
 go_ret2
 exact ⟨rfl, rfl⟩
theorem rune_cont43 (s : ByteArray) (x0 x1 x2 x3 : Nat) (w : World) (hn : 4 ≤ s.size) (hs : s.size ≤ 4000000000) (h0 : (s[0]'(by omega)).toNat = x0) (m0 : x0 < 256) (h1 : (s[1]'(by omega)).toNat = x1) (m1 : x1 < 256) (h2 : (s[2]'(by omega)).toNat = x2) (m2 : x2 < 256) (h3 : (s[3]'(by omega)).toNat = x3) (m3 : x3 < 256) (l0 : 240 ≤ x0) (u0 : x0 < 245) (hk : 4 ≤ s.size) (q1 : x1 / 64 = 2) (q2 : x2 / 64 = 2) (q3 : ¬ x3 / 64 = 2) :
  Calls Tryz.prog 123 #[.string s] w fun e w' => e = .returned (.tuple #[.int .i64 0, .int .i64 0]) ∧ w' = w := by
 have bm := i64_and7 x0 m0
 have c1 := cont_yes x1 m1 q1
 have d1 := u8_and63 x1 m1
 have o1 := i64_join6 ((x0 : Int) % 8) x1 (by omega) (by omega) m1
 have c2 := cont_yes x2 m2 q2
 have d2 := u8_and63 x2 m2
 have o2 := i64_join6 (((x0 : Int) % 8) * 64 + (x1 : Int) % 64) x2 (by omega) (by omega) m2
 have c3 := cont_no x3 m3 q3
 clear q1 q2 q3
 go_enter Tryz.func123, Tryz.ntmps123
 go_wp2
 refine wp_loop_rounds 3 ?_
 rw [rounds_succ]
 go_wp2
 rw [rounds_succ]
 go_wp2
 rw [rounds_succ]
 go_wp2
 go_ret2
 exact ⟨rfl, rfl⟩
theorem rune_ok4 (s : ByteArray) (x0 x1 x2 x3 : Nat) (w : World) (hn : 4 ≤ s.size) (hs : s.size ≤ 4000000000) (h0 : (s[0]'(by omega)).toNat = x0) (m0 : x0 < 256) (h1 : (s[1]'(by omega)).toNat = x1) (m1 : x1 < 256) (h2 : (s[2]'(by omega)).toNat = x2) (m2 : x2 < 256) (h3 : (s[3]'(by omega)).toNat = x3) (m3 : x3 < 256) (l0 : 240 ≤ x0) (u0 : x0 < 245) (q1 : x1 / 64 = 2) (q2 : x2 / 64 = 2) (q3 : x3 / 64 = 2) (g1 : 65536 ≤ ((((x0 : Int) % 8) * 64 + (x1 : Int) % 64) * 64 + (x2 : Int) % 64) * 64 + (x3 : Int) % 64) (g2 : ((((x0 : Int) % 8) * 64 + (x1 : Int) % 64) * 64 + (x2 : Int) % 64) * 64 + (x3 : Int) % 64 ≤ 1114111) :
  Calls Tryz.prog 123 #[.string s] w fun e w' => e = .returned (.tuple #[.int .i64 (((((x0 : Int) % 8) * 64 + (x1 : Int) % 64) * 64 + (x2 : Int) % 64) * 64 + (x3 : Int) % 64), .int .i64 4]) ∧ w' = w := by
 have bm := i64_and7 x0 m0
 have c1 := cont_yes x1 m1 q1
 have d1 := u8_and63 x1 m1
 have o1 := i64_join6 ((x0 : Int) % 8) x1 (by omega) (by omega) m1
 have c2 := cont_yes x2 m2 q2
 have d2 := u8_and63 x2 m2
 have o2 := i64_join6 (((x0 : Int) % 8) * 64 + (x1 : Int) % 64) x2 (by omega) (by omega) m2
 have c3 := cont_yes x3 m3 q3
 have d3 := u8_and63 x3 m3
 have o3' := i64_join6 ((((x0 : Int) % 8) * 64 + (x1 : Int) % 64) * 64 + (x2 : Int) % 64) x3 (by omega) (by omega) m3
 obtain ⟨c, hc⟩ : ∃ c : Int, ((((x0 : Int) % 8) * 64 + (x1 : Int) % 64) * 64 + (x2 : Int) % 64) * 64 + (x3 : Int) % 64 = c := ⟨_, rfl⟩
 have o3 := o3'.trans hc
 clear o3'
 rw [hc] at g1 g2
 rw [hc]
 have t0 : decide (c < 65536) = false := decide_eq_false (by omega)
 have t1 : decide (55296 ≤ c) = true := decide_eq_true (by omega)
 have t2 : decide (c < 57344) = false := decide_eq_false (by omega)
 have t3 : decide (1114111 < c) = false := decide_eq_false (by omega)
 clear g1 g2
 clear hc
 clear q1 q2 q3
 go_enter Tryz.func123, Tryz.ntmps123
 go_wp2
 refine wp_loop_rounds 4 ?_
 rw [rounds_succ]
 go_wp2
 rw [rounds_succ]
 go_wp2
 rw [rounds_succ]
 go_wp2
 rw [rounds_succ]
 go_wp2
 go_ret2
 exact ⟨rfl, rfl⟩
theorem rune_low4 (s : ByteArray) (x0 x1 x2 x3 : Nat) (w : World) (hn : 4 ≤ s.size) (hs : s.size ≤ 4000000000) (h0 : (s[0]'(by omega)).toNat = x0) (m0 : x0 < 256) (h1 : (s[1]'(by omega)).toNat = x1) (m1 : x1 < 256) (h2 : (s[2]'(by omega)).toNat = x2) (m2 : x2 < 256) (h3 : (s[3]'(by omega)).toNat = x3) (m3 : x3 < 256) (l0 : 240 ≤ x0) (u0 : x0 < 245) (q1 : x1 / 64 = 2) (q2 : x2 / 64 = 2) (q3 : x3 / 64 = 2) (g1 : ((((x0 : Int) % 8) * 64 + (x1 : Int) % 64) * 64 + (x2 : Int) % 64) * 64 + (x3 : Int) % 64 < 65536) :
  Calls Tryz.prog 123 #[.string s] w fun e w' => e = .returned (.tuple #[.int .i64 0, .int .i64 0]) ∧ w' = w := by
 have bm := i64_and7 x0 m0
 have c1 := cont_yes x1 m1 q1
 have d1 := u8_and63 x1 m1
 have o1 := i64_join6 ((x0 : Int) % 8) x1 (by omega) (by omega) m1
 have c2 := cont_yes x2 m2 q2
 have d2 := u8_and63 x2 m2
 have o2 := i64_join6 (((x0 : Int) % 8) * 64 + (x1 : Int) % 64) x2 (by omega) (by omega) m2
 have c3 := cont_yes x3 m3 q3
 have d3 := u8_and63 x3 m3
 have o3' := i64_join6 ((((x0 : Int) % 8) * 64 + (x1 : Int) % 64) * 64 + (x2 : Int) % 64) x3 (by omega) (by omega) m3
 obtain ⟨c, hc⟩ : ∃ c : Int, ((((x0 : Int) % 8) * 64 + (x1 : Int) % 64) * 64 + (x2 : Int) % 64) * 64 + (x3 : Int) % 64 = c := ⟨_, rfl⟩
 have o3 := o3'.trans hc
 clear o3'
 rw [hc] at g1
 have t0 : decide (c < 65536) = true := decide_eq_true (by omega)
 clear g1
 clear hc
 clear q1 q2 q3
 go_enter Tryz.func123, Tryz.ntmps123
 go_wp2
 refine wp_loop_rounds 4 ?_
 rw [rounds_succ]
 go_wp2
 rw [rounds_succ]
 go_wp2
 rw [rounds_succ]
 go_wp2
 rw [rounds_succ]
 go_wp2
 go_ret2
 exact ⟨rfl, rfl⟩
theorem rune_big4 (s : ByteArray) (x0 x1 x2 x3 : Nat) (w : World) (hn : 4 ≤ s.size) (hs : s.size ≤ 4000000000) (h0 : (s[0]'(by omega)).toNat = x0) (m0 : x0 < 256) (h1 : (s[1]'(by omega)).toNat = x1) (m1 : x1 < 256) (h2 : (s[2]'(by omega)).toNat = x2) (m2 : x2 < 256) (h3 : (s[3]'(by omega)).toNat = x3) (m3 : x3 < 256) (l0 : 240 ≤ x0) (u0 : x0 < 245) (q1 : x1 / 64 = 2) (q2 : x2 / 64 = 2) (q3 : x3 / 64 = 2) (g1 : 1114111 < ((((x0 : Int) % 8) * 64 + (x1 : Int) % 64) * 64 + (x2 : Int) % 64) * 64 + (x3 : Int) % 64) :
  Calls Tryz.prog 123 #[.string s] w fun e w' => e = .returned (.tuple #[.int .i64 0, .int .i64 0]) ∧ w' = w := by
 have bm := i64_and7 x0 m0
 have c1 := cont_yes x1 m1 q1
 have d1 := u8_and63 x1 m1
 have o1 := i64_join6 ((x0 : Int) % 8) x1 (by omega) (by omega) m1
 have c2 := cont_yes x2 m2 q2
 have d2 := u8_and63 x2 m2
 have o2 := i64_join6 (((x0 : Int) % 8) * 64 + (x1 : Int) % 64) x2 (by omega) (by omega) m2
 have c3 := cont_yes x3 m3 q3
 have d3 := u8_and63 x3 m3
 have o3' := i64_join6 ((((x0 : Int) % 8) * 64 + (x1 : Int) % 64) * 64 + (x2 : Int) % 64) x3 (by omega) (by omega) m3
 obtain ⟨c, hc⟩ : ∃ c : Int, ((((x0 : Int) % 8) * 64 + (x1 : Int) % 64) * 64 + (x2 : Int) % 64) * 64 + (x3 : Int) % 64 = c := ⟨_, rfl⟩
 have o3 := o3'.trans hc
 clear o3'
 rw [hc] at g1
 have t0 : decide (c < 65536) = false := decide_eq_false (by omega)
 have t1 : decide (55296 ≤ c) = true := decide_eq_true (by omega)
 have t2 : decide (c < 57344) = false := decide_eq_false (by omega)
 have t3 : decide (1114111 < c) = true := decide_eq_true (by omega)
 clear g1
 clear hc
 clear q1 q2 q3
 go_enter Tryz.func123, Tryz.ntmps123
 go_wp2
 refine wp_loop_rounds 4 ?_
 rw [rounds_succ]
 go_wp2
 rw [rounds_succ]
 go_wp2
 rw [rounds_succ]
 go_wp2
 rw [rounds_succ]
 go_wp2
 go_ret2
 exact ⟨rfl, rfl⟩
end Go.Proofs.YtjcdeeahjkfmoaaGreatDoor
namespace Go.Proofs.YtjcdeeahjkfmoaaGreatDoor
open Go.RowKit
def runeN (d : Nat × Nat) : Nat × Nat := if d.1 = 65533 ∧ d.2 = 1 then (0, 0) else d
theorem rune_any (s : ByteArray) (w : World) (h0 : 0 < s.size) (hs : s.size ≤ 4000000000) :
  Calls Tryz.prog 123 #[.string s] w fun e w' => e = .returned (.tuple #[.int .i64 (runeN (Utf8.decode s 0)).1, .int .i64 (runeN (Utf8.decode s 0)).2]) ∧ w' = w := by
 have gp : ∀ k (h : k < s.size), (s.get! k).toNat = (s[k]'h).toNat := fun k h => by rw [← get_at s k h]; rfl
 rw [Lib.decode_at]
 simp only [Nat.sub_zero, Nat.zero_add]
 obtain ⟨x0, e0⟩ : ∃ x0, (s.get! 0).toNat = x0 := ⟨_, rfl⟩
 obtain ⟨x1, e1⟩ : ∃ x1, (s.get! 1).toNat = x1 := ⟨_, rfl⟩
 obtain ⟨x2, e2⟩ : ∃ x2, (s.get! 2).toNat = x2 := ⟨_, rfl⟩
 obtain ⟨x3, e3⟩ : ∃ x3, (s.get! 3).toNat = x3 := ⟨_, rfl⟩
 have m0 : x0 < 256 := by rw [← e0]; exact UInt8.toNat_lt _
 have m1 : x1 < 256 := by rw [← e1]; exact UInt8.toNat_lt _
 have m2 : x2 < 256 := by rw [← e2]; exact UInt8.toNat_lt _
 have m3 : x3 < 256 := by rw [← e3]; exact UInt8.toNat_lt _
 have f0 : (s[0]'h0).toNat = x0 := by rw [← gp 0 h0]; exact e0
 have f1 : ∀ h : 1 < s.size, (s[1]'h).toNat = x1 := fun h => by rw [← gp 1 h]; exact e1
 have f2 : ∀ h : 2 < s.size, (s[2]'h).toNat = x2 := fun h => by rw [← gp 2 h]; exact e2
 have f3 : ∀ h : 3 < s.size, (s[3]'h).toNat = x3 := fun h => by rw [← gp 3 h]; exact e3
 rw [e0, e1, e2, e3]
 have fin : ∀ {a b : Int} {p : Nat × Nat}, (Calls Tryz.prog 123 #[.string s] w fun e w' => e = .returned (.tuple #[.int .i64 a, .int .i64 b]) ∧ w' = w) → a = (p.1 : Int) → b = (p.2 : Int) →
   Calls Tryz.prog 123 #[.string s] w fun e w' => e = .returned (.tuple #[.int .i64 p.1, .int .i64 p.2]) ∧ w' = w := by
  intro a b p h ha hb
  subst ha; subst hb
  exact h
 have bad : ∀ {n a b c d : Nat}, Lib.decodeN n a b c d = (65533, 1) → ((0 : Int) = ((runeN (Lib.decodeN n a b c d)).1 : Nat) ∧ (0 : Int) = ((runeN (Lib.decodeN n a b c d)).2 : Nat)) := by
  intro n a b c d h
  rw [h]; exact ⟨rfl, rfl⟩
 have good : ∀ {n a b c d : Nat} {p : Nat × Nat}, Lib.decodeN n a b c d = p → ¬ (p.1 = 65533 ∧ p.2 = 1) → runeN (Lib.decodeN n a b c d) = p := by
  intro n a b c d p h hp
  rw [h, runeN, if_neg hp]
 by_cases a1 : x0 < 128
 ·have hd : Lib.decodeN s.size x0 x1 x2 x3 = (x0, 1) := by simp only [Lib.decodeN, a1, if_true]
  rw [good hd (by simp; omega)]
  exact rune_ascii s x0 w (by omega) hs f0 m0 a1
 have n2 : ¬ (x0 / 32 = 6) ∨ (192 ≤ x0 ∧ x0 < 224) := by omega
 by_cases a2 : x0 < 194
 ·have hd : Lib.decodeN s.size x0 x1 x2 x3 = (65533, 1) := by
   unfold Lib.decodeN
   rw [if_neg a1]
   split
   ·rw [if_neg (by omega)]
   ·rw [if_neg (by omega), if_neg (by omega)]
  obtain ⟨g1, g2⟩ := bad hd
  exact fin (rune_low s x0 w (by omega) hs f0 m0 (by omega) a2) g1 g2
 by_cases a3 : 245 ≤ x0
 ·have hd : Lib.decodeN s.size x0 x1 x2 x3 = (65533, 1) := by
   unfold Lib.decodeN
   rw [if_neg a1, if_neg (by omega), if_neg (by omega)]
   split
   ·rw [if_neg (by omega)]
   ·rfl
  obtain ⟨g1, g2⟩ := bad hd
  exact fin (rune_high s x0 w (by omega) hs f0 m0 a3) g1 g2
 by_cases a4 : x0 < 224
 ·by_cases k1 : 1 < s.size
  ·by_cases q1 : x1 / 64 = 2
   ·have hd : Lib.decodeN s.size x0 x1 x2 x3 = (x0 % 32 * 64 + x1 % 64, 2) := by
     unfold Lib.decodeN
     rw [if_neg a1, if_pos ⟨by omega, k1, q1⟩, if_pos (by omega)]
    rw [good hd (by simp)]
    exact fin (rune_ok2 s x0 x1 w (by omega) hs f0 m0 (f1 k1) m1 (by omega) a4 q1) (by simp) rfl
   ·have hd : Lib.decodeN s.size x0 x1 x2 x3 = (65533, 1) := by
     unfold Lib.decodeN
     rw [if_neg a1, if_neg (by omega), if_neg (by omega), if_neg (by omega)]
    obtain ⟨g1, g2⟩ := bad hd
    exact fin (rune_cont21 s x0 x1 w (by omega) hs f0 m0 (f1 k1) m1 (by omega) a4 (by omega) q1) g1 g2
  ·have hd : Lib.decodeN s.size x0 x1 x2 x3 = (65533, 1) := by
    unfold Lib.decodeN
    rw [if_neg a1, if_neg (by omega), if_neg (by omega), if_neg (by omega)]
   obtain ⟨g1, g2⟩ := bad hd
   exact fin (rune_short2 s x0 w (by omega) hs f0 m0 (by omega) a4 (by omega)) g1 g2
 by_cases a5 : x0 < 240
 ·by_cases k2 : 2 < s.size
  ·by_cases q1 : x1 / 64 = 2
   ·by_cases q2 : x2 / 64 = 2
    ·obtain ⟨c, hc⟩ : ∃ c, x0 % 16 * 4096 + x1 % 64 * 64 + x2 % 64 = c := ⟨_, rfl⟩
     have ci : ((x0 : Int) % 16 * 64 + (x1 : Int) % 64) * 64 + (x2 : Int) % 64 = (c : Int) := by omega
     have hd0 : Lib.decodeN s.size x0 x1 x2 x3 = if c ≥ 2048 ∧ (c < 55296 ∨ (57344 ≤ c ∧ c ≤ 1114111)) then (c, 3) else (65533, 1) := by
      unfold Lib.decodeN
      rw [if_neg a1, if_neg (by omega), if_pos ⟨by omega, ⟨by omega, q1⟩, ⟨by omega, q2⟩⟩, hc]
     have cm : c < 65536 := by omega
     by_cases b1 : c < 2048
     ·rw [if_neg (by omega)] at hd0
      obtain ⟨g1, g2⟩ := bad hd0
      exact fin (rune_low3 s x0 x1 x2 w (by omega) hs f0 m0 (f1 (by omega)) m1 (f2 k2) m2 (by omega) a5 q1 q2 (by omega)) g1 g2
     ·by_cases b2 : c < 55296
      ·rw [if_pos (by omega)] at hd0
       rw [good hd0 (by simp)]
       exact fin (rune_ok3 s x0 x1 x2 w (by omega) hs f0 m0 (f1 (by omega)) m1 (f2 k2) m2 (by omega) a5 q1 q2 (by omega) (by omega)) ci rfl
      ·by_cases b3 : c < 57344
       ·rw [if_neg (by omega)] at hd0
        obtain ⟨g1, g2⟩ := bad hd0
        exact fin (rune_sur3 s x0 x1 x2 w (by omega) hs f0 m0 (f1 (by omega)) m1 (f2 k2) m2 (by omega) a5 q1 q2 (by omega) (by omega)) g1 g2
       ·rw [if_pos (by omega)] at hd0
        rw [good hd0 (by simp)]
        exact fin (rune_okb3 s x0 x1 x2 w (by omega) hs f0 m0 (f1 (by omega)) m1 (f2 k2) m2 (by omega) a5 q1 q2 (by omega)) ci rfl
    ·have hd : Lib.decodeN s.size x0 x1 x2 x3 = (65533, 1) := by
      unfold Lib.decodeN
      rw [if_neg a1, if_neg (by omega), if_neg (by omega), if_neg (by omega)]
     obtain ⟨g1, g2⟩ := bad hd
     exact fin (rune_cont32 s x0 x1 x2 w (by omega) hs f0 m0 (f1 (by omega)) m1 (f2 k2) m2 (by omega) a5 (by omega) q1 q2) g1 g2
   ·have hd : Lib.decodeN s.size x0 x1 x2 x3 = (65533, 1) := by
     unfold Lib.decodeN
     rw [if_neg a1, if_neg (by omega), if_neg (by omega), if_neg (by omega)]
    obtain ⟨g1, g2⟩ := bad hd
    exact fin (rune_cont31 s x0 x1 w (by omega) hs f0 m0 (f1 (by omega)) m1 (by omega) a5 (by omega) q1) g1 g2
  ·have hd : Lib.decodeN s.size x0 x1 x2 x3 = (65533, 1) := by
    unfold Lib.decodeN
    rw [if_neg a1, if_neg (by omega), if_neg (by omega), if_neg (by omega)]
   obtain ⟨g1, g2⟩ := bad hd
   exact fin (rune_short3 s x0 w (by omega) hs f0 m0 (by omega) a5 (by omega)) g1 g2
 by_cases k3 : 3 < s.size
 ·by_cases q1 : x1 / 64 = 2
  ·by_cases q2 : x2 / 64 = 2
   ·by_cases q3 : x3 / 64 = 2
    ·obtain ⟨c, hc⟩ : ∃ c, x0 % 8 * 262144 + x1 % 64 * 4096 + x2 % 64 * 64 + x3 % 64 = c := ⟨_, rfl⟩
     have ci : (((x0 : Int) % 8 * 64 + (x1 : Int) % 64) * 64 + (x2 : Int) % 64) * 64 + (x3 : Int) % 64 = (c : Int) := by omega
     have hd0 : Lib.decodeN s.size x0 x1 x2 x3 = if c ≥ 65536 ∧ (c < 55296 ∨ (57344 ≤ c ∧ c ≤ 1114111)) then (c, 4) else (65533, 1) := by
      unfold Lib.decodeN
      rw [if_neg a1, if_neg (by omega), if_neg (by omega), if_pos ⟨by omega, ⟨by omega, q1⟩, ⟨by omega, q2⟩, ⟨by omega, q3⟩⟩, hc]
     by_cases b1 : c < 65536
     ·rw [if_neg (by omega)] at hd0
      obtain ⟨g1, g2⟩ := bad hd0
      exact fin (rune_low4 s x0 x1 x2 x3 w (by omega) hs f0 m0 (f1 (by omega)) m1 (f2 (by omega)) m2 (f3 k3) m3 (by omega) (by omega) q1 q2 q3 (by omega)) g1 g2
     ·by_cases b2 : c ≤ 1114111
      ·rw [if_pos (by omega)] at hd0
       rw [good hd0 (by simp)]
       exact fin (rune_ok4 s x0 x1 x2 x3 w (by omega) hs f0 m0 (f1 (by omega)) m1 (f2 (by omega)) m2 (f3 k3) m3 (by omega) (by omega) q1 q2 q3 (by omega) (by omega)) ci rfl
      ·rw [if_neg (by omega)] at hd0
       obtain ⟨g1, g2⟩ := bad hd0
       exact fin (rune_big4 s x0 x1 x2 x3 w (by omega) hs f0 m0 (f1 (by omega)) m1 (f2 (by omega)) m2 (f3 k3) m3 (by omega) (by omega) q1 q2 q3 (by omega)) g1 g2
    ·have hd : Lib.decodeN s.size x0 x1 x2 x3 = (65533, 1) := by
      unfold Lib.decodeN
      rw [if_neg a1, if_neg (by omega), if_neg (by omega), if_neg (by omega)]
     obtain ⟨g1, g2⟩ := bad hd
     exact fin (rune_cont43 s x0 x1 x2 x3 w (by omega) hs f0 m0 (f1 (by omega)) m1 (f2 (by omega)) m2 (f3 k3) m3 (by omega) (by omega) (by omega) q1 q2 q3) g1 g2
   ·have hd : Lib.decodeN s.size x0 x1 x2 x3 = (65533, 1) := by
     unfold Lib.decodeN
     rw [if_neg a1, if_neg (by omega), if_neg (by omega), if_neg (by omega)]
    obtain ⟨g1, g2⟩ := bad hd
    exact fin (rune_cont42 s x0 x1 x2 w (by omega) hs f0 m0 (f1 (by omega)) m1 (f2 (by omega)) m2 (by omega) (by omega) (by omega) q1 q2) g1 g2
  ·have hd : Lib.decodeN s.size x0 x1 x2 x3 = (65533, 1) := by
    unfold Lib.decodeN
    rw [if_neg a1, if_neg (by omega), if_neg (by omega), if_neg (by omega)]
   obtain ⟨g1, g2⟩ := bad hd
   exact fin (rune_cont41 s x0 x1 w (by omega) hs f0 m0 (f1 (by omega)) m1 (by omega) (by omega) (by omega) q1) g1 g2
 ·have hd : Lib.decodeN s.size x0 x1 x2 x3 = (65533, 1) := by
   unfold Lib.decodeN
   rw [if_neg a1, if_neg (by omega), if_neg (by omega), if_neg (by omega)]
  obtain ⟨g1, g2⟩ := bad hd
  exact fin (rune_short4 s x0 w (by omega) hs f0 m0 (by omega) (by omega) (by omega)) g1 g2
end Go.Proofs.YtjcdeeahjkfmoaaGreatDoor
namespace Go.Proofs.YtjcdeeahjkfmoaaGreatDoor
open Go.RowKit
def charOk (c : Nat) : Bool := decide (c = 9 ∨ c = 10 ∨ (32 ≤ c ∧ c ≤ 126) ∨ (160 ≤ c ∧ c < 55296) ∨ (57344 ≤ c ∧ c ≤ 1114111))
theorem charR_0 (c : Nat) (w : World) (a0 : c ≤ 8) :
  Calls Tryz.prog 124 #[.int .i64 c] w fun e w' => e = .returned (.bool false) ∧ w' = w := by
 have t0 : ((c : Int) == 9) = false := by rw [beq_eq_false_iff_ne]; omega
 have t1 : ((c : Int) == 10) = false := by rw [beq_eq_false_iff_ne]; omega
 have t2 : decide ((32 : Int) ≤ c) = false := decide_eq_false (by omega)
 have t3 : decide ((c : Int) ≤ 126) = true := decide_eq_true (by omega)
 have t4 : decide ((160 : Int) ≤ c) = false := decide_eq_false (by omega)
 have t5 : decide ((c : Int) < 55296) = true := decide_eq_true (by omega)
 have t6 : decide ((57344 : Int) ≤ c) = false := decide_eq_false (by omega)
 have t7 : decide ((c : Int) ≤ 1114111) = true := decide_eq_true (by omega)
 clear a0
 go_enter Tryz.func124, Tryz.ntmps124
 go_wp2
 go_ret
 exact ⟨rfl, rfl⟩
theorem charR_9 (c : Nat) (w : World) (a0 : 9 ≤ c) (a1 : c ≤ 9) :
  Calls Tryz.prog 124 #[.int .i64 c] w fun e w' => e = .returned (.bool true) ∧ w' = w := by
 have t0 : ((c : Int) == 9) = true := by rw [beq_iff_eq]; omega
 have t1 : ((c : Int) == 10) = false := by rw [beq_eq_false_iff_ne]; omega
 have t2 : decide ((32 : Int) ≤ c) = false := decide_eq_false (by omega)
 have t3 : decide ((c : Int) ≤ 126) = true := decide_eq_true (by omega)
 have t4 : decide ((160 : Int) ≤ c) = false := decide_eq_false (by omega)
 have t5 : decide ((c : Int) < 55296) = true := decide_eq_true (by omega)
 have t6 : decide ((57344 : Int) ≤ c) = false := decide_eq_false (by omega)
 have t7 : decide ((c : Int) ≤ 1114111) = true := decide_eq_true (by omega)
 clear a0 a1
 go_enter Tryz.func124, Tryz.ntmps124
 go_wp2
 go_ret
 exact ⟨rfl, rfl⟩
theorem charR_10 (c : Nat) (w : World) (a0 : 10 ≤ c) (a1 : c ≤ 10) :
  Calls Tryz.prog 124 #[.int .i64 c] w fun e w' => e = .returned (.bool true) ∧ w' = w := by
 have t0 : ((c : Int) == 9) = false := by rw [beq_eq_false_iff_ne]; omega
 have t1 : ((c : Int) == 10) = true := by rw [beq_iff_eq]; omega
 have t2 : decide ((32 : Int) ≤ c) = false := decide_eq_false (by omega)
 have t3 : decide ((c : Int) ≤ 126) = true := decide_eq_true (by omega)
 have t4 : decide ((160 : Int) ≤ c) = false := decide_eq_false (by omega)
 have t5 : decide ((c : Int) < 55296) = true := decide_eq_true (by omega)
 have t6 : decide ((57344 : Int) ≤ c) = false := decide_eq_false (by omega)
 have t7 : decide ((c : Int) ≤ 1114111) = true := decide_eq_true (by omega)
 clear a0 a1
 go_enter Tryz.func124, Tryz.ntmps124
 go_wp2
 go_ret
 exact ⟨rfl, rfl⟩
theorem charR_11 (c : Nat) (w : World) (a0 : 11 ≤ c) (a1 : c ≤ 31) :
  Calls Tryz.prog 124 #[.int .i64 c] w fun e w' => e = .returned (.bool false) ∧ w' = w := by
 have t0 : ((c : Int) == 9) = false := by rw [beq_eq_false_iff_ne]; omega
 have t1 : ((c : Int) == 10) = false := by rw [beq_eq_false_iff_ne]; omega
 have t2 : decide ((32 : Int) ≤ c) = false := decide_eq_false (by omega)
 have t3 : decide ((c : Int) ≤ 126) = true := decide_eq_true (by omega)
 have t4 : decide ((160 : Int) ≤ c) = false := decide_eq_false (by omega)
 have t5 : decide ((c : Int) < 55296) = true := decide_eq_true (by omega)
 have t6 : decide ((57344 : Int) ≤ c) = false := decide_eq_false (by omega)
 have t7 : decide ((c : Int) ≤ 1114111) = true := decide_eq_true (by omega)
 clear a0 a1
 go_enter Tryz.func124, Tryz.ntmps124
 go_wp2
 go_ret
 exact ⟨rfl, rfl⟩
theorem charR_32 (c : Nat) (w : World) (a0 : 32 ≤ c) (a1 : c ≤ 126) :
  Calls Tryz.prog 124 #[.int .i64 c] w fun e w' => e = .returned (.bool true) ∧ w' = w := by
 have t0 : ((c : Int) == 9) = false := by rw [beq_eq_false_iff_ne]; omega
 have t1 : ((c : Int) == 10) = false := by rw [beq_eq_false_iff_ne]; omega
 have t2 : decide ((32 : Int) ≤ c) = true := decide_eq_true (by omega)
 have t3 : decide ((c : Int) ≤ 126) = true := decide_eq_true (by omega)
 have t4 : decide ((160 : Int) ≤ c) = false := decide_eq_false (by omega)
 have t5 : decide ((c : Int) < 55296) = true := decide_eq_true (by omega)
 have t6 : decide ((57344 : Int) ≤ c) = false := decide_eq_false (by omega)
 have t7 : decide ((c : Int) ≤ 1114111) = true := decide_eq_true (by omega)
 clear a0 a1
 go_enter Tryz.func124, Tryz.ntmps124
 go_wp2
 go_ret
 exact ⟨rfl, rfl⟩
theorem charR_127 (c : Nat) (w : World) (a0 : 127 ≤ c) (a1 : c ≤ 159) :
  Calls Tryz.prog 124 #[.int .i64 c] w fun e w' => e = .returned (.bool false) ∧ w' = w := by
 have t0 : ((c : Int) == 9) = false := by rw [beq_eq_false_iff_ne]; omega
 have t1 : ((c : Int) == 10) = false := by rw [beq_eq_false_iff_ne]; omega
 have t2 : decide ((32 : Int) ≤ c) = true := decide_eq_true (by omega)
 have t3 : decide ((c : Int) ≤ 126) = false := decide_eq_false (by omega)
 have t4 : decide ((160 : Int) ≤ c) = false := decide_eq_false (by omega)
 have t5 : decide ((c : Int) < 55296) = true := decide_eq_true (by omega)
 have t6 : decide ((57344 : Int) ≤ c) = false := decide_eq_false (by omega)
 have t7 : decide ((c : Int) ≤ 1114111) = true := decide_eq_true (by omega)
 clear a0 a1
 go_enter Tryz.func124, Tryz.ntmps124
 go_wp2
 go_ret
 exact ⟨rfl, rfl⟩
theorem charR_160 (c : Nat) (w : World) (a0 : 160 ≤ c) (a1 : c ≤ 55295) :
  Calls Tryz.prog 124 #[.int .i64 c] w fun e w' => e = .returned (.bool true) ∧ w' = w := by
 have t0 : ((c : Int) == 9) = false := by rw [beq_eq_false_iff_ne]; omega
 have t1 : ((c : Int) == 10) = false := by rw [beq_eq_false_iff_ne]; omega
 have t2 : decide ((32 : Int) ≤ c) = true := decide_eq_true (by omega)
 have t3 : decide ((c : Int) ≤ 126) = false := decide_eq_false (by omega)
 have t4 : decide ((160 : Int) ≤ c) = true := decide_eq_true (by omega)
 have t5 : decide ((c : Int) < 55296) = true := decide_eq_true (by omega)
 have t6 : decide ((57344 : Int) ≤ c) = false := decide_eq_false (by omega)
 have t7 : decide ((c : Int) ≤ 1114111) = true := decide_eq_true (by omega)
 clear a0 a1
 go_enter Tryz.func124, Tryz.ntmps124
 go_wp2
 go_ret
 exact ⟨rfl, rfl⟩
theorem charR_55296 (c : Nat) (w : World) (a0 : 55296 ≤ c) (a1 : c ≤ 57343) :
  Calls Tryz.prog 124 #[.int .i64 c] w fun e w' => e = .returned (.bool false) ∧ w' = w := by
 have t0 : ((c : Int) == 9) = false := by rw [beq_eq_false_iff_ne]; omega
 have t1 : ((c : Int) == 10) = false := by rw [beq_eq_false_iff_ne]; omega
 have t2 : decide ((32 : Int) ≤ c) = true := decide_eq_true (by omega)
 have t3 : decide ((c : Int) ≤ 126) = false := decide_eq_false (by omega)
 have t4 : decide ((160 : Int) ≤ c) = true := decide_eq_true (by omega)
 have t5 : decide ((c : Int) < 55296) = false := decide_eq_false (by omega)
 have t6 : decide ((57344 : Int) ≤ c) = false := decide_eq_false (by omega)
 have t7 : decide ((c : Int) ≤ 1114111) = true := decide_eq_true (by omega)
 clear a0 a1
 go_enter Tryz.func124, Tryz.ntmps124
 go_wp2
 go_ret
 exact ⟨rfl, rfl⟩
theorem charR_57344 (c : Nat) (w : World) (a0 : 57344 ≤ c) (a1 : c ≤ 1114111) :
  Calls Tryz.prog 124 #[.int .i64 c] w fun e w' => e = .returned (.bool true) ∧ w' = w := by
 have t0 : ((c : Int) == 9) = false := by rw [beq_eq_false_iff_ne]; omega
 have t1 : ((c : Int) == 10) = false := by rw [beq_eq_false_iff_ne]; omega
 have t2 : decide ((32 : Int) ≤ c) = true := decide_eq_true (by omega)
 have t3 : decide ((c : Int) ≤ 126) = false := decide_eq_false (by omega)
 have t4 : decide ((160 : Int) ≤ c) = true := decide_eq_true (by omega)
 have t5 : decide ((c : Int) < 55296) = false := decide_eq_false (by omega)
 have t6 : decide ((57344 : Int) ≤ c) = true := decide_eq_true (by omega)
 have t7 : decide ((c : Int) ≤ 1114111) = true := decide_eq_true (by omega)
 clear a0 a1
 go_enter Tryz.func124, Tryz.ntmps124
 go_wp2
 go_ret
 exact ⟨rfl, rfl⟩
theorem charR_1114112 (c : Nat) (w : World) (a0 : 1114112 ≤ c) :
  Calls Tryz.prog 124 #[.int .i64 c] w fun e w' => e = .returned (.bool false) ∧ w' = w := by
 have t0 : ((c : Int) == 9) = false := by rw [beq_eq_false_iff_ne]; omega
 have t1 : ((c : Int) == 10) = false := by rw [beq_eq_false_iff_ne]; omega
 have t2 : decide ((32 : Int) ≤ c) = true := decide_eq_true (by omega)
 have t3 : decide ((c : Int) ≤ 126) = false := decide_eq_false (by omega)
 have t4 : decide ((160 : Int) ≤ c) = true := decide_eq_true (by omega)
 have t5 : decide ((c : Int) < 55296) = false := decide_eq_false (by omega)
 have t6 : decide ((57344 : Int) ≤ c) = true := decide_eq_true (by omega)
 have t7 : decide ((c : Int) ≤ 1114111) = false := decide_eq_false (by omega)
 clear a0
 go_enter Tryz.func124, Tryz.ntmps124
 go_wp2
 go_ret
 exact ⟨rfl, rfl⟩
theorem charR_any (c : Nat) (w : World) :
  Calls Tryz.prog 124 #[.int .i64 c] w fun e w' => e = .returned (.bool (charOk c)) ∧ w' = w := by
 by_cases h8 : c ≤ 8
 ·have e : charOk c = false := decide_eq_false (by omega)
  rw [e]
  exact charR_0 c w (by omega)
 by_cases h9 : c ≤ 9
 ·have e : charOk c = true := decide_eq_true (by omega)
  rw [e]
  exact charR_9 c w (by omega) (by omega)
 by_cases h10 : c ≤ 10
 ·have e : charOk c = true := decide_eq_true (by omega)
  rw [e]
  exact charR_10 c w (by omega) (by omega)
 by_cases h31 : c ≤ 31
 ·have e : charOk c = false := decide_eq_false (by omega)
  rw [e]
  exact charR_11 c w (by omega) (by omega)
 by_cases h126 : c ≤ 126
 ·have e : charOk c = true := decide_eq_true (by omega)
  rw [e]
  exact charR_32 c w (by omega) (by omega)
 by_cases h159 : c ≤ 159
 ·have e : charOk c = false := decide_eq_false (by omega)
  rw [e]
  exact charR_127 c w (by omega) (by omega)
 by_cases h55295 : c ≤ 55295
 ·have e : charOk c = true := decide_eq_true (by omega)
  rw [e]
  exact charR_160 c w (by omega) (by omega)
 by_cases h57343 : c ≤ 57343
 ·have e : charOk c = false := decide_eq_false (by omega)
  rw [e]
  exact charR_55296 c w (by omega) (by omega)
 by_cases h1114111 : c ≤ 1114111
 ·have e : charOk c = true := decide_eq_true (by omega)
  rw [e]
  exact charR_57344 c w (by omega) (by omega)
 have e : charOk c = false := decide_eq_false (by omega)
 rw [e]
 exact charR_1114112 c w (by omega)
theorem charF_0 (c : Nat) (w : World) (a0 : c ≤ 8) :
  Calls Tryz.prog 314 #[.int .i64 c] w fun e w' => e = .returned (.bool false) ∧ w' = w := by
 have t0 : ((c : Int) == 9) = false := by rw [beq_eq_false_iff_ne]; omega
 have t1 : ((c : Int) == 10) = false := by rw [beq_eq_false_iff_ne]; omega
 have t2 : decide ((32 : Int) ≤ c) = false := decide_eq_false (by omega)
 have t3 : decide ((c : Int) < 127) = true := decide_eq_true (by omega)
 have t4 : decide ((160 : Int) ≤ c) = false := decide_eq_false (by omega)
 have t5 : decide ((c : Int) < 55296) = true := decide_eq_true (by omega)
 have t6 : decide ((57343 : Int) < c) = false := decide_eq_false (by omega)
 have t7 : decide ((c : Int) ≤ 1114111) = true := decide_eq_true (by omega)
 clear a0
 go_enter Tryz.func314, Tryz.ntmps314
 go_wp2
 go_ret
 exact ⟨rfl, rfl⟩
theorem charF_9 (c : Nat) (w : World) (a0 : 9 ≤ c) (a1 : c ≤ 9) :
  Calls Tryz.prog 314 #[.int .i64 c] w fun e w' => e = .returned (.bool true) ∧ w' = w := by
 have t0 : ((c : Int) == 9) = true := by rw [beq_iff_eq]; omega
 have t1 : ((c : Int) == 10) = false := by rw [beq_eq_false_iff_ne]; omega
 have t2 : decide ((32 : Int) ≤ c) = false := decide_eq_false (by omega)
 have t3 : decide ((c : Int) < 127) = true := decide_eq_true (by omega)
 have t4 : decide ((160 : Int) ≤ c) = false := decide_eq_false (by omega)
 have t5 : decide ((c : Int) < 55296) = true := decide_eq_true (by omega)
 have t6 : decide ((57343 : Int) < c) = false := decide_eq_false (by omega)
 have t7 : decide ((c : Int) ≤ 1114111) = true := decide_eq_true (by omega)
 clear a0 a1
 go_enter Tryz.func314, Tryz.ntmps314
 go_wp2
 go_ret
 exact ⟨rfl, rfl⟩
theorem charF_10 (c : Nat) (w : World) (a0 : 10 ≤ c) (a1 : c ≤ 10) :
  Calls Tryz.prog 314 #[.int .i64 c] w fun e w' => e = .returned (.bool true) ∧ w' = w := by
 have t0 : ((c : Int) == 9) = false := by rw [beq_eq_false_iff_ne]; omega
 have t1 : ((c : Int) == 10) = true := by rw [beq_iff_eq]; omega
 have t2 : decide ((32 : Int) ≤ c) = false := decide_eq_false (by omega)
 have t3 : decide ((c : Int) < 127) = true := decide_eq_true (by omega)
 have t4 : decide ((160 : Int) ≤ c) = false := decide_eq_false (by omega)
 have t5 : decide ((c : Int) < 55296) = true := decide_eq_true (by omega)
 have t6 : decide ((57343 : Int) < c) = false := decide_eq_false (by omega)
 have t7 : decide ((c : Int) ≤ 1114111) = true := decide_eq_true (by omega)
 clear a0 a1
 go_enter Tryz.func314, Tryz.ntmps314
 go_wp2
 go_ret
 exact ⟨rfl, rfl⟩
theorem charF_11 (c : Nat) (w : World) (a0 : 11 ≤ c) (a1 : c ≤ 31) :
  Calls Tryz.prog 314 #[.int .i64 c] w fun e w' => e = .returned (.bool false) ∧ w' = w := by
 have t0 : ((c : Int) == 9) = false := by rw [beq_eq_false_iff_ne]; omega
 have t1 : ((c : Int) == 10) = false := by rw [beq_eq_false_iff_ne]; omega
 have t2 : decide ((32 : Int) ≤ c) = false := decide_eq_false (by omega)
 have t3 : decide ((c : Int) < 127) = true := decide_eq_true (by omega)
 have t4 : decide ((160 : Int) ≤ c) = false := decide_eq_false (by omega)
 have t5 : decide ((c : Int) < 55296) = true := decide_eq_true (by omega)
 have t6 : decide ((57343 : Int) < c) = false := decide_eq_false (by omega)
 have t7 : decide ((c : Int) ≤ 1114111) = true := decide_eq_true (by omega)
 clear a0 a1
 go_enter Tryz.func314, Tryz.ntmps314
 go_wp2
 go_ret
 exact ⟨rfl, rfl⟩
theorem charF_32 (c : Nat) (w : World) (a0 : 32 ≤ c) (a1 : c ≤ 126) :
  Calls Tryz.prog 314 #[.int .i64 c] w fun e w' => e = .returned (.bool true) ∧ w' = w := by
 have t0 : ((c : Int) == 9) = false := by rw [beq_eq_false_iff_ne]; omega
 have t1 : ((c : Int) == 10) = false := by rw [beq_eq_false_iff_ne]; omega
 have t2 : decide ((32 : Int) ≤ c) = true := decide_eq_true (by omega)
 have t3 : decide ((c : Int) < 127) = true := decide_eq_true (by omega)
 have t4 : decide ((160 : Int) ≤ c) = false := decide_eq_false (by omega)
 have t5 : decide ((c : Int) < 55296) = true := decide_eq_true (by omega)
 have t6 : decide ((57343 : Int) < c) = false := decide_eq_false (by omega)
 have t7 : decide ((c : Int) ≤ 1114111) = true := decide_eq_true (by omega)
 clear a0 a1
 go_enter Tryz.func314, Tryz.ntmps314
 go_wp2
 go_ret
 exact ⟨rfl, rfl⟩
theorem charF_127 (c : Nat) (w : World) (a0 : 127 ≤ c) (a1 : c ≤ 159) :
  Calls Tryz.prog 314 #[.int .i64 c] w fun e w' => e = .returned (.bool false) ∧ w' = w := by
 have t0 : ((c : Int) == 9) = false := by rw [beq_eq_false_iff_ne]; omega
 have t1 : ((c : Int) == 10) = false := by rw [beq_eq_false_iff_ne]; omega
 have t2 : decide ((32 : Int) ≤ c) = true := decide_eq_true (by omega)
 have t3 : decide ((c : Int) < 127) = false := decide_eq_false (by omega)
 have t4 : decide ((160 : Int) ≤ c) = false := decide_eq_false (by omega)
 have t5 : decide ((c : Int) < 55296) = true := decide_eq_true (by omega)
 have t6 : decide ((57343 : Int) < c) = false := decide_eq_false (by omega)
 have t7 : decide ((c : Int) ≤ 1114111) = true := decide_eq_true (by omega)
 clear a0 a1
 go_enter Tryz.func314, Tryz.ntmps314
 go_wp2
 go_ret
 exact ⟨rfl, rfl⟩
theorem charF_160 (c : Nat) (w : World) (a0 : 160 ≤ c) (a1 : c ≤ 55295) :
  Calls Tryz.prog 314 #[.int .i64 c] w fun e w' => e = .returned (.bool true) ∧ w' = w := by
 have t0 : ((c : Int) == 9) = false := by rw [beq_eq_false_iff_ne]; omega
 have t1 : ((c : Int) == 10) = false := by rw [beq_eq_false_iff_ne]; omega
 have t2 : decide ((32 : Int) ≤ c) = true := decide_eq_true (by omega)
 have t3 : decide ((c : Int) < 127) = false := decide_eq_false (by omega)
 have t4 : decide ((160 : Int) ≤ c) = true := decide_eq_true (by omega)
 have t5 : decide ((c : Int) < 55296) = true := decide_eq_true (by omega)
 have t6 : decide ((57343 : Int) < c) = false := decide_eq_false (by omega)
 have t7 : decide ((c : Int) ≤ 1114111) = true := decide_eq_true (by omega)
 clear a0 a1
 go_enter Tryz.func314, Tryz.ntmps314
 go_wp2
 go_ret
 exact ⟨rfl, rfl⟩
theorem charF_55296 (c : Nat) (w : World) (a0 : 55296 ≤ c) (a1 : c ≤ 57343) :
  Calls Tryz.prog 314 #[.int .i64 c] w fun e w' => e = .returned (.bool false) ∧ w' = w := by
 have t0 : ((c : Int) == 9) = false := by rw [beq_eq_false_iff_ne]; omega
 have t1 : ((c : Int) == 10) = false := by rw [beq_eq_false_iff_ne]; omega
 have t2 : decide ((32 : Int) ≤ c) = true := decide_eq_true (by omega)
 have t3 : decide ((c : Int) < 127) = false := decide_eq_false (by omega)
 have t4 : decide ((160 : Int) ≤ c) = true := decide_eq_true (by omega)
 have t5 : decide ((c : Int) < 55296) = false := decide_eq_false (by omega)
 have t6 : decide ((57343 : Int) < c) = false := decide_eq_false (by omega)
 have t7 : decide ((c : Int) ≤ 1114111) = true := decide_eq_true (by omega)
 clear a0 a1
 go_enter Tryz.func314, Tryz.ntmps314
 go_wp2
 go_ret
 exact ⟨rfl, rfl⟩
theorem charF_57344 (c : Nat) (w : World) (a0 : 57344 ≤ c) (a1 : c ≤ 1114111) :
  Calls Tryz.prog 314 #[.int .i64 c] w fun e w' => e = .returned (.bool true) ∧ w' = w := by
 have t0 : ((c : Int) == 9) = false := by rw [beq_eq_false_iff_ne]; omega
 have t1 : ((c : Int) == 10) = false := by rw [beq_eq_false_iff_ne]; omega
 have t2 : decide ((32 : Int) ≤ c) = true := decide_eq_true (by omega)
 have t3 : decide ((c : Int) < 127) = false := decide_eq_false (by omega)
 have t4 : decide ((160 : Int) ≤ c) = true := decide_eq_true (by omega)
 have t5 : decide ((c : Int) < 55296) = false := decide_eq_false (by omega)
 have t6 : decide ((57343 : Int) < c) = true := decide_eq_true (by omega)
 have t7 : decide ((c : Int) ≤ 1114111) = true := decide_eq_true (by omega)
 clear a0 a1
 go_enter Tryz.func314, Tryz.ntmps314
 go_wp2
 go_ret
 exact ⟨rfl, rfl⟩
theorem charF_1114112 (c : Nat) (w : World) (a0 : 1114112 ≤ c) :
  Calls Tryz.prog 314 #[.int .i64 c] w fun e w' => e = .returned (.bool false) ∧ w' = w := by
 have t0 : ((c : Int) == 9) = false := by rw [beq_eq_false_iff_ne]; omega
 have t1 : ((c : Int) == 10) = false := by rw [beq_eq_false_iff_ne]; omega
 have t2 : decide ((32 : Int) ≤ c) = true := decide_eq_true (by omega)
 have t3 : decide ((c : Int) < 127) = false := decide_eq_false (by omega)
 have t4 : decide ((160 : Int) ≤ c) = true := decide_eq_true (by omega)
 have t5 : decide ((c : Int) < 55296) = false := decide_eq_false (by omega)
 have t6 : decide ((57343 : Int) < c) = true := decide_eq_true (by omega)
 have t7 : decide ((c : Int) ≤ 1114111) = false := decide_eq_false (by omega)
 clear a0
 go_enter Tryz.func314, Tryz.ntmps314
 go_wp2
 go_ret
 exact ⟨rfl, rfl⟩
theorem charF_any (c : Nat) (w : World) :
  Calls Tryz.prog 314 #[.int .i64 c] w fun e w' => e = .returned (.bool (charOk c)) ∧ w' = w := by
 by_cases h8 : c ≤ 8
 ·have e : charOk c = false := decide_eq_false (by omega)
  rw [e]
  exact charF_0 c w (by omega)
 by_cases h9 : c ≤ 9
 ·have e : charOk c = true := decide_eq_true (by omega)
  rw [e]
  exact charF_9 c w (by omega) (by omega)
 by_cases h10 : c ≤ 10
 ·have e : charOk c = true := decide_eq_true (by omega)
  rw [e]
  exact charF_10 c w (by omega) (by omega)
 by_cases h31 : c ≤ 31
 ·have e : charOk c = false := decide_eq_false (by omega)
  rw [e]
  exact charF_11 c w (by omega) (by omega)
 by_cases h126 : c ≤ 126
 ·have e : charOk c = true := decide_eq_true (by omega)
  rw [e]
  exact charF_32 c w (by omega) (by omega)
 by_cases h159 : c ≤ 159
 ·have e : charOk c = false := decide_eq_false (by omega)
  rw [e]
  exact charF_127 c w (by omega) (by omega)
 by_cases h55295 : c ≤ 55295
 ·have e : charOk c = true := decide_eq_true (by omega)
  rw [e]
  exact charF_160 c w (by omega) (by omega)
 by_cases h57343 : c ≤ 57343
 ·have e : charOk c = false := decide_eq_false (by omega)
  rw [e]
  exact charF_55296 c w (by omega) (by omega)
 by_cases h1114111 : c ≤ 1114111
 ·have e : charOk c = true := decide_eq_true (by omega)
  rw [e]
  exact charF_57344 c w (by omega) (by omega)
 have e : charOk c = false := decide_eq_false (by omega)
 rw [e]
 exact charF_1114112 c w (by omega)
end Go.Proofs.YtjcdeeahjkfmoaaGreatDoor
