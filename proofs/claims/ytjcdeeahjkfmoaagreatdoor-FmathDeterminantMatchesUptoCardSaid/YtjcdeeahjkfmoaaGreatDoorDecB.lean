/- Contracts of the program's functions, joined from smaller texts. Conditions stand at each theorem. -/
import Derived.Test.YtjcdeeahjkfmoaaGreatDoorDecA
import Derived.Deep.DeepCutAuto
import Derived.Test.YtjcdeeahjkfmoaaGreatDoorNumE
import Derived.Lib.SlicesS
set_option linter.unusedVariables false
set_option linter.unusedSimpArgs false
set_option maxRecDepth 100000
set_option maxHeartbeats 4000000
namespace Go.Proofs.YtjcdeeahjkfmoaaGreatDoor
namespace Num
open Go.RowKit Go.Lib
theorem rcells2_set3 {W : World} {p : Nat} {x0 x1 a b c : Value} {T : TypeId} (hx : W.heap[p]? = some (.cells #[x0, x1] T (0, 0))) :
  (((W.setCell ⟨p + 1, 0, none⟩ a).setCell ⟨p + 1, 1, none⟩ b).setCell ⟨p + 1, 2, none⟩ c).cell? ⟨p, 0, none⟩ = some x0 ∧ (((W.setCell ⟨p + 1, 0, none⟩ a).setCell ⟨p + 1, 1, none⟩ b).setCell ⟨p + 1, 2, none⟩ c).cell? ⟨p, 1, none⟩ = some x1 :=
 rcells2 ((set3_other W (p + 1) a b c (by omega)).trans hx)
theorem cut_first (c : UInt8) (t : List UInt8) (s : ByteArray) (hs : s = ⟨(c :: t).toArray⟩) : s.extract 1 s.size = ⟨t.toArray⟩ ∧ s.size = t.length + 1 := by
 have hsz : s.size = t.length + 1 := by rw [hs]; show (c :: t).toArray.size = _; simp
 refine ⟨?_, hsz⟩
 rw [hsz, hs]
 apply ByteArray.ext
 simp
theorem fits_len {q : Rat} (h : fits q = true) : (Lib.decDigits (up q)).length ≤ 300 ∧ (Lib.decDigits q.den).length ≤ 300 := by
 unfold fits at h
 rw [Bool.and_eq_true] at h
 exact ⟨of_decide_eq_true h.1, of_decide_eq_true h.2⟩
theorem ratOf_pos' (q : Rat) (w : World) (hq : neg q = false) (hf : fits q = true) :
  Calls Tryz.prog 68 #[fracV q] w (RawRet w false (up q) q.den) := by
 obtain ⟨hl1, hl2⟩ := fits_len hf
 have e0 : fracV q = .agg #[.string (numS q), .string (denS q)] := rfl
 rw [e0]
 have T1 := hid (fun W => dcalls_shaped (natOf_dec (up q) W (by omega)))
 have T2 := hid (fun W => dcalls_shaped (natOf_dec q.den W (by omega)))
 obtain ⟨s, hs⟩ : ∃ s, numS q = s := ⟨_, rfl⟩
 obtain ⟨d, hd⟩ : ∃ d, denS q = d := ⟨_, rfl⟩
 have hs2 : s = ⟨(Lib.decDigits (up q)).toArray⟩ := by rw [← hs]; unfold numS numText; rw [if_neg (by rw [hq]; decide)]
 have hd2 : (⟨(Lib.decDigits q.den).toArray⟩ : ByteArray) = d := by rw [← hd]; rfl
 have hne := decDigits_ne (up q)
 have hall := decDigits_all (up q)
 rw [hd2] at T2
 rw [← hs2] at T1
 rw [hs, hd]
 have hsz : s.size = (Lib.decDigits (up q)).length := by rw [hs2]; exact bstr_size _
 have hpos := List.length_pos_iff.2 hne
 have hge : (1 : Int) ≤ (s.size : Int) := by omega
 have hge2 : 1 ≤ s.size := by omega
 have hmx : s.size ≤ 1000 := by omega
 have hs1 : 0 < s.size := by omega
 obtain ⟨x0, hb0⟩ : ∃ x0, (s[0]'hs1).toNat = x0 := ⟨_, rfl⟩
 have hx0 : 48 ≤ x0 ∧ x0 ≤ 57 := by
  rw [← hb0]
  exact hall _ (by subst hs2; exact List.getElem_mem (by simpa using hpos))
 have m0 : x0 < 256 := by omega
 have hb45 : ((x0 : Int) == 45) = false := by rw [beq_eq_false_iff_ne]; omega
 have hb45n : (x0 == 45) = false := by rw [beq_eq_false_iff_ne]; omega
 obtain ⟨qHX, qHR, hb⟩ := two_new w (.cells #[.string s, .string d] 30) (.cells #[.bool false, .slice none 0 0, .slice none 0 0] 59)
 have HX := hid qHX
 have HR := hid qHR
 have HL := hid hb
 clear hb qHX qHR hs hd hs2 hd2 hl1 hl2 hf hq hsz hne hall hpos
 obtain ⟨W0, hW0⟩ : ∃ W0, ((w.alloc (.cells #[.string s, .string d] 30)).alloc (.cells #[.bool false, .slice none 0 0, .slice none 0 0] 59)) = W0 := ⟨_, rfl⟩
 rw [hW0] at HL HX HR
 have HW := hid hW0
 clear hW0
 go_enter Tryz.func68, Tryz.ntmps68
 go_wp2_with fail
 rw [HW.out]
 obtain ⟨⟨cHX0, cHX1⟩, fHX0, fHX1⟩ := two_at HX.out
 go_wp2_with fail
 clear cHX0 cHX1 fHX0 fHX1
 go_wp2_with fail
 replace HX := hid (drew_block HX.out)
 replace HR := hid (drew_block HR.out)
 replace HL := hid (show Below w.heap.size w W0.drew from HL.out.drew)
 go_region_held3 (fun W => W.cell? ⟨w.heap.size, 0, none⟩ = some (.string s) ∧ W.cell? ⟨w.heap.size, 1, none⟩ = some (.string d))
  (first | (with_reducible exact rcells2 HX.out) | (with_reducible exact rcells2_set3 HX.out) | fail)
  ((first | (go_at_call 54; (with_reducible refine (T1.out _).mono ?_); rintro e W1 ⟨B1, M1, D1, rfl, hp, hb⟩; replace HX := hid (keep_block HX.out hb); replace HR := hid (keep_block HR.out hb); replace HL := hid (HL.out.trans (hb.mono HL.out.size)); have P1 := hid hp; clear hp; clear hb) | (go_at_call 54; (with_reducible refine (T2.out _).mono ?_); rintro e W2 ⟨B2, M2, D2, rfl, hp, hb⟩; replace HX := hid (keep_block HX.out hb); replace HR := hid (keep_block HR.out hb); replace P1 := hid (P1.out.below hb); replace HL := hid (HL.out.trans (hb.mono HL.out.size)); have P2 := hid hp; clear hp; clear hb; obtain ⟨⟨r0, r1, r2⟩, rf0, rf1, rf2⟩ := three_at HR.out)))
 obtain ⟨hret, e0, e1, e2⟩ := rat_stored (m := false) HL.out (show w.heap.size ≤ w.heap.size + 1 from Nat.le_succ _) HR.out P1.out P2.out
 go_wp2
 refine bodyPost_ret (v := .agg #[.bool false, .slice B1 M1 D1, .slice B2 M2 D2]) (by simp [results, Tryz.results68, go_sem, e0, e1, e2]) rfl hret
theorem ratOf_neg' (q : Rat) (w : World) (hq : neg q = true) (hf : fits q = true) :
  Calls Tryz.prog 68 #[fracV q] w (RawRet w true (up q) q.den) := by
 obtain ⟨hl1, hl2⟩ := fits_len hf
 have e0 : fracV q = .agg #[.string (numS q), .string (denS q)] := rfl
 rw [e0]
 have T1 := hid (fun W => dcalls_shaped (natOf_dec (up q) W (by omega)))
 have T2 := hid (fun W => dcalls_shaped (natOf_dec q.den W (by omega)))
 obtain ⟨s, hs⟩ : ∃ s, numS q = s := ⟨_, rfl⟩
 obtain ⟨d, hd⟩ : ∃ d, denS q = d := ⟨_, rfl⟩
 obtain ⟨t, ht⟩ : ∃ t, Lib.decDigits (up q) = t := ⟨_, rfl⟩
 have hs2 : s = ⟨(45 :: t).toArray⟩ := by rw [← hs, ← ht]; unfold numS numText; rw [if_pos hq]
 obtain ⟨hex, hsz⟩ := cut_first 45 t s hs2
 have hd2 : (⟨(Lib.decDigits q.den).toArray⟩ : ByteArray) = d := by rw [← hd]; rfl
 rw [hd2] at T2
 rw [ht] at T1 hl1
 rw [hs, hd]
 have hge : (1 : Int) ≤ (s.size : Int) := by omega
 have hge2 : 1 ≤ s.size := by omega
 have hmx : s.size ≤ 1000 := by omega
 have hs1 : 0 < s.size := by omega
 have hb0 : (s[0]'hs1).toNat = 45 := by subst hs2; rfl
 have h45 : (45 : Nat) < 256 := by decide
 obtain ⟨qHX, qHR, hb⟩ := two_new w (.cells #[.string s, .string d] 30) (.cells #[.bool false, .slice none 0 0, .slice none 0 0] 59)
 have HX := hid qHX
 have HR := hid qHR
 have HL := hid hb
 clear hb qHX qHR hs hd ht hs2 hd2 hl1 hl2 hf hq hsz
 obtain ⟨W0, hW0⟩ : ∃ W0, ((w.alloc (.cells #[.string s, .string d] 30)).alloc (.cells #[.bool false, .slice none 0 0, .slice none 0 0] 59)) = W0 := ⟨_, rfl⟩
 rw [hW0] at HL HX HR
 have HW := hid hW0
 clear hW0
 go_enter Tryz.func68, Tryz.ntmps68
 go_wp2_with fail
 rw [HW.out]
 obtain ⟨⟨cHX0, cHX1⟩, fHX0, fHX1⟩ := two_at HX.out
 go_wp2_with fail
 clear cHX0 cHX1 fHX0 fHX1
 go_wp2_with fail
 replace HX := hid (drew_block HX.out)
 replace HR := hid (drew_block HR.out)
 replace HL := hid (show Below w.heap.size w W0.drew from HL.out.drew)
 go_region_held3 (fun W => W.cell? ⟨w.heap.size, 0, none⟩ = some (.string s) ∧ W.cell? ⟨w.heap.size, 1, none⟩ = some (.string d))
  (first | (with_reducible exact rcells2 HX.out) | (with_reducible exact rcells2_set3 HX.out) | fail)
  ((first | (go_at_call 54; (with_reducible refine (T1.out _).mono ?_); rintro e W1 ⟨B1, M1, D1, rfl, hp, hb⟩; replace HX := hid (keep_block HX.out hb); replace HR := hid (keep_block HR.out hb); replace HL := hid (HL.out.trans (hb.mono HL.out.size)); have P1 := hid hp; clear hp; clear hb) | (go_at_call 54; (with_reducible refine (T2.out _).mono ?_); rintro e W2 ⟨B2, M2, D2, rfl, hp, hb⟩; replace HX := hid (keep_block HX.out hb); replace HR := hid (keep_block HR.out hb); replace P1 := hid (P1.out.below hb); replace HL := hid (HL.out.trans (hb.mono HL.out.size)); have P2 := hid hp; clear hp; clear hb; obtain ⟨⟨r0, r1, r2⟩, rf0, rf1, rf2⟩ := three_at HR.out)))
 obtain ⟨hret, e0, e1, e2⟩ := rat_stored (m := true) HL.out (show w.heap.size ≤ w.heap.size + 1 from Nat.le_succ _) HR.out P1.out P2.out
 go_wp2
 refine bodyPost_ret (v := .agg #[.bool true, .slice B1 M1 D1, .slice B2 M2 D2]) (by simp [results, Tryz.results68, go_sem, e0, e1, e2]) rfl hret
theorem rratOf_any (q : Rat) (w : World) (hf : fits q = true) : Calls Tryz.prog 68 #[fracV q] w (RawRet w (neg q) (up q) q.den) := by
 cases h : neg q with
 | false => exact ratOf_pos' q w h hf
 | true => exact ratOf_neg' q w h hf
def fracRet (q : Rat) : Value := if fits q = true then .tuple #[fracV q, .int .i64 0] else .tuple #[.agg #[.string ⟨#[]⟩, .string ⟨#[]⟩], .int .i64 19]
theorem fracRet_fits {q : Rat} {n d : ByteArray} (h : fits q = true) (hn : n = numS q) (hd : d = denS q) : fracRet q = .tuple #[.agg #[.string n, .string d], .int .i64 0] := by unfold fracRet; rw [if_pos h, hn, hd]; rfl
theorem fracRet_over {q : Rat} (h : ¬ fits q = true) : fracRet q = .tuple #[.agg #[.string ⟨#[]⟩, .string ⟨#[]⟩], .int .i64 19] := if_neg h
theorem numS_zero : numS 0 = ⟨#[48]⟩ := by
 unfold numS numText
 rw [if_neg (by decide), show up 0 = 0 from rfl, decDigits_zero]
theorem denS_zero : denS 0 = ⟨#[49]⟩ := by
 unfold denS denText
 rw [show (0 : Rat).den = 1 from rfl, decDigits_one]
theorem ba_cons (c : UInt8) (l : List UInt8) : (⟨#[c]⟩ : ByteArray) ++ ⟨l.toArray⟩ = ⟨(c :: l).toArray⟩ := by
 apply ByteArray.ext
 simp
theorem tuple_ret {a b : Value} (h : a = b) : Ending.returned a = .returned b := by rw [h]
theorem DecAt.lenD {w : World} {A : Option Addr} {L C n : Nat} (h : DecAt w (.slice A L C) n) : L = (digs 10 n).length := by
 obtain ⟨A', L', C', he, hl, _⟩ := h.len0
 injection he with e1 e2 e3
 rw [e2]; exact hl
theorem rfrac_any (v : Value) (m : Bool) (a b : Nat) (w : World) (h1 : RawAt w v m a b) (hb0 : b ≠ 0) (l1 : (digs 10 a).length ≤ 1000000) (l2 : (digs 10 b).length ≤ 1000000) :
  Calls Tryz.prog 73 #[v] w (fun e w' => e = .returned (fracRet (ratOf m a b)) ∧ Below w.heap.size w w') := by
 obtain ⟨A1, L1, C1, A2, L2, C2, rfl, p1, p2⟩ := h1
 have hz := p1.len_zero
 obtain ⟨q, hqq⟩ : ∃ q, ratOf m a b = q := ⟨_, rfl⟩
 have TG := hid (fun W h h' => dcalls_shaped (dgcd_any (.slice A1 L1 C1) (.slice A2 L2 C2) a b W h h' (by omega) (by omega)))
 obtain ⟨gg, hgg⟩ : ∃ gg, Nat.gcd a b = gg := ⟨_, rfl⟩
 have hg0 : gg ≠ 0 := by
  rw [← hgg]
  exact Nat.ne_of_gt (Nat.gcd_pos_of_pos_right a (Nat.pos_of_ne_zero hb0))
 have hgl : (digs 10 gg).length ≤ 1000000 := by
  refine Nat.le_trans (digs_len_mono ten2 ?_) l2
  rw [← hgg]
  exact Nat.gcd_le_right a (Nat.pos_of_ne_zero hb0)
 have TD1 := hid (fun W v h h' => ddivide_shaped (ddivide_any (.slice A1 L1 C1) v a gg W h h' hg0 (by omega) (by omega)))
 have TD2 := hid (fun W v h h' => ddivide_shaped (ddivide_any (.slice A2 L2 C2) v b gg W h h' hg0 (by omega) (by omega)))
 rw [hgg] at TG
 rw [hqq]
 have HQ : Hid (a ≠ 0 → up q = a / gg ∧ q.den = b / gg ∧ neg q = m ∧ a / gg ≠ 0 ∧ b / gg ≠ 0) := by
  intro ha
  have k1 := ratOf_up m a hb0
  have k2 := ratOf_den m a hb0
  have k3 := ratOf_neg m a hb0
  rw [hqq, hgg] at k1 k2
  rw [hqq, decide_eq_true ha, Bool.and_true] at k3
  refine ⟨k1, k2, k3, ?_, ?_⟩
  ·rw [← hgg]
   exact Nat.ne_of_gt (Nat.div_pos (Nat.gcd_le_left b (Nat.pos_of_ne_zero ha)) (Nat.gcd_pos_of_pos_left b (Nat.pos_of_ne_zero ha)))
  ·rw [← k2]; exact q.den_nz
 have HQ0 : Hid (a = 0 → q = 0) := by
  intro ha
  rw [← hqq, ha, ratOf_zero]
 obtain ⟨qHX, qHR, hb⟩ := two_new w (.cells #[.bool m, .slice A1 L1 C1, .slice A2 L2 C2] 59) (.cells #[.string ⟨#[]⟩, .string ⟨#[]⟩] 30)
 have HX := hid qHX
 have HR := hid qHR
 have N1 := hid ((p1).below hb)
 have N2 := hid ((p2).below hb)
 have HL := hid hb
 clear hb qHX qHR p1 p2 hqq hgg hg0 hgl l1 l2
 obtain ⟨W0, hW0⟩ : ∃ W0, ((w.alloc (.cells #[.bool m, .slice A1 L1 C1, .slice A2 L2 C2] 59)).alloc (.cells #[.string ⟨#[]⟩, .string ⟨#[]⟩] 30)) = W0 := ⟨_, rfl⟩
 rw [hW0] at HL HX HR N1 N2
 have HW := hid hW0
 clear hW0
 by_cases ha : a = 0
 ·have hL0 : L1 = 0 := hz.2 ha
  subst hL0
  have HA := hid ha
  clear hz ha HW HX HR HL
  obtain ⟨_, e1, hb⟩ := two_new w (.cells #[.bool m, .slice A1 0 C1, .slice A2 L2 C2] 59) (.cells #[.string ⟨#[48]⟩, .string ⟨#[49]⟩] 30)
  obtain ⟨⟨e0, e1⟩, _⟩ := two_at e1
  have HE := hid hb
  clear hb
  go_enter Tryz.func73, Tryz.ntmps73
  go_wp2
  refine bodyPost_ret (v := .tuple #[.agg #[.string ⟨#[48]⟩, .string ⟨#[49]⟩], .int .i64 0]) (by simp [results, Tryz.results73, go_sem, e0, e1]) rfl ⟨tuple_ret (by rw [HQ0.out HA.out]; exact (fracRet_fits fits_zero numS_zero.symm denS_zero.symm).symm), HE.out⟩
 ·have hL0 : ¬ L1 = 0 := fun e => ha (hz.1 e)
  have hLb : ((L1 : Int) == 0) = false := by rw [beq_eq_false_iff_ne]; omega
  have hLn : (L1 == 0) = false := by rw [beq_eq_false_iff_ne]; exact hL0
  obtain ⟨k1, k2, k3, k4, k5⟩ := HQ.out ha
  have K1 := hid k1; have K2 := hid k2; have K3 := hid k3; have K4 := hid k4; have K5 := hid k5
  clear hz ha hL0 k1 k2 k3 k4 k5
  go_enter Tryz.func73, Tryz.ntmps73
  go_wp2_with fail
  rw [HW.out]
  obtain ⟨⟨cHX0, cHX1, cHX2⟩, fHX0, fHX1, fHX2⟩ := three_at HX.out
  go_wp2_with fail
  refine (TG.out _ N1.out N2.out).mono ?_
  rintro e W1 ⟨B1, M1, D1, rfl, hp, hb⟩
  clear cHX0 cHX1 cHX2 fHX0 fHX1 fHX2
  replace HX := hid (keep_block HX.out hb)
  replace HR := hid (keep_block HR.out hb)
  replace N1 := hid (N1.out.below hb)
  replace N2 := hid (N2.out.below hb)
  replace HL := hid (HL.out.trans (hb.mono HL.out.size))
  have PG := hid hp
  clear hb hp
  obtain ⟨⟨cHX0, cHX1, cHX2⟩, fHX0, fHX1, fHX2⟩ := three_at HX.out
  go_wp2_with fail
  refine (TD1.out _ _ N1.out PG.out).mono ?_
  rintro e W2 ⟨B2, M2, D2, B3, M3, D3, rfl, hp, hb⟩
  clear cHX0 cHX1 cHX2 fHX0 fHX1 fHX2
  replace HX := hid (keep_block HX.out hb)
  replace HR := hid (keep_block HR.out hb)
  replace N1 := hid (N1.out.below hb)
  replace N2 := hid (N2.out.below hb)
  replace PG := hid (PG.out.below hb)
  replace HL := hid (HL.out.trans (hb.mono HL.out.size))
  clear hb
  have PN := hid hp.1
  have HN := hid hp.1.lenD
  clear hp
  obtain ⟨⟨cHX0, cHX1, cHX2⟩, fHX0, fHX1, fHX2⟩ := three_at HX.out
  go_wp2_with fail
  refine (TD2.out _ _ N2.out PG.out).mono ?_
  rintro e W3 ⟨B4, M4, D4, B5, M5, D5, rfl, hp, hb⟩
  clear cHX0 cHX1 cHX2 fHX0 fHX1 fHX2
  replace HX := hid (keep_block HX.out hb)
  replace HR := hid (keep_block HR.out hb)
  replace N1 := hid (N1.out.below hb)
  replace N2 := hid (N2.out.below hb)
  replace PG := hid (PG.out.below hb)
  replace PN := hid (PN.out.below hb)
  replace HL := hid (HL.out.trans (hb.mono HL.out.size))
  clear hb
  have PD := hid hp.1
  have HDL := hid hp.1.lenD
  clear hp
  have hfit : fits q = (decide (M2 ≤ 300) && decide (M4 ≤ 300)) := by
   unfold fits
   rw [K1.out, K2.out, HN.out, HDL.out, digs_ten_len _ K4.out, digs_ten_len _ K5.out]
  have HFI := hid hfit
  clear hfit
  by_cases hA : M2 ≤ 300
  ·have qa : decide ((300 : Int) < (M2 : Int)) = false := decide_eq_false (by omega)
   have qan : decide (300 < M2) = false := decide_eq_false (by omega)
   by_cases hB : M4 ≤ 300
   ·have qb : decide ((300 : Int) < (M4 : Int)) = false := decide_eq_false (by omega)
    have qbn : decide (300 < M4) = false := decide_eq_false (by omega)
    have HFT : Hid (fits q = true) := by show _ = _; rw [HFI.out, decide_eq_true hA, decide_eq_true hB]; rfl
    clear hA hB
    have hl1 : (digs 10 (a / gg)).length ≤ 1000000000 := by rw [← K1.out, digs_ten_len _ (by rw [K1.out]; exact K4.out)]; have := (fits_len HFT.out).1; omega
    have hl2 : (digs 10 (b / gg)).length ≤ 1000000000 := by rw [← K2.out, digs_ten_len _ (by rw [K2.out]; exact K5.out)]; have := (fits_len HFT.out).2; omega
    have TX1 := hid (fun W h => dtext_any (.slice B2 M2 D2) (a / gg) W h hl1)
    have TX2 := hid (fun W h => dtext_any (.slice B4 M4 D4) (b / gg) W h hl2)
    obtain ⟨t1, ht1⟩ : ∃ t, Lib.decDigits (a / gg) = t := ⟨_, rfl⟩
    obtain ⟨t2, ht2⟩ : ∃ t, Lib.decDigits (b / gg) = t := ⟨_, rfl⟩
    rw [ht1] at TX1
    rw [ht2] at TX2
    have htl : t1.length ≤ 300 := by rw [← ht1, ← K1.out]; exact (fits_len HFT.out).1
    have HD : Hid ((⟨t2.toArray⟩ : ByteArray) = denS q) := by show _ = _; rw [← ht2, ← K2.out]; rfl
    have HT1 := hid ht1
    clear hl1 hl2 ht1 ht2
    go_wp2_with fail
    refine (TX1.out _ PN.out).mono ?_
    rintro e W4 ⟨rfl, hb⟩
    replace HX := hid (keep_block HX.out hb)
    replace HR := hid (keep_block HR.out hb)
    replace N1 := hid (N1.out.below hb)
    replace N2 := hid (N2.out.below hb)
    replace PG := hid (PG.out.below hb)
    replace PN := hid (PN.out.below hb)
    replace PD := hid (PD.out.below hb)
    replace HL := hid (HL.out.trans (hb.mono HL.out.size))
    clear hb
    go_wp2_with fail
    refine (TX2.out _ PD.out).mono ?_
    rintro e W5 ⟨rfl, hb⟩
    replace HX := hid (keep_block HX.out hb)
    replace HR := hid (keep_block HR.out hb)
    replace N1 := hid (N1.out.below hb)
    replace N2 := hid (N2.out.below hb)
    replace PG := hid (PG.out.below hb)
    replace PN := hid (PN.out.below hb)
    replace PD := hid (PD.out.below hb)
    replace HL := hid (HL.out.trans (hb.mono HL.out.size))
    clear hb
    cases m with
    | false =>
     have hq : Below W5.heap.size W5 (W5.alloc (.cells #[.string ⟨t1.toArray⟩, .string ⟨t2.toArray⟩] 30)) := (Below.refl _ _).alloc (Nat.le_refl _) _
     have gHF := heap_lt HR.out
     replace HX := hid (keep_block HX.out hq)
     replace HR := hid (keep_block HR.out hq)
     replace N1 := hid (N1.out.below hq)
     replace N2 := hid (N2.out.below hq)
     replace PG := hid (PG.out.below hq)
     replace PN := hid (PN.out.below hq)
     replace PD := hid (PD.out.below hq)
     replace HL := hid (HL.out.trans (hq.mono HL.out.size))
     have HF := hid (heap_alloc_new W5 (.cells #[.string ⟨t1.toArray⟩, .string ⟨t2.toArray⟩] 30))
     clear hq
     obtain ⟨bf, hbo⟩ : ∃ z, W5.heap.size = z := ⟨_, rfl⟩
     obtain ⟨WV1, hWA⟩ : ∃ Z, W5.alloc (.cells #[.string ⟨t1.toArray⟩, .string ⟨t2.toArray⟩] 30) = Z := ⟨_, rfl⟩
     rw [hbo, hWA] at HF
     rw [hbo] at gHF
     rw [hWA] at HL HX HR N1 N2 PG PN PD
     have HW1 := hid hWA
     have HB1 := hid hbo
     clear hWA hbo
     go_upto_region 9 with fail
     rw [HW1.out, HB1.out]
     obtain ⟨⟨cHX0, cHX1, cHX2⟩, fHX0, fHX1, fHX2⟩ := three_at HX.out
     obtain ⟨⟨cHF0, cHF1⟩, fHF0, fHF1⟩ := two_at HF.out
     obtain ⟨⟨cHR0, cHR1⟩, fHR0, fHR1⟩ := two_at HR.out
     have hs2 := set2_at HR.out (.string ⟨t1.toArray⟩) (.string ⟨t2.toArray⟩)
     obtain ⟨⟨e0, e1⟩, _⟩ := two_at hs2
     have HE := hid ((HL.out.setCell (p := ⟨w.heap.size + 1, 0, none⟩) (show w.heap.size ≤ w.heap.size + 1 from Nat.le_succ _) (.string ⟨t1.toArray⟩)).setCell (p := ⟨w.heap.size + 1, 1, none⟩) (show w.heap.size ≤ w.heap.size + 1 from Nat.le_succ _) (.string ⟨t2.toArray⟩))
     clear hs2
     go_wp2
     refine bodyPost_ret (v := .tuple #[.agg #[.string ⟨t1.toArray⟩, .string ⟨t2.toArray⟩], .int .i64 0]) (by simp [results, Tryz.results73, go_sem, e0, e1]) rfl ⟨tuple_ret ((fracRet_fits HFT.out (by rw [← HT1.out, ← K1.out]; unfold numS numText; rw [if_neg (by rw [K3.out]; decide)]) HD.out).symm), HE.out⟩
    | true =>
     have hq : Below W5.heap.size W5 (W5.alloc (.cells #[.string ⟨t1.toArray⟩, .string ⟨t2.toArray⟩] 30)) := (Below.refl _ _).alloc (Nat.le_refl _) _
     have gHF := heap_lt HR.out
     replace HX := hid (keep_block HX.out hq)
     replace HR := hid (keep_block HR.out hq)
     replace N1 := hid (N1.out.below hq)
     replace N2 := hid (N2.out.below hq)
     replace PG := hid (PG.out.below hq)
     replace PN := hid (PN.out.below hq)
     replace PD := hid (PD.out.below hq)
     replace HL := hid (HL.out.trans (hq.mono HL.out.size))
     have HF := hid (heap_alloc_new W5 (.cells #[.string ⟨t1.toArray⟩, .string ⟨t2.toArray⟩] 30))
     clear hq
     obtain ⟨bf, hbo⟩ : ∃ z, W5.heap.size = z := ⟨_, rfl⟩
     obtain ⟨WV2, hWA⟩ : ∃ Z, W5.alloc (.cells #[.string ⟨t1.toArray⟩, .string ⟨t2.toArray⟩] 30) = Z := ⟨_, rfl⟩
     rw [hbo, hWA] at HF
     rw [hbo] at gHF
     rw [hWA] at HL HX HR N1 N2 PG PN PD
     have HW2 := hid hWA
     have HB2 := hid hbo
     clear hWA hbo
     go_upto_region 9 with fail
     rw [HW2.out, HB2.out]
     have hcl : (9223372036854775807 < t1.length + 1) = False := eq_false (by omega)
     have hcl2 : (9223372036854775807 < 1 + t1.length) = False := eq_false (by omega)
     have hcat := ba_cons 45 t1
     have HT45 : Hid ((⟨(45 :: t1).toArray⟩ : ByteArray) = numS q) := by show _ = _; rw [← HT1.out, ← K1.out]; unfold numS numText; rw [if_pos K3.out]
     obtain ⟨s1, hs1⟩ : ∃ s, (⟨(45 :: t1).toArray⟩ : ByteArray) = s := ⟨_, rfl⟩
     rw [hs1] at hcat HT45
     clear hs1
     obtain ⟨⟨cHX0, cHX1, cHX2⟩, fHX0, fHX1, fHX2⟩ := three_at HX.out
     obtain ⟨⟨cHF0, cHF1⟩, fHF0, fHF1⟩ := two_at HF.out
     have hkf := heap_setCell_at HF.out 0 (.string s1)
     have hkr := (Below.heap_setCell WV2 ⟨bf, 0, none⟩ (.string s1) (w.heap.size + 1) (show w.heap.size + 1 ≠ bf by omega)).trans HR.out
     have hkl := HL.out.setCell (p := ⟨bf, 0, none⟩) (show w.heap.size ≤ bf by omega) (.string s1)
     go_upto_region 11 with fail
     obtain ⟨WT, hWT⟩ : ∃ Z, WV2.setCell ⟨bf, 0, none⟩ (.string s1) = Z := ⟨_, rfl⟩
     rw [hWT] at hkf hkr hkl ⊢
     replace HF := hid hkf
     replace HR := hid hkr
     replace HL := hid hkl
     clear hWT hkf hkr hkl
     clear cHX0 cHX1 cHX2 fHX0 fHX1 fHX2 cHF0 cHF1 fHF0 fHF1
     have HF2 : Hid (WT.heap[bf]? = some (.cells #[.string s1, .string ⟨t2.toArray⟩] 30 (0, 0))) := HF.out
     clear HX
     obtain ⟨⟨cHF20, cHF21⟩, fHF20, fHF21⟩ := two_at HF2.out
     obtain ⟨⟨cHR0, cHR1⟩, fHR0, fHR1⟩ := two_at HR.out
     have hs2 := set2_at HR.out (.string s1) (.string ⟨t2.toArray⟩)
     obtain ⟨⟨e0, e1⟩, _⟩ := two_at hs2
     have HE := hid ((HL.out.setCell (p := ⟨w.heap.size + 1, 0, none⟩) (show w.heap.size ≤ w.heap.size + 1 from Nat.le_succ _) (.string s1)).setCell (p := ⟨w.heap.size + 1, 1, none⟩) (show w.heap.size ≤ w.heap.size + 1 from Nat.le_succ _) (.string ⟨t2.toArray⟩))
     clear hs2
     go_wp2
     refine bodyPost_ret (v := .tuple #[.agg #[.string s1, .string ⟨t2.toArray⟩], .int .i64 0]) (by simp [results, Tryz.results73, go_sem, e0, e1]) rfl ⟨tuple_ret ((fracRet_fits HFT.out HT45.out HD.out).symm), HE.out⟩
   ·have qb : decide ((300 : Int) < (M4 : Int)) = true := decide_eq_true (by omega)
    have qbn : decide (300 < M4) = true := decide_eq_true (by omega)
    have HF : Hid (¬ fits q = true) := by show ¬ _; rw [HFI.out, decide_eq_true hA, decide_eq_false hB]; decide
    clear hA hB
    have hs2 := set2_at HR.out (.string ⟨#[]⟩) (.string ⟨#[]⟩)
    obtain ⟨⟨e0, e1⟩, _⟩ := two_at hs2
    have HE := hid ((HL.out.setCell (p := ⟨w.heap.size + 1, 0, none⟩) (show w.heap.size ≤ w.heap.size + 1 from Nat.le_succ _) (.string ⟨#[]⟩)).setCell (p := ⟨w.heap.size + 1, 1, none⟩) (show w.heap.size ≤ w.heap.size + 1 from Nat.le_succ _) (.string ⟨#[]⟩))
    clear hs2
    obtain ⟨⟨r0, r1⟩, rf0, rf1⟩ := two_at HR.out
    go_wp2
    refine bodyPost_ret (v := .tuple #[.agg #[.string ⟨#[]⟩, .string ⟨#[]⟩], .int .i64 19]) (by simp [results, Tryz.results73, go_sem, e0, e1]) rfl ⟨tuple_ret ((fracRet_over HF.out).symm), HE.out⟩
  ·have qa : decide ((300 : Int) < (M2 : Int)) = true := decide_eq_true (by omega)
   have qan : decide (300 < M2) = true := decide_eq_true (by omega)
   have HF : Hid (¬ fits q = true) := by show ¬ _; rw [HFI.out, decide_eq_false hA, Bool.false_and]; decide
   clear hA
   have hs2 := set2_at HR.out (.string ⟨#[]⟩) (.string ⟨#[]⟩)
   obtain ⟨⟨e0, e1⟩, _⟩ := two_at hs2
   have HE := hid ((HL.out.setCell (p := ⟨w.heap.size + 1, 0, none⟩) (show w.heap.size ≤ w.heap.size + 1 from Nat.le_succ _) (.string ⟨#[]⟩)).setCell (p := ⟨w.heap.size + 1, 1, none⟩) (show w.heap.size ≤ w.heap.size + 1 from Nat.le_succ _) (.string ⟨#[]⟩))
   clear hs2
   obtain ⟨⟨r0, r1⟩, rf0, rf1⟩ := two_at HR.out
   go_wp2
   refine bodyPost_ret (v := .tuple #[.agg #[.string ⟨#[]⟩, .string ⟨#[]⟩], .int .i64 19]) (by simp [results, Tryz.results73, go_sem, e0, e1]) rfl ⟨tuple_ret ((fracRet_over HF.out).symm), HE.out⟩
end Num
namespace Num
open Go.RowKit Go.Lib
theorem rfault_any (c : Int) (w : World) : Calls Tryz.prog 31 #[.int .i64 c] w fun e w' => e = .returned (faultVal c) ∧ Below w.heap.size w w' := by
 have hb : Below w.heap.size w (w.alloc (.cells #[.int .i64 4, .string ⟨#[]⟩, .string ⟨#[]⟩, .string ⟨#[]⟩, .bool false, .int .i64 c, .int .i64 0, .int .i64 0, .slice none 0 0] 32)) := (Below.refl _ _).alloc (Nat.le_refl _) _
 have hR := heap_alloc_new w (.cells #[.int .i64 4, .string ⟨#[]⟩, .string ⟨#[]⟩, .string ⟨#[]⟩, .bool false, .int .i64 c, .int .i64 0, .int .i64 0, .slice none 0 0] 32)
 obtain ⟨⟨e0, e1, e2, e3, e4, e5, e6, e7, e8⟩, _⟩ := nine_at hR
 have HB := hid hb
 clear hb hR
 go_enter Tryz.func31, Tryz.ntmps31
 go_wp2
 refine bodyPost_ret (v := .agg #[.int .i64 4, .string ⟨#[]⟩, .string ⟨#[]⟩, .string ⟨#[]⟩, .bool false, .int .i64 c, .int .i64 0, .int .i64 0, .slice none 0 0]) (by simp [results, Tryz.results31, go_sem, e0, e1, e2, e3, e4, e5, e6, e7, e8]) rfl ⟨rfl, HB.out⟩
def numOr (q : Rat) : Value := if fits q = true then numVal q else faultVal 5
theorem rnumber_any (v : Value) (m : Bool) (a b : Nat) (w : World) (h1 : RawAt w v m a b) (hb0 : b ≠ 0) (l1 : (digs 10 a).length ≤ 1000000) (l2 : (digs 10 b).length ≤ 1000000) :
  Calls Tryz.prog 32 #[v] w (fun e w' => e = .returned (numOr (ratOf m a b)) ∧ Below w.heap.size w w') := by
 obtain ⟨A1, L1, C1, A2, L2, C2, rfl, p1, p2⟩ := h1
 obtain ⟨q, hqq⟩ : ∃ q, ratOf m a b = q := ⟨_, rfl⟩
 have TF := hid (fun W h h' => rfrac_any (.agg #[.bool m, .slice A1 L1 C1, .slice A2 L2 C2]) m a b W (raw_of h h') hb0 l1 l2)
 rw [hqq] at TF ⊢
 have T5 := hid (fun W => rfault_any 5 W)
 rw [faultVal_is] at T5
 obtain ⟨qHX, qHR, hb⟩ := two_new w (.cells #[.bool m, .slice A1 L1 C1, .slice A2 L2 C2] 59) (.cells #[.int .i64 0, .string ⟨#[]⟩, .string ⟨#[]⟩, .string ⟨#[]⟩, .bool false, .int .i64 0, .int .i64 0, .int .i64 0, .slice none 0 0] 32)
 have HX := hid qHX
 have HR := hid qHR
 have N1 := hid ((p1).below hb)
 have N2 := hid ((p2).below hb)
 have HL := hid hb
 clear hb qHX qHR p1 p2 hqq l1 l2
 obtain ⟨W0, hW0⟩ : ∃ W0, ((w.alloc (.cells #[.bool m, .slice A1 L1 C1, .slice A2 L2 C2] 59)).alloc (.cells #[.int .i64 0, .string ⟨#[]⟩, .string ⟨#[]⟩, .string ⟨#[]⟩, .bool false, .int .i64 0, .int .i64 0, .int .i64 0, .slice none 0 0] 32)) = W0 := ⟨_, rfl⟩
 rw [hW0] at HL HX HR N1 N2
 have HW := hid hW0
 clear hW0
 by_cases hf : fits q = true
 ·unfold fracRet at TF
  rw [if_pos hf, fracV_is] at TF
  have HF := hid hf
  clear hf
  go_enter Tryz.func32, Tryz.ntmps32
  go_wp2_with fail
  rw [HW.out]
  obtain ⟨⟨cHX0, cHX1, cHX2⟩, fHX0, fHX1, fHX2⟩ := three_at HX.out
  go_wp2_with fail
  refine (TF.out _ N1.out N2.out).mono ?_
  rintro e W1 ⟨rfl, hb⟩
  clear cHX0 cHX1 cHX2 fHX0 fHX1 fHX2
  replace HX := hid (keep_block HX.out hb)
  replace HR := hid (keep_block HR.out hb)
  replace N1 := hid (N1.out.below hb)
  replace N2 := hid (N2.out.below hb)
  replace HL := hid (HL.out.trans (hb.mono HL.out.size))
  clear hb
  have hq : Below W1.heap.size W1 (W1.alloc (.cells #[.string (numS q), .string (denS q)] 30)) := (Below.refl _ _).alloc (Nat.le_refl _) _
  have gHV := heap_lt HR.out
  replace HX := hid (keep_block HX.out hq)
  replace HR := hid (keep_block HR.out hq)
  replace N1 := hid (N1.out.below hq)
  replace N2 := hid (N2.out.below hq)
  replace HL := hid (HL.out.trans (hq.mono HL.out.size))
  have HV := hid (heap_alloc_new W1 (.cells #[.string (numS q), .string (denS q)] 30))
  clear hq
  obtain ⟨bv, hbo⟩ : ∃ z, W1.heap.size = z := ⟨_, rfl⟩
  obtain ⟨WV1, hWA⟩ : ∃ Z, W1.alloc (.cells #[.string (numS q), .string (denS q)] 30) = Z := ⟨_, rfl⟩
  rw [hbo, hWA] at HV
  rw [hbo] at gHV
  rw [hWA] at HL HX HR N1 N2
  have HW1 := hid hWA
  have HB1 := hid hbo
  clear hWA hbo
  go_upto_region 2 with fail
  rw [HW1.out, HB1.out]
  obtain ⟨⟨cHV0, cHV1⟩, fHV0, fHV1⟩ := two_at HV.out
  have hs9 := set9_at HR.out (.int .i64 1) (.string (numS q)) (.string (denS q)) (.string ⟨#[]⟩) (.bool false) (.int .i64 0) (.int .i64 0) (.int .i64 0) (.slice none 0 0)
  obtain ⟨⟨e0, e1, e2, e3, e4, e5, e6, e7, e8⟩, _⟩ := nine_at hs9
  have HE := hid (((((((((HL.out.setCell (p := ⟨w.heap.size + 1, 0, none⟩) (show w.heap.size ≤ w.heap.size + 1 from Nat.le_succ _) (.int .i64 1)).setCell (p := ⟨w.heap.size + 1, 1, none⟩) (show w.heap.size ≤ w.heap.size + 1 from Nat.le_succ _) (.string (numS q))).setCell (p := ⟨w.heap.size + 1, 2, none⟩) (show w.heap.size ≤ w.heap.size + 1 from Nat.le_succ _) (.string (denS q))).setCell (p := ⟨w.heap.size + 1, 3, none⟩) (show w.heap.size ≤ w.heap.size + 1 from Nat.le_succ _) (.string ⟨#[]⟩)).setCell (p := ⟨w.heap.size + 1, 4, none⟩) (show w.heap.size ≤ w.heap.size + 1 from Nat.le_succ _) (.bool false)).setCell (p := ⟨w.heap.size + 1, 5, none⟩) (show w.heap.size ≤ w.heap.size + 1 from Nat.le_succ _) (.int .i64 0)).setCell (p := ⟨w.heap.size + 1, 6, none⟩) (show w.heap.size ≤ w.heap.size + 1 from Nat.le_succ _) (.int .i64 0)).setCell (p := ⟨w.heap.size + 1, 7, none⟩) (show w.heap.size ≤ w.heap.size + 1 from Nat.le_succ _) (.int .i64 0)).setCell (p := ⟨w.heap.size + 1, 8, none⟩) (show w.heap.size ≤ w.heap.size + 1 from Nat.le_succ _) (.slice none 0 0))
  clear hs9
  obtain ⟨⟨cHR0, cHR1, cHR2, cHR3, cHR4, cHR5, cHR6, cHR7, cHR8⟩, fHR0, fHR1, fHR2, fHR3, fHR4, fHR5, fHR6, fHR7, fHR8⟩ := nine_at HR.out
  go_wp2
  refine bodyPost_ret (v := .agg #[.int .i64 1, .string (numS q), .string (denS q), .string ⟨#[]⟩, .bool false, .int .i64 0, .int .i64 0, .int .i64 0, .slice none 0 0]) (by simp [results, Tryz.results32, go_sem, e0, e1, e2, e3, e4, e5, e6, e7, e8]) rfl ⟨tuple_ret (by unfold numOr; rw [if_pos HF.out, numVal_is]), HE.out⟩
 ·unfold fracRet at TF
  rw [if_neg hf] at TF
  have HF := hid hf
  clear hf
  go_enter Tryz.func32, Tryz.ntmps32
  go_wp2_with fail
  rw [HW.out]
  obtain ⟨⟨cHX0, cHX1, cHX2⟩, fHX0, fHX1, fHX2⟩ := three_at HX.out
  go_wp2_with fail
  refine (TF.out _ N1.out N2.out).mono ?_
  rintro e W2 ⟨rfl, hb⟩
  clear cHX0 cHX1 cHX2 fHX0 fHX1 fHX2
  replace HX := hid (keep_block HX.out hb)
  replace HR := hid (keep_block HR.out hb)
  replace N1 := hid (N1.out.below hb)
  replace N2 := hid (N2.out.below hb)
  replace HL := hid (HL.out.trans (hb.mono HL.out.size))
  clear hb
  have hq : Below W2.heap.size W2 (W2.alloc (.cells #[.string ⟨#[]⟩, .string ⟨#[]⟩] 30)) := (Below.refl _ _).alloc (Nat.le_refl _) _
  have gHV := heap_lt HR.out
  replace HX := hid (keep_block HX.out hq)
  replace HR := hid (keep_block HR.out hq)
  replace N1 := hid (N1.out.below hq)
  replace N2 := hid (N2.out.below hq)
  replace HL := hid (HL.out.trans (hq.mono HL.out.size))
  have HV := hid (heap_alloc_new W2 (.cells #[.string ⟨#[]⟩, .string ⟨#[]⟩] 30))
  clear hq
  obtain ⟨bv, hbo⟩ : ∃ z, W2.heap.size = z := ⟨_, rfl⟩
  obtain ⟨WV2, hWA⟩ : ∃ Z, W2.alloc (.cells #[.string ⟨#[]⟩, .string ⟨#[]⟩] 30) = Z := ⟨_, rfl⟩
  rw [hbo, hWA] at HV
  rw [hbo] at gHV
  rw [hWA] at HL HX HR N1 N2
  have HW2 := hid hWA
  have HB2 := hid hbo
  clear hWA hbo
  go_upto_region 2 with fail
  rw [HW2.out, HB2.out]
  go_wp2_with fail
  refine (T5.out _).mono ?_
  rintro e W3 ⟨rfl, hb⟩
  replace HX := hid (keep_block HX.out hb)
  replace HR := hid (keep_block HR.out hb)
  replace HV := hid (keep_block HV.out hb)
  replace N1 := hid (N1.out.below hb)
  replace N2 := hid (N2.out.below hb)
  replace HL := hid (HL.out.trans (hb.mono HL.out.size))
  clear hb
  have hs9 := set9_at HR.out (.int .i64 4) (.string ⟨#[]⟩) (.string ⟨#[]⟩) (.string ⟨#[]⟩) (.bool false) (.int .i64 5) (.int .i64 0) (.int .i64 0) (.slice none 0 0)
  obtain ⟨⟨e0, e1, e2, e3, e4, e5, e6, e7, e8⟩, _⟩ := nine_at hs9
  have HE := hid (((((((((HL.out.setCell (p := ⟨w.heap.size + 1, 0, none⟩) (show w.heap.size ≤ w.heap.size + 1 from Nat.le_succ _) (.int .i64 4)).setCell (p := ⟨w.heap.size + 1, 1, none⟩) (show w.heap.size ≤ w.heap.size + 1 from Nat.le_succ _) (.string ⟨#[]⟩)).setCell (p := ⟨w.heap.size + 1, 2, none⟩) (show w.heap.size ≤ w.heap.size + 1 from Nat.le_succ _) (.string ⟨#[]⟩)).setCell (p := ⟨w.heap.size + 1, 3, none⟩) (show w.heap.size ≤ w.heap.size + 1 from Nat.le_succ _) (.string ⟨#[]⟩)).setCell (p := ⟨w.heap.size + 1, 4, none⟩) (show w.heap.size ≤ w.heap.size + 1 from Nat.le_succ _) (.bool false)).setCell (p := ⟨w.heap.size + 1, 5, none⟩) (show w.heap.size ≤ w.heap.size + 1 from Nat.le_succ _) (.int .i64 5)).setCell (p := ⟨w.heap.size + 1, 6, none⟩) (show w.heap.size ≤ w.heap.size + 1 from Nat.le_succ _) (.int .i64 0)).setCell (p := ⟨w.heap.size + 1, 7, none⟩) (show w.heap.size ≤ w.heap.size + 1 from Nat.le_succ _) (.int .i64 0)).setCell (p := ⟨w.heap.size + 1, 8, none⟩) (show w.heap.size ≤ w.heap.size + 1 from Nat.le_succ _) (.slice none 0 0))
  clear hs9
  obtain ⟨⟨cHR0, cHR1, cHR2, cHR3, cHR4, cHR5, cHR6, cHR7, cHR8⟩, fHR0, fHR1, fHR2, fHR3, fHR4, fHR5, fHR6, fHR7, fHR8⟩ := nine_at HR.out
  go_wp2
  refine bodyPost_ret (v := .agg #[.int .i64 4, .string ⟨#[]⟩, .string ⟨#[]⟩, .string ⟨#[]⟩, .bool false, .int .i64 5, .int .i64 0, .int .i64 0, .slice none 0 0]) (by simp [results, Tryz.results32, go_sem, e0, e1, e2, e3, e4, e5, e6, e7, e8]) rfl ⟨tuple_ret (by unfold numOr; rw [if_neg HF.out, faultVal_is]), HE.out⟩
end Num
namespace Num
open Go.RowKit Go.Lib
def isDig (c : UInt8) : Bool := decide (48 ≤ c.toNat) && decide (c.toNat ≤ 57)
def digOk (l : List UInt8) : Bool := l.all isDig && decide (l ≠ []) && (decide (l.head? ≠ some 48) || decide (l = [48]))
theorem all_of_take {l : List UInt8} {i : Nat} (h : (l.take i).all isDig = true) (hi : i < l.length) (hd : isDig l[i] = true) : (l.take (i + 1)).all isDig = true := by
 rw [List.take_succ_eq_append_getElem hi, List.all_append, h]
 simp [hd]
theorem not_all {l : List UInt8} {i : Nat} (hi : i < l.length) (hd : isDig l[i] = false) : digOk l = false := by
 have : l.all isDig = false := by
  rw [List.all_eq_false]
  exact ⟨l[i], List.getElem_mem hi, by rw [hd]; decide⟩
 unfold digOk
 rw [this]; rfl
theorem bytes_some {s : ByteArray} (h : s ≠ ⟨#[]⟩) : s.toList.isEmpty = false := by
 rw [List.isEmpty_eq_false_iff]
 intro e
 rw [ByteArray.toList_eq] at e
 exact h (ByteArray.ext (Array.toList_inj.1 e))
theorem bytes_zero {s : ByteArray} (h : s ≠ ⟨#[48]⟩) : (s.toList == [48]) = false := by
 rw [ByteArray.toList_eq, beq_eq_false_iff_ne]
 exact fun e => h (ByteArray.ext (Array.toList_inj.1 e))
theorem isDig_iff (c : UInt8) : isDig c = true ↔ 48 ≤ c.toNat ∧ c.toNat ≤ 57 := by
 unfold isDig
 rw [Bool.and_eq_true, decide_eq_true_eq, decide_eq_true_eq]
theorem rdigits_any (s : ByteArray) (w : World) (hs : s.size ≤ 1000000000) :
  Calls Tryz.prog 122 #[.string s] w fun e w' => e = .returned (.bool (digOk s.data.toList)) ∧ w' = w := by
 have HSZ : Hid (s.data.toList.length = s.size) := by show _ = _; rw [Array.length_toList]; rfl
 obtain ⟨R, hR⟩ : ∃ R, digOk s.data.toList = R := ⟨_, rfl⟩
 rw [hR]
 have HR := hid hR
 clear hR
 go_enter Tryz.func122, Tryz.ntmps122
 go_wp2
 go_loopg [3, 6] s.size (fun g v3 v6 wx => ∃ (i : Nat), i + g = s.size ∧ v6 = .int .i64 i ∧ (s.data.toList.take i).all isDig = true ∧ wx = w)
 case atStart => exact ⟨0, by omega, by go_num, rfl, rfl⟩
 case round =>
  obtain ⟨i, hi, rfl, hall, rfl⟩ := hrel
  have HA := hid hall; clear hall
  by_cases hlt : i < s.size
  ·have hb : decide ((i : Int) < (s.size : Int)) = true := decide_eq_true (by omega)
   have hbn : decide (i < s.size) = true := decide_eq_true hlt
   have hjl : i < s.data.toList.length := by rw [HSZ.out]; omega
   obtain ⟨x0, hx⟩ : ∃ x0, (s[i]'hlt).toNat = x0 := ⟨_, rfl⟩
   have hcx : (s.data.toList[i]).toNat = x0 := by rw [← hx]; rfl
   have m0 : x0 < 256 := by rw [← hx]; exact UInt8.toNat_lt _
   have hj0 : (0 : Int) ≤ (i : Int) := by omega
   have hjk : (i : Int) < (s.size : Int) := by omega
   by_cases h1 : 48 ≤ x0
   ·have q1 : decide ((x0 : Int) < 48) = false := decide_eq_false (by omega)
    have q1n : decide (x0 < 48) = false := decide_eq_false (by omega)
    by_cases h2 : x0 ≤ 57
    ·have q2 : decide ((57 : Int) < (x0 : Int)) = false := decide_eq_false (by omega)
     have q2n : decide (57 < x0) = false := decide_eq_false (by omega)
     have hn := all_of_take HA.out hjl ((isDig_iff _).2 ⟨by rw [hcx]; exact h1, by rw [hcx]; exact h2⟩)
     have HN := hid hn
     clear hn hcx hjl h1 h2
     go_wp2
     go_roundg (gk - 1)
     case measure => omega
     case rel => exact ⟨i + 1, by omega, by go_num, HN.out, rfl⟩
    ·have q2 : decide ((57 : Int) < (x0 : Int)) = true := decide_eq_true (by omega)
     have q2n : decide (57 < x0) = true := decide_eq_true (by omega)
     have hn : R = false := by
      rw [← HR.out]
      exact not_all hjl (Bool.eq_false_iff.2 (fun e => h2 (by have := ((isDig_iff _).1 e).2; rw [hcx] at this; exact this)))
     subst hn
     clear hcx hjl h1 h2
     go_wp2
     go_ret
     exact ⟨rfl, rfl⟩
   ·have q1 : decide ((x0 : Int) < 48) = true := decide_eq_true (by omega)
    have q1n : decide (x0 < 48) = true := decide_eq_true (by omega)
    have hn : R = false := by
     rw [← HR.out]
     exact not_all hjl (Bool.eq_false_iff.2 (fun e => h1 (by have := ((isDig_iff _).1 e).1; rw [hcx] at this; exact this)))
    subst hn
    clear hcx hjl h1
    go_wp2
    go_ret
    exact ⟨rfl, rfl⟩
  ·have hb : decide ((i : Int) < (s.size : Int)) = false := decide_eq_false (by omega)
   have hbn : decide (i < s.size) = false := decide_eq_false hlt
   have hieq : i = s.size := by omega
   subst hieq
   have hall : s.data.toList.all isDig = true := by
    have := HA.out
    rwa [List.take_of_length_le (by rw [HSZ.out]; exact Nat.le_refl _)] at this
   have HRR : Hid (R = (decide (s.data.toList ≠ []) && (decide (s.data.toList.head? ≠ some 48) || decide (s.data.toList = [48])))) := by
    show _ = _
    rw [← HR.out]
    unfold digOk
    rw [hall, Bool.true_and]
   clear hall hlt hb hbn
   by_cases h0 : s.size = 0
   ·have hse : s = ⟨#[]⟩ := by
     apply ByteArray.ext
     exact Array.eq_empty_of_size_eq_zero h0
    subst hse
    have hrf : R = false := by rw [HRR.out]; rfl
    subst hrf
    clear HA HR HRR HSZ h0 hi hs
    go_wp2
    go_ret
    exact ⟨rfl, rfl⟩
   ·have hs1 : 0 < s.size := by omega
    obtain ⟨x0, hx⟩ : ∃ x0, (s[0]'hs1).toNat = x0 := ⟨_, rfl⟩
    have m0 : x0 < 256 := by rw [← hx]; exact UInt8.toNat_lt _
    have hem := bytes_some (fun e : s = ⟨#[]⟩ => h0 (by rw [e]; rfl))
    have HHD : Hid (s.data.toList.head? = some (s[0]'hs1)) := by
     show _ = _
     rw [List.head?_eq_getElem?, List.getElem?_eq_getElem (by rw [HSZ.out]; exact hs1)]; rfl
    by_cases h48 : x0 = 48
    ·subst h48
     by_cases hz : s = ⟨#[48]⟩
     ·subst hz
      have hrf : R = true := by rw [HRR.out]; rfl
      subst hrf
      clear HA HR HRR HSZ HHD h0 hi hs
      go_wp2
      go_ret
      exact ⟨rfl, rfl⟩
     ·have hnz := bytes_zero hz
      have hrf : R = false := by
       rw [HRR.out, HHD.out]
       have e1 : (s[0]'hs1) = 48 := UInt8.toNat_inj.1 hx
       have e2 : s.data.toList ≠ [48] := fun e => hz (ByteArray.ext (Array.toList_inj.1 e))
       rw [e1, decide_eq_false e2]; simp
      subst hrf
      clear HA HR HRR HSZ HHD h0 hi hz
      go_wp2
      go_ret
      exact ⟨rfl, rfl⟩
    ·have q1 : ((x0 : Int) == 48) = false := by rw [beq_eq_false_iff_ne]; omega
     have q1b : ((x0 : Int) != 48) = true := by rw [bne_iff_ne]; omega
     have q1n : (x0 == 48) = false := by rw [beq_eq_false_iff_ne]; exact h48
     have q1c : ¬ x0 = 48 := h48
     have hrf : R = true := by
      rw [HRR.out, HHD.out]
      have e1 : (s[0]'hs1) ≠ 48 := fun e => h48 (by rw [← hx, e]; rfl)
      have e2 : s.data.toList ≠ [] := fun e => h0 (by have := HSZ.out; rw [e] at this; simpa using this.symm)
      rw [decide_eq_true e2, decide_eq_true (show some (s[0]'hs1) ≠ some 48 from fun e => e1 (Option.some.inj e))]; rfl
     subst hrf
     clear HA HR HRR HSZ HHD h0 hi
     go_wp2
     go_ret
     exact ⟨rfl, rfl⟩
end Num
end Go.Proofs.YtjcdeeahjkfmoaaGreatDoor
