/- Contracts of the program's functions, joined from smaller texts. Conditions stand at each theorem. -/
import Derived.Test.YtjcdeeahjkfmoaaGreatDoorDeeA
import Derived.Test.YtjcdeeahjkfmoaaGreatDoorDecB
import Derived.Test.YtjcdeeahjkfmoaaGreatDoorNumG
import Derived.BigQuiet
import Derived.IntWalk
set_option linter.unusedVariables false
set_option linter.unusedSimpArgs false
set_option maxRecDepth 100000
set_option maxHeartbeats 4000000
namespace Go.Proofs.YtjcdeeahjkfmoaaGreatDoor
namespace Num
open Go.RowKit Go.Lib
theorem rscalar_num (n d : ByteArray) (A : Option Addr) (C : Nat) (w : World) (hn : n.size ≤ 1000000000) (hd : d.size ≤ 1000000000) (hE : EnvR w) :
  Calls Tryz.prog 132 #[.agg #[.int .i64 1, .string n, .string d, .string ⟨#[]⟩, .bool false, .int .i64 0, .int .i64 0, .int .i64 0, .slice A 0 C]] w fun e w' => (e = .returned (.agg #[.int .i64 1, .string n, .string d, .string ⟨#[]⟩, .bool false, .int .i64 0, .int .i64 0, .int .i64 0, .slice A 0 C]) ∨ e = .returned (.agg #[.int .i64 4, .string ⟨#[]⟩, .string ⟨#[]⟩, .string ⟨#[]⟩, .bool false, .int .i64 2, .int .i64 0, .int .i64 0, .slice none 0 0])) ∧ Below w.heap.size w w' := by
 have T1 := hid (fun W (g : EnvR W) => rval_any ⟨1, n, d, ⟨#[]⟩, false, 0, 0, 0, A, 0, C⟩ [] W ⟨hn, hd, show (0 : Nat) ≤ _ by omega⟩ (fun x hx => absurd hx List.not_mem_nil) g (fun h => absurd (show (1 : Int) = 5 from h) (by decide)))
 have e0 : Val.agg ⟨1, n, d, ⟨#[]⟩, false, 0, 0, 0, A, 0, C⟩ = .agg #[.int .i64 1, .string n, .string d, .string ⟨#[]⟩, .bool false, .int .i64 0, .int .i64 0, .int .i64 0, .slice A 0 C] := rfl
 rw [e0] at T1
 clear e0
 have T2 := hid (fun W => rfault_any 2 W)
 rw [faultVal_is] at T2
 obtain ⟨qX, qR, hb⟩ := two_new w (.cells #[.int .i64 1, .string n, .string d, .string ⟨#[]⟩, .bool false, .int .i64 0, .int .i64 0, .int .i64 0, .slice A 0 C] 32) (.cells #[.int .i64 0, .string ⟨#[]⟩, .string ⟨#[]⟩, .string ⟨#[]⟩, .bool false, .int .i64 0, .int .i64 0, .int .i64 0, .slice none 0 0] 32)
 have HX := hid qX; have HR := hid qR; have HL := hid hb
 have HE0 := hid (hE.below hb)
 clear qX qR hb hE hn hd
 obtain ⟨W0, hW0⟩ : ∃ W0, ((w.alloc (.cells #[.int .i64 1, .string n, .string d, .string ⟨#[]⟩, .bool false, .int .i64 0, .int .i64 0, .int .i64 0, .slice A 0 C] 32)).alloc (.cells #[.int .i64 0, .string ⟨#[]⟩, .string ⟨#[]⟩, .string ⟨#[]⟩, .bool false, .int .i64 0, .int .i64 0, .int .i64 0, .slice none 0 0] 32)) = W0 := ⟨_, rfl⟩
 rw [hW0] at HX HR HL HE0
 have HW := hid hW0
 clear hW0
 go_enter Tryz.func132, Tryz.ntmps132
 go_upto_region 1 with fail
 rw [HW.out]
 obtain ⟨⟨v0, v1, v2, v3, v4, v5, v6, v7, v8⟩, _⟩ := nine_at HX.out
 go_wp2_with fail
 refine (T1.out _ HE0.out).mono ?_
 rintro e W1 ⟨ec, rfl, hb, _⟩
 replace HX := hid (keep_block HX.out hb)
 replace HR := hid (keep_block HR.out hb)
 replace HL := hid (HL.out.trans (hb.mono HL.out.size))
 clear hb v0 v1 v2 v3 v4 v5 v6 v7 v8 HE0
 by_cases hec : ec = 0
 ·subst hec
  obtain ⟨⟨v0, v1, v2, v3, v4, v5, v6, v7, v8⟩, _⟩ := nine_at HX.out
  have hs9 := set9_at HR.out (.int .i64 1) (.string n) (.string d) (.string ⟨#[]⟩) (.bool false) (.int .i64 0) (.int .i64 0) (.int .i64 0) (.slice A 0 C)
  obtain ⟨⟨e0, e1, e2, e3, e4, e5, e6, e7, e8⟩, _⟩ := nine_at hs9
  have HE := hid (((((((((HL.out.setCell (p := ⟨w.heap.size + 1, 0, none⟩) (show w.heap.size ≤ w.heap.size + 1 by omega) (.int .i64 1)).setCell (p := ⟨w.heap.size + 1, 1, none⟩) (show w.heap.size ≤ w.heap.size + 1 by omega) (.string n)).setCell (p := ⟨w.heap.size + 1, 2, none⟩) (show w.heap.size ≤ w.heap.size + 1 by omega) (.string d)).setCell (p := ⟨w.heap.size + 1, 3, none⟩) (show w.heap.size ≤ w.heap.size + 1 by omega) (.string ⟨#[]⟩)).setCell (p := ⟨w.heap.size + 1, 4, none⟩) (show w.heap.size ≤ w.heap.size + 1 by omega) (.bool false)).setCell (p := ⟨w.heap.size + 1, 5, none⟩) (show w.heap.size ≤ w.heap.size + 1 by omega) (.int .i64 0)).setCell (p := ⟨w.heap.size + 1, 6, none⟩) (show w.heap.size ≤ w.heap.size + 1 by omega) (.int .i64 0)).setCell (p := ⟨w.heap.size + 1, 7, none⟩) (show w.heap.size ≤ w.heap.size + 1 by omega) (.int .i64 0)).setCell (p := ⟨w.heap.size + 1, 8, none⟩) (show w.heap.size ≤ w.heap.size + 1 by omega) (.slice A 0 C))
  clear hs9
  obtain ⟨⟨r0, r1, r2, r3, r4, r5, r6, r7, r8⟩, rf0, rf1, rf2, rf3, rf4, rf5, rf6, rf7, rf8⟩ := nine_at HR.out
  go_wp2
  refine bodyPost_ret (v := .agg #[.int .i64 1, .string n, .string d, .string ⟨#[]⟩, .bool false, .int .i64 0, .int .i64 0, .int .i64 0, .slice A 0 C]) (by simp [results, Tryz.results132, go_sem, e0, e1, e2, e3, e4, e5, e6, e7, e8]) rfl ⟨.inl rfl, HE.out⟩
 ·have hec2 : (ec == 0) = false := by rw [beq_eq_false_iff_ne]; exact hec
  have hec3 : (ec != 0) = true := by rw [bne_iff_ne]; exact hec
  clear hec
  go_wp2_with fail
  refine (T2.out _).mono ?_
  rintro e W2 ⟨rfl, hb⟩
  replace HR := hid (keep_block HR.out hb)
  replace HL := hid (HL.out.trans (hb.mono HL.out.size))
  clear hb
  have hs9 := set9_at HR.out (.int .i64 4) (.string ⟨#[]⟩) (.string ⟨#[]⟩) (.string ⟨#[]⟩) (.bool false) (.int .i64 2) (.int .i64 0) (.int .i64 0) (.slice none 0 0)
  obtain ⟨⟨e0, e1, e2, e3, e4, e5, e6, e7, e8⟩, _⟩ := nine_at hs9
  have HE := hid (((((((((HL.out.setCell (p := ⟨w.heap.size + 1, 0, none⟩) (show w.heap.size ≤ w.heap.size + 1 by omega) (.int .i64 4)).setCell (p := ⟨w.heap.size + 1, 1, none⟩) (show w.heap.size ≤ w.heap.size + 1 by omega) (.string ⟨#[]⟩)).setCell (p := ⟨w.heap.size + 1, 2, none⟩) (show w.heap.size ≤ w.heap.size + 1 by omega) (.string ⟨#[]⟩)).setCell (p := ⟨w.heap.size + 1, 3, none⟩) (show w.heap.size ≤ w.heap.size + 1 by omega) (.string ⟨#[]⟩)).setCell (p := ⟨w.heap.size + 1, 4, none⟩) (show w.heap.size ≤ w.heap.size + 1 by omega) (.bool false)).setCell (p := ⟨w.heap.size + 1, 5, none⟩) (show w.heap.size ≤ w.heap.size + 1 by omega) (.int .i64 2)).setCell (p := ⟨w.heap.size + 1, 6, none⟩) (show w.heap.size ≤ w.heap.size + 1 by omega) (.int .i64 0)).setCell (p := ⟨w.heap.size + 1, 7, none⟩) (show w.heap.size ≤ w.heap.size + 1 by omega) (.int .i64 0)).setCell (p := ⟨w.heap.size + 1, 8, none⟩) (show w.heap.size ≤ w.heap.size + 1 by omega) (.slice none 0 0))
  clear hs9
  obtain ⟨⟨r0, r1, r2, r3, r4, r5, r6, r7, r8⟩, rf0, rf1, rf2, rf3, rf4, rf5, rf6, rf7, rf8⟩ := nine_at HR.out
  go_wp2
  refine bodyPost_ret (v := .agg #[.int .i64 4, .string ⟨#[]⟩, .string ⟨#[]⟩, .string ⟨#[]⟩, .bool false, .int .i64 2, .int .i64 0, .int .i64 0, .slice none 0 0]) (by simp [results, Tryz.results132, go_sem, e0, e1, e2, e3, e4, e5, e6, e7, e8]) rfl ⟨.inr rfl, HE.out⟩
theorem rtoNumber_num (q : Rat) (A : Option Addr) (C : Nat) (w : World) (hf : fits q = true) (hn : (numS q).size ≤ 1000000000) (hd : (denS q).size ≤ 1000000000) (hE : EnvR w) :
  Calls Tryz.prog 72 #[.agg #[.int .i64 1, .string (numS q), .string (denS q), .string ⟨#[]⟩, .bool false, .int .i64 0, .int .i64 0, .int .i64 0, .slice A 0 C]] w fun e w' => (∃ m A1 L1 C1 A2 L2 C2 c, e = .returned (.tuple #[.agg #[.bool m, .slice A1 L1 C1, .slice A2 L2 C2], .int .i64 c])) ∧ Below w.heap.size w w' := by
 have T1 := hid (fun W g => rscalar_num (numS q) (denS q) A C W hn hd g)
 have T2 := hid (fun W => rratOf_any q W hf)
 rw [fracV_is] at T2
 obtain ⟨n, hn'⟩ : ∃ z, numS q = z := ⟨_, rfl⟩
 obtain ⟨d, hd'⟩ : ∃ z, denS q = z := ⟨_, rfl⟩
 rw [hn', hd'] at T1 T2 ⊢
 obtain ⟨qX, qR, hb⟩ := two_new w (.cells #[.int .i64 1, .string n, .string d, .string ⟨#[]⟩, .bool false, .int .i64 0, .int .i64 0, .int .i64 0, .slice A 0 C] 32) (.cells #[.bool false, .slice none 0 0, .slice none 0 0] 59)
 have HX := hid qX; have HR := hid qR; have HL := hid hb
 have HE0 := hid (hE.below hb)
 clear qX qR hb hE hn hd hn' hd' hf
 obtain ⟨W0, hW0⟩ : ∃ W0, ((w.alloc (.cells #[.int .i64 1, .string n, .string d, .string ⟨#[]⟩, .bool false, .int .i64 0, .int .i64 0, .int .i64 0, .slice A 0 C] 32)).alloc (.cells #[.bool false, .slice none 0 0, .slice none 0 0] 59)) = W0 := ⟨_, rfl⟩
 rw [hW0] at HX HR HL HE0
 have HW := hid hW0
 clear hW0
 go_enter Tryz.func72, Tryz.ntmps72
 go_upto_region 1 with fail
 rw [HW.out]
 obtain ⟨⟨v0, v1, v2, v3, v4, v5, v6, v7, v8⟩, _⟩ := nine_at HX.out
 go_wp2_with fail
 refine (T1.out _ HE0.out).mono ?_
 rintro e W1 ⟨hor, hb⟩
 replace HX := hid (keep_block HX.out hb)
 replace HR := hid (keep_block HR.out hb)
 replace HL := hid (HL.out.trans (hb.mono HL.out.size))
 clear hb v0 v1 v2 v3 v4 v5 v6 v7 v8 HE0
 rcases hor with rfl | rfl
 ·obtain ⟨⟨v0, v1, v2, v3, v4, v5, v6, v7, v8⟩, vf0, vf1, vf2, vf3, vf4, vf5, vf6, vf7, vf8⟩ := nine_at HX.out
  have HX2 := hid (set9_at HX.out (.int .i64 1) (.string n) (.string d) (.string ⟨#[]⟩) (.bool false) (.int .i64 0) (.int .i64 0) (.int .i64 0) (.slice A 0 C))
  have HR2 := hid ((set9_other W1 w.heap.size (.int .i64 1) (.string n) (.string d) (.string ⟨#[]⟩) (.bool false) (.int .i64 0) (.int .i64 0) (.int .i64 0) (.slice A 0 C) (k := w.heap.size + 1) (by omega)).trans HR.out)
  have HL2 := hid (((((((((HL.out.setCell (p := ⟨w.heap.size, 0, none⟩) (show w.heap.size ≤ w.heap.size by omega) (.int .i64 1)).setCell (p := ⟨w.heap.size, 1, none⟩) (show w.heap.size ≤ w.heap.size by omega) (.string n)).setCell (p := ⟨w.heap.size, 2, none⟩) (show w.heap.size ≤ w.heap.size by omega) (.string d)).setCell (p := ⟨w.heap.size, 3, none⟩) (show w.heap.size ≤ w.heap.size by omega) (.string ⟨#[]⟩)).setCell (p := ⟨w.heap.size, 4, none⟩) (show w.heap.size ≤ w.heap.size by omega) (.bool false)).setCell (p := ⟨w.heap.size, 5, none⟩) (show w.heap.size ≤ w.heap.size by omega) (.int .i64 0)).setCell (p := ⟨w.heap.size, 6, none⟩) (show w.heap.size ≤ w.heap.size by omega) (.int .i64 0)).setCell (p := ⟨w.heap.size, 7, none⟩) (show w.heap.size ≤ w.heap.size by omega) (.int .i64 0)).setCell (p := ⟨w.heap.size, 8, none⟩) (show w.heap.size ≤ w.heap.size by omega) (.slice A 0 C))
  go_upto_region 2 with fail
  obtain ⟨W2, hW2⟩ : ∃ Z, (((((((((W1.setCell ⟨w.heap.size, 0, none⟩ (.int .i64 1)).setCell ⟨w.heap.size, 1, none⟩ (.string n)).setCell ⟨w.heap.size, 2, none⟩ (.string d)).setCell ⟨w.heap.size, 3, none⟩ (.string ⟨#[]⟩)).setCell ⟨w.heap.size, 4, none⟩ (.bool false)).setCell ⟨w.heap.size, 5, none⟩ (.int .i64 0)).setCell ⟨w.heap.size, 6, none⟩ (.int .i64 0)).setCell ⟨w.heap.size, 7, none⟩ (.int .i64 0)).setCell ⟨w.heap.size, 8, none⟩ (.slice A 0 C)) = Z := ⟨_, rfl⟩
  rw [hW2] at HX2 HR2 HL2 ⊢
  clear v0 v1 v2 v3 v4 v5 v6 v7 v8 vf0 vf1 vf2 vf3 vf4 vf5 vf6 vf7 vf8 HX HR HL hW2
  obtain ⟨⟨v0, v1, v2, v3, v4, v5, v6, v7, v8⟩, _⟩ := nine_at HX2.out
  go_wp2_with fail
  refine (T2.out _).mono ?_
  rintro e W3 ⟨rv, rfl, hrv, hb⟩
  replace HR2 := hid (keep_block HR2.out hb)
  replace HL2 := hid (HL2.out.trans (hb.mono HL2.out.size))
  obtain ⟨A1, L1, C1, A2, L2, C2, rfl, _, _⟩ := hrv
  clear hb v0 v1 v2 v3 v4 v5 v6 v7 v8
  obtain ⟨rm, hrm⟩ : ∃ z, neg q = z := ⟨_, rfl⟩
  rw [hrm]
  have hs3 := set3_at HR2.out (.bool rm) (.slice A1 L1 C1) (.slice A2 L2 C2)
  obtain ⟨⟨e0, e1, e2⟩, _⟩ := three_at hs3
  have HE := hid (((HL2.out.setCell (p := ⟨w.heap.size + 1, 0, none⟩) (show w.heap.size ≤ w.heap.size + 1 by omega) (.bool rm)).setCell (p := ⟨w.heap.size + 1, 1, none⟩) (show w.heap.size ≤ w.heap.size + 1 by omega) (.slice A1 L1 C1)).setCell (p := ⟨w.heap.size + 1, 2, none⟩) (show w.heap.size ≤ w.heap.size + 1 by omega) (.slice A2 L2 C2))
  clear hs3
  obtain ⟨⟨r0, r1, r2⟩, rf0, rf1, rf2⟩ := three_at HR2.out
  go_wp2
  refine bodyPost_ret (v := .tuple #[.agg #[.bool rm, .slice A1 L1 C1, .slice A2 L2 C2], .int .i64 0]) (by simp [results, Tryz.results72, go_sem, e0, e1, e2]) rfl ⟨⟨rm, A1, L1, C1, A2, L2, C2, 0, rfl⟩, HE.out⟩
 ·obtain ⟨⟨v0, v1, v2, v3, v4, v5, v6, v7, v8⟩, vf0, vf1, vf2, vf3, vf4, vf5, vf6, vf7, vf8⟩ := nine_at HX.out
  have HX2 := hid (set9_at HX.out (.int .i64 4) (.string ⟨#[]⟩) (.string ⟨#[]⟩) (.string ⟨#[]⟩) (.bool false) (.int .i64 2) (.int .i64 0) (.int .i64 0) (.slice none 0 0))
  have HR2 := hid ((set9_other W1 w.heap.size (.int .i64 4) (.string ⟨#[]⟩) (.string ⟨#[]⟩) (.string ⟨#[]⟩) (.bool false) (.int .i64 2) (.int .i64 0) (.int .i64 0) (.slice none 0 0) (k := w.heap.size + 1) (by omega)).trans HR.out)
  have HL2 := hid (((((((((HL.out.setCell (p := ⟨w.heap.size, 0, none⟩) (show w.heap.size ≤ w.heap.size by omega) (.int .i64 4)).setCell (p := ⟨w.heap.size, 1, none⟩) (show w.heap.size ≤ w.heap.size by omega) (.string ⟨#[]⟩)).setCell (p := ⟨w.heap.size, 2, none⟩) (show w.heap.size ≤ w.heap.size by omega) (.string ⟨#[]⟩)).setCell (p := ⟨w.heap.size, 3, none⟩) (show w.heap.size ≤ w.heap.size by omega) (.string ⟨#[]⟩)).setCell (p := ⟨w.heap.size, 4, none⟩) (show w.heap.size ≤ w.heap.size by omega) (.bool false)).setCell (p := ⟨w.heap.size, 5, none⟩) (show w.heap.size ≤ w.heap.size by omega) (.int .i64 2)).setCell (p := ⟨w.heap.size, 6, none⟩) (show w.heap.size ≤ w.heap.size by omega) (.int .i64 0)).setCell (p := ⟨w.heap.size, 7, none⟩) (show w.heap.size ≤ w.heap.size by omega) (.int .i64 0)).setCell (p := ⟨w.heap.size, 8, none⟩) (show w.heap.size ≤ w.heap.size by omega) (.slice none 0 0))
  go_upto_region 2 with fail
  obtain ⟨W2, hW2⟩ : ∃ Z, (((((((((W1.setCell ⟨w.heap.size, 0, none⟩ (.int .i64 4)).setCell ⟨w.heap.size, 1, none⟩ (.string ⟨#[]⟩)).setCell ⟨w.heap.size, 2, none⟩ (.string ⟨#[]⟩)).setCell ⟨w.heap.size, 3, none⟩ (.string ⟨#[]⟩)).setCell ⟨w.heap.size, 4, none⟩ (.bool false)).setCell ⟨w.heap.size, 5, none⟩ (.int .i64 2)).setCell ⟨w.heap.size, 6, none⟩ (.int .i64 0)).setCell ⟨w.heap.size, 7, none⟩ (.int .i64 0)).setCell ⟨w.heap.size, 8, none⟩ (.slice none 0 0)) = Z := ⟨_, rfl⟩
  rw [hW2] at HX2 HR2 HL2 ⊢
  clear v0 v1 v2 v3 v4 v5 v6 v7 v8 vf0 vf1 vf2 vf3 vf4 vf5 vf6 vf7 vf8 HX HR HL hW2
  obtain ⟨⟨v0, v1, v2, v3, v4, v5, v6, v7, v8⟩, _⟩ := nine_at HX2.out
  have hs3 := set3_at HR2.out (.bool false) (.slice none 0 0) (.slice none 0 0)
  obtain ⟨⟨e0, e1, e2⟩, _⟩ := three_at hs3
  have HE := hid (((HL2.out.setCell (p := ⟨w.heap.size + 1, 0, none⟩) (show w.heap.size ≤ w.heap.size + 1 by omega) (.bool false)).setCell (p := ⟨w.heap.size + 1, 1, none⟩) (show w.heap.size ≤ w.heap.size + 1 by omega) (.slice none 0 0)).setCell (p := ⟨w.heap.size + 1, 2, none⟩) (show w.heap.size ≤ w.heap.size + 1 by omega) (.slice none 0 0))
  obtain ⟨⟨r0, r1, r2⟩, rf0, rf1, rf2⟩ := three_at HR2.out
  go_wp2_with fail
  go_region
  clear hs3
  go_wp2
  refine bodyPost_ret (v := .tuple #[.agg #[.bool false, .slice none 0 0, .slice none 0 0], .int .i64 2]) (by simp [results, Tryz.results72, go_sem, e0, e1, e2]) rfl ⟨⟨false, none, 0, 0, none, 0, 0, 2, rfl⟩, by first | exact HE.out | exact below_drewN HE.out _ | exact HE.out.drew⟩
end Num
namespace Num
open Go.RowKit Go.Lib
def lenOf (l : List Val) : Nat := (l.map fun x => x.n.size + x.d.size).sum
theorem lenOf_snoc (l : List Val) (x : Val) : lenOf (l ++ [x]) = lenOf l + (x.n.size + x.d.size) := by unfold lenOf; simp
theorem lenOf_append (l m : List Val) : lenOf (l ++ m) = lenOf l + lenOf m := by unfold lenOf; simp
theorem num_fields {x : Val} (h : SingleOk x) (hk : x.k = 1) : ∃ q A C, fits q = true ∧ x = ⟨1, numS q, denS q, ⟨#[]⟩, false, 0, 0, 0, A, 0, C⟩ := by
 obtain ⟨q, hf, h1, h2⟩ := h.num hk
 have ht := h.form.text.resolve_left (by omega)
 have ho := h.form.on.resolve_left (by omega)
 have hc := h.form.code.resolve_left (by omega)
 have hi := h.form.items.resolve_left (by omega)
 obtain ⟨k, n, d, t, on, c, r, s, A, L, C⟩ := x
 simp only at hk h1 h2 ht ho hc hi
 obtain ⟨hi1, hi2, hi3⟩ := hi
 subst hk; subst h1; subst h2; subst ht; subst ho; subst hc; subst hi1; subst hi2; subst hi3
 exact ⟨q, A, C, hf, rfl⟩
def NumArg (a : Arg) : Prop := a.items.length ≤ 30 ∧ ∀ x ∈ a.items, SingleOk x ∧ x.k = 1 ∧ smallV x
theorem heavy_nums (args : List Arg) (A : Option Addr) (n C : Nat) (w : World) (hn : args.length = n) (hn9 : n ≤ 1000) (hA : 0 < n → ∃ g o, A = some ⟨g, o, none⟩ ∧ ValsAt w g o (args.map Arg.v)) (hok : ∀ a ∈ args, ArgOk w a) (h9 : ∀ a ∈ args, NumArg a) (hE : EnvR w) :
  Calls Tryz.prog 24 #[.slice A n C] w fun e w' => e = .returned (.bool (decide (40 < lenOf (args.flatMap Arg.items)))) ∧ Below w.heap.size w w' := by
 have HA := hid hA; have HOK := hid hok; have HNN := hid hn; have H9 := hid h9; have HE := hid hE
 obtain ⟨T, hT⟩ : ∃ T, lenOf (args.flatMap Arg.items) = T := ⟨_, rfl⟩
 rw [hT]
 have HTT := hid hT
 clear hA hok hn h9 hE hT
 go_enter Tryz.func24, Tryz.ntmps24
 go_wp2_with fail
 go_loopg [3, 15] n (fun gh v3 v15 wx => ∃ i S : Nat, v15 = .int .i64 (i : Int) ∧ v3 = .int .i64 (S : Int) ∧ i ≤ n ∧ gh = n - i ∧ S = lenOf ((args.take i).flatMap Arg.items) ∧ S ≤ i * 2000 ∧ Below w.heap.size w wx)
 case atStart => exact ⟨0, 0, rfl, rfl, Nat.zero_le _, rfl, rfl, Nat.zero_le _, Below.refl _ _⟩
 case round =>
  obtain ⟨i, S, rfl, rfl, hi, rfl, hS, hS9, hbx⟩ := hrel
  have HBI := hid hbx
  have HS := hid hS
  clear hbx hS
  by_cases hin : i < n
  ·have hd1 : decide ((i : Int) < (n : Int)) = true := decide_eq_true (by omega)
   have hd2 : decide (i < n) = true := decide_eq_true hin
   have hia : i < args.length := by rw [HNN.out]; exact hin
   obtain ⟨g, o, hge, hvs⟩ := HA.out (by omega)
   subst hge
   have hcells := (hvs.below HBI.out).at i (by rw [List.length_map]; exact hia)
   obtain ⟨a, ha⟩ : ∃ a, args[i] = a := ⟨_, rfl⟩
   have hge : (args.map Arg.v)[i]'(by rw [List.length_map]; exact hia) = a.v := by rw [List.getElem_map, ha]
   rw [hge] at hcells
   have HARG := hid (show ArgOk w a from by rw [← ha]; exact HOK.out _ (List.getElem_mem hia))
   have hna : NumArg a := by rw [← ha]; exact H9.out _ (List.getElem_mem hia)
   have HTK := hid (show (args.take (i + 1)).flatMap Arg.items = (args.take i).flatMap Arg.items ++ a.items by rw [List.take_succ_eq_append_getElem hia, List.flatMap_append, ha]; simp)
   clear ha hge hvs
   have T1 := hid (fun W (hb : Below w.heap.size w W) => ritems_any a.v a.vs W (fun h5 => ((HARG.out.below hb).row h5).1) (fun h5 => (HARG.out.row h5).2))
   unfold ItemsRet at T1
   obtain ⟨its, hits⟩ : ∃ z, itemsOf a.v a.vs = z := ⟨_, rfl⟩
   have HNA := hid (show ∀ x ∈ its, SingleOk x ∧ x.k = 1 ∧ smallV x from by rw [← hits]; exact hna.2)
   have hil9 : its.length ≤ 30 := by rw [← hits]; exact hna.1
   rw [hits] at T1
   have HITS := hid (show a.items = its from hits)
   rw [HITS.out] at HTK
   obtain ⟨il, hil⟩ : ∃ z, its.length = z := ⟨_, rfl⟩
   rw [hil] at T1 hil9
   have HIL := hid hil
   clear hits hil hna
   obtain ⟨⟨vk, vn, vd, vt, vo, vc, vr, vz, vA, vL, vC⟩, avs⟩ := a
   have hcells : CellsAt wr g (o + i * 9) (.int .i64 vk) (.string vn) (.string vd) (.string vt) (.bool vo) (.int .i64 vc) (.int .i64 vr) (.int .i64 vz) (.slice vA vL vC) := hcells
   obtain ⟨c0, c1, c2, c3, c4, c5, c6, c7, c8⟩ := hcells
   have e0 : Val.agg (Arg.v ⟨⟨vk, vn, vd, vt, vo, vc, vr, vz, vA, vL, vC⟩, avs⟩) = .agg #[.int .i64 vk, .string vn, .string vd, .string vt, .bool vo, .int .i64 vc, .int .i64 vr, .int .i64 vz, .slice vA vL vC] := rfl
   rw [e0] at T1
   clear e0
   have hi0 : (0 : Int) ≤ (i : Int) := by omega
   have hi1 : (i : Int) < (n : Int) := by omega
   have HB0 := hid (HBI.out.trans (((Below.refl wr.heap.size wr).alloc (Nat.le_refl _) (.cells #[.int .i64 vk, .string vn, .string vd, .string vt, .bool vo, .int .i64 vc, .int .i64 vr, .int .i64 vz, .slice vA vL vC] 32)).mono HBI.out.size))
   go_wp2_with fail
   refine (T1.out _ HB0.out).mono ?_
   rintro e w1 ⟨iA, iC, rfl, hb, hit⟩
   have HL := hid (HB0.out.trans (hb.mono HB0.out.size))
   have HIT := hid hit
   clear hb hit c0 c1 c2 c3 c4 c5 c6 c7 c8
   go_wp2_with fail
   go_loopg [3, 22] il (fun gh v3 v22 wx => ∃ j Z : Nat, v22 = .int .i64 (j : Int) ∧ v3 = .int .i64 (Z : Int) ∧ j ≤ il ∧ gh = il - j ∧ Z = S + lenOf (its.take j) ∧ Z ≤ S + j * 60 ∧ Below w1.heap.size w1 wx)
   case atStart => exact ⟨0, S, rfl, rfl, Nat.zero_le _, rfl, by rw [List.take_zero]; rfl, by omega, Below.refl _ _⟩
   case round =>
    obtain ⟨j, Z, rfl, rfl, hj, rfl, hZ, hZ9, hbx⟩ := hrel
    have HBX := hid hbx
    have HZ := hid hZ
    clear hbx hZ
    by_cases hjl : j < il
    ·have hd1 : decide ((j : Int) < (il : Int)) = true := decide_eq_true (by omega)
     have hd2 : decide (j < il) = true := decide_eq_true hjl
     have hji : j < its.length := by rw [HIL.out]; exact hjl
     obtain ⟨g, o, hge, hvs⟩ := HIT.out (by omega)
     subst hge
     have hcells := (hvs.below HBX.out).at j hji
     obtain ⟨hx1, hx2, hx3⟩ := HNA.out _ (List.getElem_mem hji)
     obtain ⟨q, zA, zC, hfq, hxq⟩ := num_fields hx1 hx2
     have HTJ := hid (show lenOf (its.take (j + 1)) = lenOf (its.take j) + ((numS q).size + (denS q).size) by rw [List.take_succ_eq_append_getElem hji, lenOf_snoc, hxq])
     rw [hxq] at hcells hx3
     obtain ⟨hs1, hs2, _⟩ := hx3
     have hs1 : (numS q).size ≤ 30 := hs1
     have hs2 : (denS q).size ≤ 30 := hs2
     have T2 := hid (fun W g => rtoNumber_num q zA zC W hfq (by omega) (by omega) g)
     obtain ⟨zn, hzn⟩ : ∃ z, numS q = z := ⟨_, rfl⟩
     obtain ⟨zd, hzd⟩ : ∃ z, denS q = z := ⟨_, rfl⟩
     have hcells : CellsAt wr g (o + j * 9) (.int .i64 1) (.string (numS q)) (.string (denS q)) (.string ⟨#[]⟩) (.bool false) (.int .i64 0) (.int .i64 0) (.int .i64 0) (.slice zA 0 zC) := hcells
     rw [hzn, hzd] at hcells T2 HTJ
     rw [hzn] at hs1
     rw [hzd] at hs2
     obtain ⟨c0, c1, c2, c3, c4, c5, c6, c7, c8⟩ := hcells
     clear hzn hzd hxq hx1 hx2 hvs hfq
     have hj0 : (0 : Int) ≤ (j : Int) := by omega
     have hj1 : (j : Int) < (il : Int) := by omega
     have hba : Below wr.heap.size wr (wr.alloc (.cells #[.int .i64 1, .string zn, .string zd, .string ⟨#[]⟩, .bool false, .int .i64 0, .int .i64 0, .int .i64 0, .slice zA 0 zC] 32)) := (Below.refl wr.heap.size wr).alloc (Nat.le_refl _) _
     have HBN := hid (heap_alloc_new wr (.cells #[.int .i64 1, .string zn, .string zd, .string ⟨#[]⟩, .bool false, .int .i64 0, .int .i64 0, .int .i64 0, .slice zA 0 zC] 32))
     have HB2 := hid (HBX.out.trans (hba.mono HBX.out.size))
     obtain ⟨bx, hbx⟩ : ∃ z, wr.heap.size = z := ⟨_, rfl⟩
     rw [hbx] at HBN
     obtain ⟨W2, hW2⟩ : ∃ z, wr.alloc (.cells #[.int .i64 1, .string zn, .string zd, .string ⟨#[]⟩, .bool false, .int .i64 0, .int .i64 0, .int .i64 0, .slice zA 0 zC] 32) = z := ⟨_, rfl⟩
     rw [hW2] at HBN HB2
     have HW2 := hid hW2; have HBX2 := hid hbx
     clear hba hW2 hbx
     go_upto_region 8 with fail
     rw [HW2.out, HBX2.out]
     obtain ⟨⟨v0, v1, v2, v3, v4, v5, v6, v7, v8⟩, _⟩ := nine_at HBN.out
     clear c0 c1 c2 c3 c4 c5 c6 c7 c8
     go_wp2_with fail
     refine (T2.out _ (HE.out.below (HL.out.trans (HB2.out.mono HL.out.size)))).mono ?_
     rintro e w3 ⟨⟨m, A1, L1, C1, A2, L2, C2, code, rfl⟩, hb⟩
     have HB3 := hid (HB2.out.trans (hb.mono HB2.out.size))
     have HBN3 := hid (keep_block (keep_block HBN.out hb) ((Below.refl w3.heap.size w3).alloc (Nat.le_refl _) (.cells #[.bool m, .slice A1 L1 C1, .slice A2 L2 C2] 59)))
     have HB4 := hid (HB3.out.trans (((Below.refl w3.heap.size w3).alloc (Nat.le_refl _) (.cells #[.bool m, .slice A1 L1 C1, .slice A2 L2 C2] 59)).mono HB3.out.size))
     clear hb v0 v1 v2 v3 v4 v5 v6 v7 v8
     obtain ⟨⟨v0, v1, v2, v3, v4, v5, v6, v7, v8⟩, _⟩ := nine_at HBN3.out
     have HZ2 := hid (show Z + (zn.size + zd.size) = S + lenOf (its.take (j + 1)) by rw [HTJ.out, HZ.out]; omega)
     have hz9 : Z + (zn.size + zd.size) ≤ S + (j + 1) * 60 := by omega
     have hzz : Z ≤ 10000000 := by omega
     go_wp2
     go_roundg (il - (j + 1))
     case measure => omega
     case rel => exact ⟨j + 1, Z + (zn.size + zd.size), by go_num, by go_num, by omega, rfl, HZ2.out, hz9, HB4.out⟩
    ·have hd1 : decide ((j : Int) < (il : Int)) = false := decide_eq_false (by omega)
     have hd2 : decide (j < il) = false := decide_eq_false hjl
     have HSA := hid (show Z = lenOf ((args.take (i + 1)).flatMap Arg.items) by rw [HTK.out, lenOf_append, ← HS.out, HZ.out, List.take_of_length_le (by have := HIL.out; omega)])
     have hz9 : Z ≤ (i + 1) * 2000 := by omega
     have HB9 := hid (HL.out.trans (HBX.out.mono HL.out.size))
     clear hjl
     go_wp2
     go_roundg (n - (i + 1))
     case measure => omega
     case rel => exact ⟨i + 1, Z, by go_num, rfl, by omega, rfl, HSA.out, hz9, HB9.out⟩
  ·have hd1 : decide ((i : Int) < (n : Int)) = false := decide_eq_false (by omega)
   have hd2 : decide (i < n) = false := decide_eq_false hin
   have hST : T = S := by rw [← HTT.out, HS.out, List.take_of_length_le (by have := HNN.out; omega)]
   subst hST
   by_cases h40 : 40 < T
   ·have q1 : decide ((40 : Int) < (T : Int)) = true := decide_eq_true (by omega)
    have q2 : decide (40 < T) = true := decide_eq_true h40
    clear hin h40
    go_wp2
    go_ret
    exact ⟨by show Ending.returned (.bool true) = _; rw [q2], HBI.out⟩
   ·have q1 : decide ((40 : Int) < (T : Int)) = false := decide_eq_false (by omega)
    have q2 : decide (40 < T) = false := decide_eq_false h40
    clear hin h40
    go_wp2
    go_ret
    exact ⟨by show Ending.returned (.bool false) = _; rw [q2], HBI.out⟩
end Num
namespace Num
open Go.RowKit Go.Lib
structure RowI (w : World) (g : Nat) (qs : List Rat) (W : World) : Prop where
 row : ValsAt W g 0 (numVals qs)
 env : Env W
 low : Below w.heap.size w W
end Num
namespace Num
open Go.RowKit Go.Lib
theorem Env.low {W W' : World} {B : Nat} (h : Env W) (ho : ∀ k, k < B → W'.heap[k]? = W.heap[k]?) (hP : Past B) (hs : W.heap.size ≤ W'.heap.size) : Env W' := by
 refine ⟨?_, ?_, Nat.lt_of_lt_of_le h.room.1 hs, Nat.lt_of_lt_of_le h.room.2 hs⟩
 ·have := h.tab
  unfold Tab Lib.TabIs World.var? at this ⊢
  have hgl : Tryz.prog.globalNamed "internal/strconv.uint64pow10" = some 3 := by kernel_rfl
  rw [hgl] at this ⊢
  simp only [Option.bind_some] at this ⊢
  rw [ho _ hP.2]; exact this
 ·intro j hj
  have h1 := h.faults j hj
  have hl : j < faultTexts.size := hj
  rw [Array.getElem?_eq_getElem hl] at h1 ⊢
  simp only [World.cell?] at h1 ⊢
  rw [ho _ hP.1]; exact h1
theorem own_ge {B : Nat} {W : World} {v : Value} {qs : List Rat} (h : OwnF B v qs W) : ∀ r, v.ownBlock = some r → B ≤ r := by
 intro r hr
 rcases h.2 with ⟨rfl, _⟩ | ⟨g, cap, cur, rfl, hb, _⟩
 ·simp [Value.ownBlock] at hr
 ·simp [Value.ownBlock] at hr; omega
structure InI (w : World) (g : Nat) (qs : List Rat) (v : Value) (done : List Rat) (W : World) : Prop where
 row : ValsAt W g 0 (numVals qs)
 env : Env W
 low : Below w.heap.size w W
 own : OwnF w.heap.size v done W
end Num
end Go.Proofs.YtjcdeeahjkfmoaaGreatDoor
