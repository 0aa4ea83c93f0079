/- Numbers as texts of digits, fractions, values and the functions of fmath: contracts of the program's functions, joined from smaller texts. Conditions stand at each theorem. -/
import Derived.Test.YtkbhlkinlcmgoaaGreatDoorPlbB
import Derived.Test.YtkbhlkinlcmgoaaGreatDoorPltA
import Derived.Test.YtkbhlkinlcmgoaaGreatDoorPlzA
import Derived.Test.YtkbhlkinlcmgoaaGreatDoorPlwA
import Derived.Test.YtkbhlkinlcmgoaaGreatDoorPlcA
import Derived.Test.YtkbhlkinlcmgoaaGreatDoorPlyA

set_option linter.unusedVariables false
set_option linter.unusedSimpArgs false

/- value.Lift at the kinds 's' where the result is an array and no argument is lifted. Conditions: the tables lie as they are laid; each number fits; at most 1000 numbers. -/
namespace Go.Proofs.YtkbhlkinlcmgoaaGreatDoor.Num
open Go.RowKit Go.Lib Num
set_option maxHeartbeats 8000000 in
set_option maxRecDepth 100000 in
theorem lift_s_tab (vs : List Val) (ab ao C pb : Nat) (rr ss L : Nat) (its : List Rat) (hr1 : 1 ≤ rr) (hs1 : 1 ≤ ss) (hL9 : L ≤ 1000) (hL : rr * ss = L) (hil : its.length = L) (hfit : ∀ q ∈ its, fits q = true) (w : World) (h0 : 0 < vs.length) (h9 : vs.length ≤ 300) (hno : ∀ v ∈ vs, (v.k == 5) = false) (hv : ValsAt w ab ao vs) (hE : Env w)
    (hC : ∀ v ∈ vs, ∀ W, Below w.heap.size w W → Calls Tryz.prog 40 #[v.agg] W fun e w' => e = .returned (.int .i64 0) ∧ Below W.heap.size W w')
    (hF : ∀ W g cap, Below w.heap.size w W → ValsAt W g 0 vs → Calls Tryz.prog 65 #[.slice (some ⟨g, 0, none⟩) vs.length cap, .pointer (some ⟨pb, 0, none⟩)] W fun e w' => ∃ lg cap, e = .returned (.agg #[.int .i64 5, .string { data := #[] }, .string { data := #[] }, .string { data := #[] }, .bool false, .int .i64 0, .int .i64 (rr : Int), .int .i64 (ss : Int), .slice (some ⟨lg, 0, none⟩) L cap]) ∧ ValsAt w' lg 0 (numVals its) ∧ W.heap.size ≤ lg ∧ Below W.heap.size W w') :
    Calls Tryz.prog 64 #[.string { data := #[115] }, .slice (some ⟨ab, ao, none⟩) vs.length C, .func (.func 65) #[] #[.pointer (some ⟨pb, 0, none⟩)]] w fun e w' => ∃ lg cap, e = .returned (.tuple #[.agg #[.int .i64 5, .string { data := #[] }, .string { data := #[] }, .string { data := #[] }, .bool false, .int .i64 0, .int .i64 (rr : Int), .int .i64 (ss : Int), .slice (some ⟨lg, 0, none⟩) L cap], .int .i64 0]) ∧ ValsAt w' lg 0 (numVals its) ∧ w.heap.size ≤ lg ∧ L ≤ cap ∧ Below w.heap.size w w' := by
  have hnn : (rr : Int) * (ss : Int) = (its.length : Int) := by rw [hil, ← hL, Int.natCast_mul]
  have h0L : 0 < L := by rw [← hL]; exact Nat.mul_pos hr1 hs1
  have hrL : rr ≤ L := by rw [← hL]; exact Nat.le_mul_of_pos_right rr hs1
  have hsL : ss ≤ L := by rw [← hL]; exact Nat.le_mul_of_pos_left ss hr1
  have hb : Below w.heap.size w (w.alloc (.cells #[.int .i64 0, .string { data := #[] }, .string { data := #[] }, .string { data := #[] }, .bool false, .int .i64 0, .int .i64 0, .int .i64 0, .slice none 0 0] 30)) := (Below.refl _ _).alloc (Nat.le_refl _) _
  have HR := Lib.hid (heap_alloc_new w (.cells #[.int .i64 0, .string { data := #[] }, .string { data := #[] }, .string { data := #[] }, .bool false, .int .i64 0, .int .i64 0, .int .i64 0, .slice none 0 0] 30))
  have HV := Lib.hid (hv.below hb)
  have HE := Lib.hid (hE.below hb)
  have HL := Lib.hid hb
  have HC := Lib.hid hC
  have HO := Lib.hid (fun lg cap W (hva : ValsAt W lg 0 (numVals its)) (ge : Env W) => valid_tab 5 { data := #[] } { data := #[] } { data := #[] } false 0 (rr : Int) (ss : Int) (some ⟨lg, 0, none⟩) L cap W (fun W' hb' ge' => by
    have := check_arr its (rr : Int) (ss : Int) lg cap W' (by omega) (by omega) (by omega) (by omega) hnn hfit (by omega) (hva.below hb') ge'
    rw [hil] at this
    exact this) ge)
  have HF := Lib.hid hF
  obtain ⟨LV, hLv⟩ : ∃ L, vs.length = L := ⟨_, rfl⟩
  have HLL := Lib.hid hLv
  rw [hLv] at h0 h9 HF ⊢
  have htr := fun W => Any.strings_Trim_laid Tryz.lays160 (by kernel_rfl) { data := #[115] } { data := #[115, 97] } W (by decide) (by decide) (ascii_of_all (by decide))
  rw [show Lib.trimS ({ data := #[115] } : ByteArray).data.toList ({ data := #[115, 97] } : ByteArray).data.toList = [] from by decide] at htr
  have HTR := Lib.hid htr
  have hem : ({ data := #[] } : ByteArray).toList.isEmpty = true := by rw [Lib.toList_data]; rfl
  obtain ⟨B, hB⟩ : ∃ B, w.heap.size = B := ⟨_, rfl⟩
  have HB := Lib.hid hB
  clear hb hv hE hC hF hLv htr hB
  go_enter Tryz.func64, Tryz.ntmps64
  go_wp2_with fail
  refine (HTR.out _).mono ?_
  rintro e w1 ⟨rfl, hb⟩
  replace HR := Lib.hid (keep_block HR.out hb)
  replace HV := Lib.hid (HV.out.below hb)
  replace HE := Lib.hid (HE.out.below hb)
  replace HL := Lib.hid (HL.out.trans (hb.mono HL.out.size))
  clear hb
  have LI := Lib.hid (show LiftI w ab ao vs w1 from ⟨HR.out, HV.out, HE.out, HL.out⟩)
  clear HR HV HE HL
  go_wp2_with fail
  go_loopg [29] LV (fun g v29 wx => ∃ i : Nat, v29 = .int .i64 (i : Int) ∧ i ≤ LV ∧ g = LV - i ∧ LiftI w ab ao vs wx)
  case atStart => exact ⟨0, rfl, Nat.zero_le _, rfl, LI.out⟩
  case round =>
    obtain ⟨i, rfl, hi, rfl, hli⟩ := hrel
    have HLI := Lib.hid hli
    clear hli LI
    by_cases hlt : i < LV
    · have hd : decide ((i : Int) < (LV : Int)) = true := decide_eq_true (by omega)
      have hd2 : decide (i < LV) = true := decide_eq_true hlt
      have hii : i < vs.length := by rw [HLL.out]; exact hlt
      obtain ⟨c0, c1, c2, c3, c4, c5, c6, c7, c8⟩ := HLI.out.2.1.at i hii
      have hi0 : (0 : Int) ≤ (i : Int) := by omega
      have hi1 : (i : Int) < (LV : Int) := by omega
      have TC := Lib.hid (HC.out vs[i] (List.getElem_mem hii))
      have HA := Lib.hid (HLI.out.2.2.2.trans ((Below.refl wr.heap.size wr).alloc (Nat.le_refl _) (.cells #[.int .i64 vs[i].k, .string vs[i].n, .string vs[i].d, .string vs[i].t, .bool vs[i].on, .int .i64 vs[i].c, .int .i64 vs[i].r, .int .i64 vs[i].s, .slice vs[i].A vs[i].L vs[i].C] 30) |>.mono HLI.out.2.2.2.size))
      go_wp2_with fail
      refine (TC.out _ HA.out).mono ?_
      rintro e w2 ⟨rfl, hb⟩
      have HLI2 := Lib.hid ((HLI.out.step ((Below.refl wr.heap.size wr).alloc (Nat.le_refl _) (.cells #[.int .i64 vs[i].k, .string vs[i].n, .string vs[i].d, .string vs[i].t, .bool vs[i].on, .int .i64 vs[i].c, .int .i64 vs[i].r, .int .i64 vs[i].s, .slice vs[i].A vs[i].L vs[i].C] 30))).step hb)
      clear hb c0 c1 c2 c3 c4 c5 c6 c7 c8
      go_wp2
      go_roundg (LV - (i + 1))
      case measure => omega
      case rel => exact ⟨i + 1, by go_num, by omega, by omega, HLI2.out⟩
    · have hd : decide ((i : Int) < (LV : Int)) = false := decide_eq_false (by omega)
      have hd2 : decide (i < LV) = false := decide_eq_false hlt
      clear hlt
      go_wp2_with fail
      go_loopg [11, 12, 42] LV (fun g v11 v12 v42 wx => ∃ i : Nat, v11 = .int .i64 0 ∧ v12 = .int .i64 0 ∧ v42 = .int .i64 (i : Int) ∧ i ≤ LV ∧ g = LV - i ∧ LiftI w ab ao vs wx)
      case atStart => exact ⟨0, rfl, rfl, rfl, Nat.zero_le _, rfl, HLI.out⟩
      case round =>
        clear HLI hd hd2 hi
        obtain ⟨i, rfl, rfl, rfl, hi, rfl, hli⟩ := hrel
        have HLI := Lib.hid hli
        clear hli
        by_cases hlt : i < LV
        · have hd : decide ((i : Int) < (LV : Int)) = true := decide_eq_true (by omega)
          have hd2 : decide (i < LV) = true := decide_eq_true hlt
          have hii : i < vs.length := by rw [HLL.out]; exact hlt
          obtain ⟨c0, c1, c2, c3, c4, c5, c6, c7, c8⟩ := HLI.out.2.1.at i hii
          have hi0 : (0 : Int) ≤ (i : Int) := by omega
          have hi1 : (i : Int) < (LV : Int) := by omega
          have hkf := hno vs[i] (List.getElem_mem hii)
          go_wp2_with fail
          refine (letter_one 115 i (by omega) _).mono ?_
          rintro e w2 ⟨rfl, rfl⟩
          have HLI2 := Lib.hid (HLI.out.step ((Below.refl wr.heap.size wr).alloc (Nat.le_refl _) (.cells #[.int .i64 vs[i].k, .string vs[i].n, .string vs[i].d, .string vs[i].t, .bool vs[i].on, .int .i64 vs[i].c, .int .i64 vs[i].r, .int .i64 vs[i].s, .slice vs[i].A vs[i].L vs[i].C] 30)))
          go_wp2
          go_roundg (LV - (i + 1))
          case measure => omega
          case rel => exact ⟨i + 1, rfl, rfl, by go_num, by omega, by omega, HLI2.out⟩
        · have hd : decide ((i : Int) < (LV : Int)) = false := decide_eq_false (by omega)
          have hd2 : decide (i < LV) = false := decide_eq_false hlt
          clear hlt
          obtain ⟨i0, hi0', hz0, hz1, hz2⟩ := info_val
          have hfl : (flat vs).length = LV * 9 := by rw [flat_len, HLL.out]
          have hvals := HLI.out.2.1
          have hml : 0 + LV ≤ maxLen := by unfold maxLen; omega
          clear hi
          go_wp2_with (at_builtin; refine wpList_append_own _ rfl _ _ 28 rfl w.heap.size 30 i0 _ 9 112 Tryz.underlying28 hi0' hz0 hz1 hz2 rfl (by decide) (.slice none 0 0) 0 [] rfl (World.ownsRow_nil _ _ _ _) ⟨ab, ao, none⟩ LV C (flat vs) rfl hfl hvals (flat_one vs) hml (by omega) HLI.out.2.2.2.size ?_)
          intro v5 w5 hown5 hgrow5 _
          obtain ⟨g, cap, rfl, hg, hcap, hva⟩ := vals_of_owns hown5 HLL.out h0
          have HLI5 := Lib.hid (HLI.out.step (below_none hgrow5))
          have HVA := Lib.hid hva
          clear hown5 hgrow5 hg hcap hva hvals hfl hml hi0' hz0 hz1 hz2
          go_wp2_with fail
          refine (HF.out _ g cap HLI5.out.2.2.2 HVA.out).mono ?_
          rintro e w6 ⟨lg, cap', rfl, hva6, hlg6, hb⟩
          have HV6 := Lib.hid hva6
          have HLI6 := Lib.hid (HLI5.out.step hb)
          clear hb hva6 hlg6
          go_wp2_with fail
          refine (HO.out lg cap' _ HV6.out HLI6.out.2.2.1).mono ?_
          rintro e w7 ⟨rfl, hb⟩
          have HV7 := Lib.hid (HV6.out.below hb)
          have HLI7 := Lib.hid (HLI6.out.step hb)
          clear hb HLI6 HV6
          have hb8 : Below w7.heap.size w7 (w7.alloc (.cells #[.int .i64 5, .string { data := #[] }, .string { data := #[] }, .string { data := #[] }, .bool false, .int .i64 0, .int .i64 (rr : Int), .int .i64 (ss : Int), .slice (some ⟨lg, 0, none⟩) L cap'] 30)) := (Below.refl w7.heap.size w7).alloc (Nat.le_refl _) _
          have HLI8 := Lib.hid (HLI7.out.step hb8)
          have HV8 := Lib.hid (HV7.out.below hb8)
          have HT := Lib.hid (heap_alloc_new w7 (.cells #[.int .i64 5, .string { data := #[] }, .string { data := #[] }, .string { data := #[] }, .bool false, .int .i64 0, .int .i64 (rr : Int), .int .i64 (ss : Int), .slice (some ⟨lg, 0, none⟩) L cap'] 30))
          obtain ⟨t15, ht15⟩ : ∃ z, w7.heap.size = z := ⟨_, rfl⟩
          obtain ⟨w8, hw8⟩ : ∃ Z, w7.alloc (.cells #[.int .i64 5, .string { data := #[] }, .string { data := #[] }, .string { data := #[] }, .bool false, .int .i64 0, .int .i64 (rr : Int), .int .i64 (ss : Int), .slice (some ⟨lg, 0, none⟩) L cap'] 30) = Z := ⟨_, rfl⟩
          have HGT := Lib.hid (show w.heap.size < t15 by have := heap_lt HLI7.out.1; omega)
          rw [hw8] at HLI8 HV8 HT
          rw [ht15] at HT
          have EW8 := Lib.hid hw8
          have ET := Lib.hid ht15
          clear HLI7 HV7 hb8 hw8 ht15
          obtain ⟨i1, hi1', hz10, hz11, hz12⟩ := info_val
          have hfl : (flat (numVals its)).length = L * 9 := by rw [flat_len, numVals_len, hil]
          have hvals := HV8.out
          have hml : 0 + L ≤ maxLen := by unfold maxLen; omega
          obtain ⟨⟨e0, e1, e2, e3, e4, e5, e6, e7, e8⟩, f0, f1, f2, f3, f4, f5, f6, f7, f8⟩ := nine_at HT.out
          go_upto_region 19 with fail
          rw [EW8.out, ET.out]
          go_wp2_with (at_builtin; refine wpList_append_own _ rfl _ _ 28 rfl w8.heap.size 30 i1 _ 9 112 Tryz.underlying28 hi1' hz10 hz11 hz12 rfl (by decide) (.slice none 0 0) 0 [] rfl (World.ownsRow_nil _ _ _ _) ⟨lg, 0, none⟩ L cap' (flat (numVals its)) rfl hfl hvals (flat_one _) hml (by omega) (Nat.le_refl _) ?_)
          intro v9 w9 hown9 hgrow9 _
          obtain ⟨g9, cap9, rfl, hg9, hcap9, hva9⟩ := vals_of_owns hown9 (by rw [numVals_len, hil]) h0L
          have HLI9 := Lib.hid (HLI8.out.step (below_none hgrow9))
          have HT9 := Lib.hid (keep_block HT.out (below_none hgrow9))
          have HV9 := Lib.hid hva9
          have HG9 := Lib.hid (show t15 < g9 by have := heap_lt HT.out; omega)
          have HC9 := Lib.hid hcap9
          clear hown9 hgrow9 hcap9 hva9 hvals hfl hml hg9 e0 e1 e2 e3 e4 e5 e6 e7 e8 f0 f1 f2 f3 f4 f5 f6 f7 f8 HLI8 HV8 HT
          obtain ⟨⟨e0, e1, e2, e3, e4, e5, e6, e7, e8⟩, f0, f1, f2, f3, f4, f5, f6, f7, f8⟩ := nine_at HT9.out
          go_upto_region 20 with fail
          have hT10 := heap_setCell_at HT9.out 8 (.slice (some ⟨g9, 0, none⟩) L cap9)
          have HT10 := Lib.hid (show (w9.setCell ⟨t15, 8, none⟩ (.slice (some ⟨g9, 0, none⟩) L cap9)).heap[t15]? = some (.cells #[.int .i64 5, .string { data := #[] }, .string { data := #[] }, .string { data := #[] }, .bool false, .int .i64 0, .int .i64 (rr : Int), .int .i64 (ss : Int), .slice (some ⟨g9, 0, none⟩) L cap9] 30 (0, 0)) from hT10)
          have HV10 := Lib.hid (vals_other HV9.out (Below.heap_setCell w9 ⟨t15, 8, none⟩ (.slice (some ⟨g9, 0, none⟩) L cap9) g9 (by have := HG9.out; simp only []; omega)))
          have HR10 := Lib.hid ((Below.heap_setCell w9 ⟨t15, 8, none⟩ (.slice (some ⟨g9, 0, none⟩) L cap9) w.heap.size (by have := HGT.out; simp only []; omega)).trans HLI9.out.1)
          have HL10 := Lib.hid (HLI9.out.2.2.2.setCell (p := ⟨t15, 8, none⟩) (show w.heap.size ≤ t15 by have := HGT.out; omega) (.slice (some ⟨g9, 0, none⟩) L cap9))
          clear hT10 HLI9 HT9 HV9 e0 e1 e2 e3 e4 e5 e6 e7 e8 f0 f1 f2 f3 f4 f5 f6 f7 f8
          obtain ⟨w10, hw10⟩ : ∃ Z, w9.setCell ⟨t15, 8, none⟩ (.slice (some ⟨g9, 0, none⟩) L cap9) = Z := ⟨_, rfl⟩
          rw [hw10] at HT10 HV10 HR10 HL10 ⊢
          clear hw10
          obtain ⟨⟨e0, e1, e2, e3, e4, e5, e6, e7, e8⟩, _⟩ := nine_at HT10.out
          obtain ⟨⟨a0, a1, a2, a3, a4, a5, a6, a7, a8⟩, b0, b1, b2, b3, b4, b5, b6, b7, b8⟩ := nine_at HR10.out
          obtain ⟨nb, z0, z1, z2, z3, z4, z5, z6, z7, z8⟩ := nine_end (x0 := (.int .i64 5)) (x1 := (.string { data := #[] })) (x2 := (.string { data := #[] })) (x3 := (.string { data := #[] })) (x4 := (.bool false)) (x5 := (.int .i64 0)) (x6 := (.int .i64 (rr : Int))) (x7 := (.int .i64 (ss : Int))) (x8 := (.slice (some ⟨g9, 0, none⟩) L cap9)) HR10.out HL10.out (Nat.le_refl _)
          have NB := Lib.hid nb
          have HV11 := Lib.hid (vals_other HV10.out (set9_other w10 w.heap.size (.int .i64 5) (.string { data := #[] }) (.string { data := #[] }) (.string { data := #[] }) (.bool false) (.int .i64 0) (.int .i64 (rr : Int)) (.int .i64 (ss : Int)) (.slice (some ⟨g9, 0, none⟩) L cap9) (show g9 ≠ w.heap.size by have := HG9.out; have := HGT.out; omega)))
          clear nb
          go_wp2
          refine bodyPost_ret (v := .tuple #[.agg #[.int .i64 5, .string { data := #[] }, .string { data := #[] }, .string { data := #[] }, .bool false, .int .i64 0, .int .i64 (rr : Int), .int .i64 (ss : Int), .slice (some ⟨g9, 0, none⟩) L cap9], .int .i64 0]) (by simp [results, Tryz.results64, go_sem, z0, z1, z2, z3, z4, z5, z6, z7, z8]) rfl ⟨g9, cap9, rfl, HV11.out, by have := HG9.out; have := HGT.out; omega, HC9.out, NB.out⟩

end Go.Proofs.YtkbhlkinlcmgoaaGreatDoor.Num

/- Results that are arrays: through Run's closure, Run at kinds 's', Call and the law's own call, for fmoney's table. Conditions: the tables lie as they are laid; each number fits; at most 1000 numbers. -/
namespace Go.Proofs.YtkbhlkinlcmgoaaGreatDoor.Num.Fy
open Go.RowKit Go.Lib Go.MapKept Num
attribute [local go_sem] run_store_func
set_option maxHeartbeats 8000000 in
set_option maxRecDepth 100000 in
theorem run_s_tab (i : Nat) (r : Row) (hi : i < allRows.length) (hr : allRows[i] = r) (hnum : r.num = false) (eF : ∀ args w, (callFunc r.fn args).run Tryz.prog w = .ok (.enter r.fn args) w) (hkd : r.kinds = { data := #[115] }) (hfr : ∀ j (hj : j < i), (allRows[i].name == (allRows[j]'(by omega)).name) = false) (vs : List Val) (b ab ao C : Nat) (rr ss L : Nat) (its : List Rat) (hr1 : 1 ≤ rr) (hs1 : 1 ≤ ss) (hL9 : L ≤ 1000) (hL : rr * ss = L) (hil : its.length = L) (hfit : ∀ q ∈ its, fits q = true) (w : World) (h0 : 0 < vs.length) (h9 : vs.length ≤ 300) (hc1 : r.least ≤ vs.length) (hc2 : (vs.length : Int) ≤ r.most) (hno : ∀ v ∈ vs, (v.k == 5) = false) (hv : ValsAt w ab ao vs) (hE : Env w) (hT : TableAt w b allRows)
    (hC : ∀ v ∈ vs, ∀ W, Below w.heap.size w W → Calls Tryz.prog 40 #[v.agg] W fun e w' => e = .returned (.int .i64 0) ∧ Below W.heap.size W w')
    (hK : ∀ W g cap, Below w.heap.size w W → Env W → ValsAt W g 0 vs → Calls Tryz.prog r.fn #[.slice (some ⟨g, 0, none⟩) vs.length cap] W fun e w' => ∃ lg cap, e = .returned (.agg #[.int .i64 5, .string { data := #[] }, .string { data := #[] }, .string { data := #[] }, .bool false, .int .i64 0, .int .i64 (rr : Int), .int .i64 (ss : Int), .slice (some ⟨lg, 0, none⟩) L cap]) ∧ ValsAt w' lg 0 (numVals its) ∧ W.heap.size ≤ lg ∧ Below W.heap.size W w') :
    Calls Tryz.prog 41 #[.map (some b), .string r.name, .slice (some ⟨ab, ao, none⟩) vs.length C] w fun e w' => ∃ lg cap, e = .returned (.tuple #[.agg #[.int .i64 5, .string { data := #[] }, .string { data := #[] }, .string { data := #[] }, .bool false, .int .i64 0, .int .i64 (rr : Int), .int .i64 (ss : Int), .slice (some ⟨lg, 0, none⟩) L cap], .int .i64 0]) ∧ ValsAt w' lg 0 (numVals its) ∧ w.heap.size ≤ lg ∧ L ≤ cap ∧ Below w.heap.size w w' := by
  have hb : Below w.heap.size w (w.alloc (.cells #[.int .i64 0, .string { data := #[] }, .string { data := #[] }, .string { data := #[] }, .bool false, .int .i64 0, .int .i64 0, .int .i64 0, .slice none 0 0] 30)) := (Below.refl _ _).alloc (Nat.le_refl _) _
  have HR := Lib.hid (heap_alloc_new w (.cells #[.int .i64 0, .string { data := #[] }, .string { data := #[] }, .string { data := #[] }, .bool false, .int .i64 0, .int .i64 0, .int .i64 0, .slice none 0 0] 30))
  obtain ⟨v, hrf, hrun⟩ := (hT.below hb).look i hi hfr Tryz.underlying73 Tryz.underlying9
  rw [hr] at hrf hrun
  unfold RowFn at hrf
  rw [if_neg (by rw [hnum]; decide)] at hrf
  subst hrf
  obtain ⟨name, least, most, kinds, num, F⟩ := r
  simp only at hkd hc1 hc2 eF hK
  subst hkd
  simp only at hrun ⊢
  have HV := Lib.hid (hv.below hb)
  have HE := Lib.hid (hE.below hb)
  have HL := Lib.hid hb
  have d1 : decide ((vs.length : Int) < least) = false := decide_eq_false (by omega)
  have d2 : decide (most < (vs.length : Int)) = false := decide_eq_false (by omega)
  have hmf : ∀ (fn : Fn) (first cap : Array Value) (w : World), (Instr.makeFunc fn first cap).run Tryz.prog w = .ok (.func fn first cap) w := fun _ _ _ _ => rfl
  have hb : Below (w.alloc (.cells #[.int .i64 0, .string { data := #[] }, .string { data := #[] }, .string { data := #[] }, .bool false, .int .i64 0, .int .i64 0, .int .i64 0, .slice none 0 0] 30)).heap.size (w.alloc (.cells #[.int .i64 0, .string { data := #[] }, .string { data := #[] }, .string { data := #[] }, .bool false, .int .i64 0, .int .i64 0, .int .i64 0, .slice none 0 0] 30)) ((w.alloc (.cells #[.int .i64 0, .string { data := #[] }, .string { data := #[] }, .string { data := #[] }, .bool false, .int .i64 0, .int .i64 0, .int .i64 0, .slice none 0 0] 30)).alloc (.cells #[.int .i64 least, .int .i64 most, .string { data := #[115] }, .func (.func F) #[] #[]] 97)) := (Below.refl _ _).alloc (Nat.le_refl _) _
  have HX := Lib.hid (Lib.cell_of_heap (heap_alloc_new (w.alloc (.cells #[.int .i64 0, .string { data := #[] }, .string { data := #[] }, .string { data := #[] }, .bool false, .int .i64 0, .int .i64 0, .int .i64 0, .slice none 0 0] 30)) (.cells #[.int .i64 least, .int .i64 most, .string { data := #[115] }, .func (.func F) #[] #[]] 97)) 3)
  replace HR := Lib.hid (keep_block HR.out hb)
  replace HV := Lib.hid (HV.out.below hb)
  replace HE := Lib.hid (HE.out.below hb)
  replace HL := Lib.hid (HL.out.trans (hb.mono HL.out.size))
  have hpos : (w.alloc (.cells #[.int .i64 0, .string { data := #[] }, .string { data := #[] }, .string { data := #[] }, .bool false, .int .i64 0, .int .i64 0, .int .i64 0, .slice none 0 0] 30)).heap.size = w.heap.size + 1 := by simp
  rw [hpos] at HX
  have TL := Lib.hid (lift_s_tab vs ab ao C (w.heap.size + 1) rr ss L its hr1 hs1 hL9 hL hil hfit ((w.alloc (.cells #[.int .i64 0, .string { data := #[] }, .string { data := #[] }, .string { data := #[] }, .bool false, .int .i64 0, .int .i64 0, .int .i64 0, .slice none 0 0] 30)).alloc (.cells #[.int .i64 least, .int .i64 most, .string { data := #[115] }, .func (.func F) #[] #[]] 97)) h0 h9 hno HV.out HE.out
    (fun v hv W h => hC v hv W (HL.out.trans (h.mono HL.out.size)))
    (fun W g cap hbw hva => by
      exact run1_raw (w.heap.size + 1) F (.slice (some ⟨g, 0, none⟩) vs.length cap) rr ss L its hr1 hs1 hL9 hL hil W ⟨_, _, _, rfl⟩ (cell_below HX.out hbw) eF (HE.out.below hbw) (fun W' hb' =>
        hK W' g cap (HL.out.trans ((hbw.trans (hb'.mono hbw.size)).mono HL.out.size)) (HE.out.below (hbw.trans (hb'.mono hbw.size))) (hva.below hb'))))
  clear hb hv hE hT hC hK hpos hfr hr hnum hi h0 h9 hc1 hc2
  go_enter Tryz.func41, Tryz.ntmps41
  go_wp2_with fail
  refine TL.out.mono ?_
  rintro e w2 ⟨lg, cap, rfl, hva, hlg, hcp, hb2⟩
  have HCP := Lib.hid hcp
  have HVA := Lib.hid hva
  have HLG := Lib.hid (show w.heap.size + 2 ≤ lg by simpa using hlg)
  clear hva hlg
  replace HR := Lib.hid (keep_block HR.out hb2)
  replace HL := Lib.hid (HL.out.trans (hb2.mono HL.out.size))
  clear hb2
  obtain ⟨⟨r0, r1, r2, r3, r4, r5, r6, r7, r8⟩, g0, g1, g2, g3, g4, g5, g6, g7, g8⟩ := nine_at HR.out
  obtain ⟨nb, z0, z1, z2, z3, z4, z5, z6, z7, z8⟩ := nine_end (x0 := (.int .i64 5)) (x1 := (.string { data := #[] })) (x2 := (.string { data := #[] })) (x3 := (.string { data := #[] })) (x4 := (.bool false)) (x5 := (.int .i64 0)) (x6 := (.int .i64 (rr : Int))) (x7 := (.int .i64 (ss : Int))) (x8 := (.slice (some ⟨lg, 0, none⟩) L cap)) HR.out HL.out (Nat.le_refl _)
  have HVB := Lib.hid (vals_other HVA.out (set9_other w2 w.heap.size (.int .i64 5) (.string { data := #[] }) (.string { data := #[] }) (.string { data := #[] }) (.bool false) (.int .i64 0) (.int .i64 (rr : Int)) (.int .i64 (ss : Int)) (.slice (some ⟨lg, 0, none⟩) L cap) (show lg ≠ w.heap.size by have := HLG.out; omega)))
  have NB := Lib.hid nb
  clear nb
  go_wp2
  refine bodyPost_ret (v := .tuple #[.agg #[.int .i64 5, .string { data := #[] }, .string { data := #[] }, .string { data := #[] }, .bool false, .int .i64 0, .int .i64 (rr : Int), .int .i64 (ss : Int), .slice (some ⟨lg, 0, none⟩) L cap], .int .i64 0]) (by simp [results, Tryz.results41, go_sem, z0, z1, z2, z3, z4, z5, z6, z7, z8]) rfl ⟨lg, cap, rfl, HVB.out, by have := HLG.out; omega, HCP.out, NB.out⟩

set_option maxHeartbeats 4000000 in
set_option maxRecDepth 100000 in
theorem call_tab (name : ByteArray) (sl : Value) (rr ss L : Nat) (its : List Rat) (w : World) (hs : ∃ a l c, sl = .slice a l c)
    (hRun : ∀ W b, Below w.heap.size w W → TableAt W b allRows → Calls Tryz.prog 41 #[.map (some b), .string name, sl] W fun e w' => ∃ lg cap, e = .returned (.tuple #[.agg #[.int .i64 5, .string { data := #[] }, .string { data := #[] }, .string { data := #[] }, .bool false, .int .i64 0, .int .i64 (rr : Int), .int .i64 (ss : Int), .slice (some ⟨lg, 0, none⟩) L cap], .int .i64 0]) ∧ ValsAt w' lg 0 (numVals its) ∧ W.heap.size ≤ lg ∧ L ≤ cap ∧ Below W.heap.size W w') :
    Calls Tryz.prog 21 #[.string name, sl] w fun e w' => ∃ lg cap, e = .returned (.tuple #[.agg #[.int .i64 5, .string { data := #[] }, .string { data := #[] }, .string { data := #[] }, .bool false, .int .i64 0, .int .i64 (rr : Int), .int .i64 (ss : Int), .slice (some ⟨lg, 0, none⟩) L cap], .int .i64 0]) ∧ ValsAt w' lg 0 (numVals its) ∧ w.heap.size ≤ lg ∧ L ≤ cap ∧ Below w.heap.size w w' := by
  obtain ⟨sa, slen, sc, rfl⟩ := hs
  have hb : Below w.heap.size w (w.alloc (.cells #[.int .i64 0, .string { data := #[] }, .string { data := #[] }, .string { data := #[] }, .bool false, .int .i64 0, .int .i64 0, .int .i64 0, .slice none 0 0] 30)) := (Below.refl _ _).alloc (Nat.le_refl _) _
  have HR := Lib.hid (heap_alloc_new w (.cells #[.int .i64 0, .string { data := #[] }, .string { data := #[] }, .string { data := #[] }, .bool false, .int .i64 0, .int .i64 0, .int .i64 0, .slice none 0 0] 30))
  have HL := Lib.hid hb
  have TR := Lib.hid hRun
  clear hRun hb
  go_enter Tryz.func21, Tryz.ntmps21
  go_wp2_with fail
  refine (table_any _).mono ?_
  rintro e W1 ⟨b, rfl, ht, hb⟩
  have HT := Lib.hid ht
  clear ht
  replace HR := Lib.hid (keep_block HR.out hb)
  replace HL := Lib.hid (HL.out.trans (hb.mono HL.out.size))
  clear hb
  go_wp2_with fail
  refine (TR.out _ _ HL.out HT.out).mono ?_
  rintro e W2 ⟨lg, cap, rfl, hva, hlg, hcp, hb⟩
  have HCP := Lib.hid hcp
  have HVA := Lib.hid hva
  have HLG := Lib.hid (show w.heap.size < lg by have := heap_lt HR.out; omega)
  clear hva hlg
  replace HR := Lib.hid (keep_block HR.out hb)
  replace HL := Lib.hid (HL.out.trans (hb.mono HL.out.size))
  clear hb
  obtain ⟨⟨r0, r1, r2, r3, r4, r5, r6, r7, r8⟩, g0, g1, g2, g3, g4, g5, g6, g7, g8⟩ := nine_at HR.out
  obtain ⟨nb, z0, z1, z2, z3, z4, z5, z6, z7, z8⟩ := nine_end (x0 := (.int .i64 5)) (x1 := (.string { data := #[] })) (x2 := (.string { data := #[] })) (x3 := (.string { data := #[] })) (x4 := (.bool false)) (x5 := (.int .i64 0)) (x6 := (.int .i64 (rr : Int))) (x7 := (.int .i64 (ss : Int))) (x8 := (.slice (some ⟨lg, 0, none⟩) L cap)) HR.out HL.out (Nat.le_refl _)
  have HVB := Lib.hid (vals_other HVA.out (set9_other W2 w.heap.size (.int .i64 5) (.string { data := #[] }) (.string { data := #[] }) (.string { data := #[] }) (.bool false) (.int .i64 0) (.int .i64 (rr : Int)) (.int .i64 (ss : Int)) (.slice (some ⟨lg, 0, none⟩) L cap) (show lg ≠ w.heap.size by have := HLG.out; omega)))
  have NB := Lib.hid nb
  clear nb
  go_wp2
  refine bodyPost_ret (v := .tuple #[.agg #[.int .i64 5, .string { data := #[] }, .string { data := #[] }, .string { data := #[] }, .bool false, .int .i64 0, .int .i64 (rr : Int), .int .i64 (ss : Int), .slice (some ⟨lg, 0, none⟩) L cap], .int .i64 0]) (by simp [results, Tryz.results21, go_sem, z0, z1, z2, z3, z4, z5, z6, z7, z8]) rfl ⟨lg, cap, rfl, HVB.out, by have := HLG.out; omega, HCP.out, NB.out⟩

set_option maxHeartbeats 4000000 in
set_option maxRecDepth 100000 in
theorem math_tab (name : ByteArray) (sl : Value) (rr ss L : Nat) (its : List Rat) (w : World) (hs : ∃ a l c, sl = .slice a l c)
    (hRun : ∀ W b, Below w.heap.size w W → TableAt W b allRows → Calls Tryz.prog 41 #[.map (some b), .string name, sl] W fun e w' => ∃ lg cap, e = .returned (.tuple #[.agg #[.int .i64 5, .string { data := #[] }, .string { data := #[] }, .string { data := #[] }, .bool false, .int .i64 0, .int .i64 (rr : Int), .int .i64 (ss : Int), .slice (some ⟨lg, 0, none⟩) L cap], .int .i64 0]) ∧ ValsAt w' lg 0 (numVals its) ∧ W.heap.size ≤ lg ∧ L ≤ cap ∧ Below W.heap.size W w') :
    Calls Tryz.prog 8 #[.string name, sl] w fun e w' => ∃ lg cap, e = .returned (.agg #[.int .i64 5, .string { data := #[] }, .string { data := #[] }, .string { data := #[] }, .bool false, .int .i64 0, .int .i64 (rr : Int), .int .i64 (ss : Int), .slice (some ⟨lg, 0, none⟩) L cap]) ∧ ValsAt w' lg 0 (numVals its) ∧ w.heap.size ≤ lg ∧ L ≤ cap ∧ Below w.heap.size w w' := by
  have hb : Below w.heap.size w (w.alloc (.cells #[.int .i64 0, .string { data := #[] }, .string { data := #[] }, .string { data := #[] }, .bool false, .int .i64 0, .int .i64 0, .int .i64 0, .slice none 0 0] 30)) := (Below.refl _ _).alloc (Nat.le_refl _) _
  have HR := Lib.hid (heap_alloc_new w (.cells #[.int .i64 0, .string { data := #[] }, .string { data := #[] }, .string { data := #[] }, .bool false, .int .i64 0, .int .i64 0, .int .i64 0, .slice none 0 0] 30))
  have HL := Lib.hid hb
  have TC := Lib.hid (call_tab name sl rr ss L its (w.alloc (.cells #[.int .i64 0, .string { data := #[] }, .string { data := #[] }, .string { data := #[] }, .bool false, .int .i64 0, .int .i64 0, .int .i64 0, .slice none 0 0] 30)) hs (fun W b h => hRun W b (hb.trans (h.mono hb.size))))
  obtain ⟨sa, slen, sc, rfl⟩ := hs
  clear hRun hb
  go_enter Tryz.func8, Tryz.ntmps8
  go_wp2_with fail
  refine TC.out.mono ?_
  rintro e W1 ⟨lg, cap, rfl, hva, hlg, hcp, hb⟩
  have HCP := Lib.hid hcp
  have HVA := Lib.hid hva
  have HLG := Lib.hid (show w.heap.size < lg by have := heap_lt HR.out; omega)
  clear hva hlg
  replace HR := Lib.hid (keep_block HR.out hb)
  replace HL := Lib.hid (HL.out.trans (hb.mono HL.out.size))
  clear hb
  have hlt := heap_lt HR.out
  obtain ⟨⟨r0, r1, r2, r3, r4, r5, r6, r7, r8⟩, g0, g1, g2, g3, g4, g5, g6, g7, g8⟩ := nine_at HR.out
  have HF1 := Lib.hid (set9_at HR.out (.int .i64 5) (.string { data := #[] }) (.string { data := #[] }) (.string { data := #[] }) (.bool false) (.int .i64 0) (.int .i64 (rr : Int)) (.int .i64 (ss : Int)) (.slice (some ⟨lg, 0, none⟩) L cap))
  have HF2 := Lib.hid ((Below.heap_alloc _ (.cells #[.int .i64 5, .string { data := #[] }, .string { data := #[] }, .string { data := #[] }, .bool false, .int .i64 0, .int .i64 (rr : Int), .int .i64 (ss : Int), .slice (some ⟨lg, 0, none⟩) L cap] 30) _ (heap_lt HF1.out)).trans HF1.out)
  have HB2 := Lib.hid (nine_end (x0 := (.int .i64 5)) (x1 := (.string { data := #[] })) (x2 := (.string { data := #[] })) (x3 := (.string { data := #[] })) (x4 := (.bool false)) (x5 := (.int .i64 0)) (x6 := (.int .i64 (rr : Int))) (x7 := (.int .i64 (ss : Int))) (x8 := (.slice (some ⟨lg, 0, none⟩) L cap)) HR.out HL.out (Nat.le_refl _)).1
  have HZ2 := Lib.hid (HB2.out.alloc HB2.out.size (.cells #[.int .i64 5, .string { data := #[] }, .string { data := #[] }, .string { data := #[] }, .bool false, .int .i64 0, .int .i64 (rr : Int), .int .i64 (ss : Int), .slice (some ⟨lg, 0, none⟩) L cap] 30))
  have HA := Lib.hid ((Below.heap_alloc W1 (.cells #[.int .i64 5, .string { data := #[] }, .string { data := #[] }, .string { data := #[] }, .bool false, .int .i64 0, .int .i64 (rr : Int), .int .i64 (ss : Int), .slice (some ⟨lg, 0, none⟩) L cap] 30) _ hlt).trans HR.out)
  have HVB := Lib.hid (vals_other (HVA.out.below ((Below.refl W1.heap.size W1).alloc (Nat.le_refl _) (.cells #[.int .i64 5, .string { data := #[] }, .string { data := #[] }, .string { data := #[] }, .bool false, .int .i64 0, .int .i64 (rr : Int), .int .i64 (ss : Int), .slice (some ⟨lg, 0, none⟩) L cap] 30))) (set9_other (W1.alloc (.cells #[.int .i64 5, .string { data := #[] }, .string { data := #[] }, .string { data := #[] }, .bool false, .int .i64 0, .int .i64 (rr : Int), .int .i64 (ss : Int), .slice (some ⟨lg, 0, none⟩) L cap] 30)) w.heap.size (.int .i64 5) (.string { data := #[] }) (.string { data := #[] }) (.string { data := #[] }) (.bool false) (.int .i64 0) (.int .i64 (rr : Int)) (.int .i64 (ss : Int)) (.slice (some ⟨lg, 0, none⟩) L cap) (show lg ≠ w.heap.size by have := HLG.out; omega)))
  have HVC := Lib.hid (vals_other (HVA.out) (set9_other W1 w.heap.size (.int .i64 5) (.string { data := #[] }) (.string { data := #[] }) (.string { data := #[] }) (.bool false) (.int .i64 0) (.int .i64 (rr : Int)) (.int .i64 (ss : Int)) (.slice (some ⟨lg, 0, none⟩) L cap) (show lg ≠ w.heap.size by have := HLG.out; omega)))
  obtain ⟨⟨a0, a1, a2, a3, a4, a5, a6, a7, a8⟩, b0, b1, b2, b3, b4, b5, b6, b7, b8⟩ := nine_at HA.out
  obtain ⟨⟨z0, z1, z2, z3, z4, z5, z6, z7, z8⟩, _⟩ := nine_at HF2.out
  go_wp2
  refine bodyPost_ret (v := .agg #[.int .i64 5, .string { data := #[] }, .string { data := #[] }, .string { data := #[] }, .bool false, .int .i64 0, .int .i64 (rr : Int), .int .i64 (ss : Int), .slice (some ⟨lg, 0, none⟩) L cap]) (by simp [results, Tryz.results8, go_sem, z0, z1, z2, z3, z4, z5, z6, z7, z8]) rfl ⟨lg, cap, rfl, HVC.out.below ((Below.refl _ _).alloc (Nat.le_refl _) _), by have := HLG.out; omega, HCP.out, HZ2.out⟩
end Go.Proofs.YtkbhlkinlcmgoaaGreatDoor.Num.Fy

/- the law's money at FV, PV, PMT, IPMT, PPMT, CUMPRINC. Conditions: rates of -9 to 30 hundredths, at most 24 periods; the tables lie as they are laid. -/
namespace Go.Proofs.YtkbhlkinlcmgoaaGreatDoor.Num.Fy
open Go.RowKit Go.Lib Go.MapKept Num

theorem fr_of (i : Nat) (hi : i < allRows.length) (h : freshB allRows[i].name (allRows.take i) = true) : ∀ j (hj : j < i), (allRows[i].name == (allRows[j]'(by omega)).name) = false := by
  intro j hj
  have := fresh_of h (allRows[j]'(by omega)) (by
    rw [List.mem_take_iff_getElem]
    exact ⟨j, by omega, rfl⟩)
  exact this
/-- what money gives at values that lie in a block; at a row -/
def MoneyRow (nm : ByteArray) (cs : Array Value) (n : Nat) (v : Value) : Prop := ∀ (W : World) (G : Nat), W.heap[G]? = some (.cells cs 30 (0, 0)) → EnvY W → Calls Tryz.prog 8 #[.string nm, .slice (some ⟨G, 0, none⟩) n n] W fun e w' => e = .returned v ∧ Below W.heap.size W w'
def RowV (nm : ByteArray) (vs : List Val) (v : Value) : Prop := ∀ (W : World) (G : Nat), ValsAt W G 0 vs → EnvY W → Calls Tryz.prog 8 #[.string nm, .slice (some ⟨G, 0, none⟩) vs.length vs.length] W fun e w' => e = .returned v ∧ Below W.heap.size W w'
theorem RowV.row {nm : ByteArray} {vs : List Val} {v : Value} (h : RowV nm vs v) : MoneyRow nm (flat vs).toArray vs.length v := fun W G hb g => h W G (vals_of_block hb (by simp)) g
theorem fz {z : Int} (h : z.natAbs ≤ 1000000000000000000) : fits ((z : Int) : Rat) = true := fits_int z h
section
variable {a V U : Int} {n : Nat} (a0 : -9 ≤ a) (a1 : a ≤ 30) (hV : V.natAbs ≤ 1000000) (hU : U.natAbs ≤ 1000000) (e : Bool) (hn : 1 ≤ n) (hk : n ≤ 24)
include a0 a1 hV hU hn hk
omit hU
end
end Go.Proofs.YtkbhlkinlcmgoaaGreatDoor.Num.Fy

/- package fmoney: plan at a loan of whole money, a rate of thousandths, at most 40 rows. Conditions: the tables lie as they are laid. -/
namespace Go.Proofs.YtkbhlkinlcmgoaaGreatDoor.Num.Fy
open Go.RowKit Go.Lib Num

section
variable {a n v k : Nat} (h : Plan a n v k)
include h
theorem g_rate : fits (mille a) = true := (mille_sd h).fits (by decide) (by decide)
theorem g_loan : Fun3 74 (fracV (mille a)) (.int .i64 (n : Int)) (.int .i64 0) (termsV (mille a) (growR (mille a) n) (sumR0 (mille a) n)) := by
  intro W g
  have fr := g_rate h
  have fo := (one_sd h).fits (by decide) (by decide)
  have fg := (grow_md h).fits (by decide) (by decide)
  have h0 := (sum0_md h).fits (by decide) (by decide)
  have hn9 := h.n9
  have cA := c_add1 fr fo
  have hl := grow_lim h
  have cP : Fun2 197 (fracV (1 + mille a)) (.int .i64 (n : Int)) (fracV (growR (mille a) n)) := c_pow (by omega) fo fg hl.1 hl.2
  have cO : Fun1 7 (.int .i64 (n : Int)) (fracV ((n : Int) : Rat)) := c_of (by omega)
  have cS := c_sign fr
  by_cases hz : mille a = 0
  · have hs : sumR0 (mille a) n = ((n : Int) : Rat) := by unfold sumR0; rw [if_pos hz, Rat.intCast_natCast]
    rw [hs]
    exact loan_z0 (mille a) (1 + mille a) (growR (mille a) n) ((n : Int) : Rat) (n : Int) (cmpR (mille a) 0) W (by omega) (by omega) (cmp_zero hz) cA cP cO cS g
  · have hs : (growR (mille a) n - 1) / mille a = sumR0 (mille a) n := by unfold sumR0; rw [if_neg hz]
    have fg1 := (grow1_md h).fits (by decide) (by decide)
    have cM := c_sub1 fg fg1
    have cD := c_div fg1 fr hz h0 hs
    exact loan_r0 (mille a) (1 + mille a) (growR (mille a) n) ((n : Int) : Rat) (growR (mille a) n - 1) (sumR0 (mille a) n) (n : Int) (cmpR (mille a) 0) W (by omega) (by omega) (cmp_ne hz) cA cP cO cS cM cD g
theorem g_pay : Fun3 82 (termsV (mille a) (growR (mille a) n) (sumR0 (mille a) n)) (fracV ((v : Nat) : Rat)) (fracV 0) (fracV (payR (mille a) n false ((v : Nat) : Rat) 0)) := by
  have e : ((v : Nat) : Rat) * growR (mille a) n + 0 = ((v : Nat) : Rat) * growR (mille a) n := Rat.add_zero _
  have f1 := (vg_md h).fits (by decide) (by decide)
  exact pay_any (mille a) (growR (mille a) n) (sumR0 (mille a) n) ((v : Nat) : Rat) 0 ((grow_md h).fits (by decide) (by decide)) ((sum0_md h).fits (by decide) (by decide)) (sum0_m h) ((v_sd h).fits (by decide) (by decide)) f0 f1 (by rw [e]; exact f1)
    (by rw [e]; exact (SD.div (vg_md h) (sum0_md h) (sum0_m h)).fits (by decide) (by decide))
/-- what is owed behind each row -/
def owedV (a n v k i : Nat) : Rat := if i < n then planV a n v k i else 0
omit h in
theorem plan_rate_sign : 0 ≤ cmpR (mille a) 0 := by
  have h1 : (0 : Rat) ≤ mille a := by
    unfold mille
    exact div_nonneg (by exact_mod_cast (Nat.zero_le a)) (by decide +kernel)
  unfold cmpR
  split
  · decide
  · rw [if_neg (by grind)]; decide
omit h in
theorem plan_v_sign : 0 ≤ cmpR ((v : Nat) : Rat) 0 := by
  have h1 : (0 : Rat) ≤ ((v : Nat) : Rat) := by exact_mod_cast (Nat.zero_le v)
  unfold cmpR
  split
  · decide
  · rw [if_neg (by grind)]; decide
theorem plan_any (b g Ca : Nat) (w : World) (ha : ArgsAt w b (some ⟨g, 0, none⟩) 4 Ca 0) (hv : ValsAt w g 0 [numVal' ((v : Nat) : Rat), numVal' (mille a), numVal' ((n : Int) : Rat), numVal' ((k : Int) : Rat)]) (hne : g ≠ b) (hE : EnvY w) (hP : Past b) :
    Calls Tryz.prog 103 #[.pointer (some ⟨b, 0, none⟩)] w fun e w' => ∃ lg cap, e = .returned (.agg #[.int .i64 5, .string { data := #[] }, .string { data := #[] }, .string { data := #[] }, .bool false, .int .i64 0, .int .i64 (n : Int), .int .i64 5, .slice (some ⟨lg, 0, none⟩) (n * 5) cap]) ∧ ValsAt w' lg 0 (numVals (itsL (planA a n v k) (planI a n v k) (planC a n v k) (planW a n v k) n)) ∧ w.heap.size ≤ lg ∧ w.grownBy w' (some b) := by
  have hn9 := h.n9
  have hk9 := h.k9
  have fv : fits ((v : Nat) : Rat) = true := (v_sd h).fits (by decide) (by decide)
  have fr := g_rate h
  have fpay := (pay_md h).fits (by decide) (by decide)
  have fnp := (SD.neg (pay_md h)).fits (by decide) (by decide)
  have fP := (planP_sd h).fits (by decide) (by decide)
  have fV : ∀ i, i < n → fits (planV a n v k i) = true := fun i hi => (planV_sd h i (by omega)).fits (by decide) (by decide)
  have fM : ∀ i, i < n → fits (planV a n v k i * mille a) = true := fun i hi => (planVr_sd h i (by omega)).fits (by decide) (by decide)
  have fI : ∀ i, i < n → fits (planI a n v k i) = true := fun i hi => (planI_sd h i (by omega)).fits (by decide) (by decide)
  have fD : ∀ i, i < n → fits (planP a n v k - planI a n v k i) = true := fun i hi => (planPI_sd h i (by omega)).fits (by decide) (by decide)
  have fC : ∀ i, i < n → fits (planC a n v k i) = true := fun i hi => (planC_sd h i (by omega)).fits (by decide) (by decide)
  have fW : ∀ i, i < n → fits (planW a n v k i) = true := fun i hi => (planW_sd h i (by omega)).fits (by decide) (by decide)
  have fA : ∀ i, i < n → fits (planA a n v k i) = true := fun i hi => (planA_sd h i (by omega)).fits (by decide) (by decide)
  have oV : ∀ i, i < n → owedV a n v k i = planV a n v k i := fun i hi => by unfold owedV; rw [if_pos hi]
  have cSv := c_sign fv
  have cSr := c_sign fr
  have cL := g_loan h
  have cZ : Fun1 7 (.int .i64 0) (fracV 0) := c_of (n := 0) (by decide)
  have cP := g_pay h
  have cN : Fun1 77 (fracV (payR (mille a) n false ((v : Nat) : Rat) 0)) (fracV (-(payR (mille a) n false ((v : Nat) : Rat) 0))) := c_neg fpay rfl
  simp only [fracV_is] at cSv cSr cL cZ cP cN
  unfold termsV at cL cP
  have h1 := h.n1
  refine plan_walk ((v : Nat) : Rat) (mille a) (growR (mille a) n) (sumR0 (mille a) n) 0 (payR (mille a) n false ((v : Nat) : Rat) 0) (-(payR (mille a) n false ((v : Nat) : Rat) 0)) (planP a n v k) (cmpR ((v : Nat) : Rat) 0) (cmpR (mille a) 0) n k (owedV a n v k) (fun i => planV a n v k i * mille a) (planI a n v k) (fun i => planP a n v k - planI a n v k i) (planC a n v k) (planW a n v k) (planA a n v k) b g Ca w
    h1 h.n9 h.k9 fv fr cSv plan_v_sign cSr plan_rate_sign cL cZ cP cN (rnd_of (by omega) fnp fP rfl) (oV 0 (by omega)) ?_ ?_ ?_ ?_ ?_ ?_ ?_ ?_ ha hv hne hE hP
  · intro i hi
    by_cases e : i + 1 < n
    · rw [planW_next e, oV _ e]
    · unfold owedV
      rw [if_neg e, planW_last (by omega)]
  · intro i hi
    rw [oV i hi]; rfl
  · intro i hi
    have := c_mul (fV i hi) fr (fM i hi) rfl
    rw [oV i hi]
    simp only [fracV_is] at this
    exact this
  · intro i hi
    exact rnd_of (by omega) (fM i hi) (fI i hi) rfl
  · intro i hi
    have := c_sub fP (fI i hi) (fD i hi) rfl
    simp only [fracV_is] at this
    exact this
  · intro i hi
    have := c_sub (fV i hi) (fC i hi) (fW i hi) rfl
    rw [oV i hi]
    simp only [fracV_is] at this
    exact this
  · intro i hi
    exact ⟨fA i hi, fI i hi, fC i hi, fW i hi⟩
  · intro i hi
    have := c_add (fC i hi) (fI i hi) (fA i hi) rfl
    simp only [fracV_is] at this
    exact this
end
end Go.Proofs.YtkbhlkinlcmgoaaGreatDoor.Num.Fy

/- package fmoney: the law's money at PLAN. Conditions: the tables lie as they are laid. -/
namespace Go.Proofs.YtkbhlkinlcmgoaaGreatDoor.Num.Fy
open Go.RowKit Go.Lib Go.MapKept Num

set_option maxHeartbeats 4000000 in
set_option maxRecDepth 100000 in
theorem plan_entry (n g cap0 : Nat) (vs : List Val) (its : List Rat) (w : World) (hE : EnvY w) (hv : ValsAt w g 0 vs)
    (hF : ∀ W b, Below w.heap.size w W → EnvY W → Past b → b < W.heap.size → w.heap.size ≤ b → ArgsAt W b (some ⟨g, 0, none⟩) vs.length cap0 0 → ValsAt W g 0 vs → g ≠ b → Calls Tryz.prog 103 #[.pointer (some ⟨b, 0, none⟩)] W fun e w' => ∃ lg cap, e = .returned (.agg #[.int .i64 5, .string { data := #[] }, .string { data := #[] }, .string { data := #[] }, .bool false, .int .i64 0, .int .i64 (n : Int), .int .i64 5, .slice (some ⟨lg, 0, none⟩) (n * 5) cap]) ∧ ValsAt w' lg 0 (numVals its) ∧ W.heap.size ≤ lg ∧ W.grownBy w' (some b)) (hv0 : 0 < vs.length) :
    Calls Tryz.prog 102 #[.slice (some ⟨g, 0, none⟩) vs.length cap0] w fun e w' => ∃ lg cap, e = .returned (.agg #[.int .i64 5, .string { data := #[] }, .string { data := #[] }, .string { data := #[] }, .bool false, .int .i64 0, .int .i64 (n : Int), .int .i64 5, .slice (some ⟨lg, 0, none⟩) (n * 5) cap]) ∧ ValsAt w' lg 0 (numVals its) ∧ w.heap.size ≤ lg ∧ Below w.heap.size w w' := by
  obtain ⟨hR, hB, hb⟩ := two_new w (.cells #[.int .i64 0, .string { data := #[] }, .string { data := #[] }, .string { data := #[] }, .bool false, .int .i64 0, .int .i64 0, .int .i64 0, .slice none 0 0] 30) (.cells #[.slice (some ⟨g, 0, none⟩) vs.length cap0, .int .i64 0] 118)
  have HR := Lib.hid hR
  have HL := Lib.hid hb
  have hgl : g < w.heap.size := cell_lt (hv.at 0 hv0).1
  have TF := Lib.hid (hF _ (w.heap.size + 1) hb (hE.below hb) (hE.e.past (Nat.le_succ _)) (by simp) (Nat.le_succ _) hB (hv.below hb) (by omega))
  clear hR hB hb hF hE hv hgl
  go_enter Tryz.func102, Tryz.ntmps102
  go_wp2_with fail
  refine TF.out.mono ?_
  rintro e W1 ⟨lg, cap, rfl, hva, hlg, hg⟩
  have HVA := Lib.hid hva
  have HLG := Lib.hid (show w.heap.size < lg by simp at hlg; omega)
  replace HR := Lib.hid (kept_block HR.out hg (by omega))
  have HG := Lib.hid (below_map HL.out (Nat.le_succ _) hg)
  clear hg hva hlg
  obtain ⟨⟨r0, r1, r2, r3, r4, r5, r6, r7, r8⟩, g0, g1, g2, g3, g4, g5, g6, g7, g8⟩ := nine_at HR.out
  obtain ⟨nb, z0, z1, z2, z3, z4, z5, z6, z7, z8⟩ := nine_end (x0 := (.int .i64 5)) (x1 := (.string { data := #[] })) (x2 := (.string { data := #[] })) (x3 := (.string { data := #[] })) (x4 := (.bool false)) (x5 := (.int .i64 0)) (x6 := (.int .i64 (n : Int))) (x7 := (.int .i64 5)) (x8 := (.slice (some ⟨lg, 0, none⟩) (n * 5) cap)) HR.out HG.out (Nat.le_refl _)
  have HVB := Lib.hid (vals_other HVA.out (set9_other W1 w.heap.size (.int .i64 5) (.string { data := #[] }) (.string { data := #[] }) (.string { data := #[] }) (.bool false) (.int .i64 0) (.int .i64 (n : Int)) (.int .i64 5) (.slice (some ⟨lg, 0, none⟩) (n * 5) cap) (show lg ≠ w.heap.size by have := HLG.out; omega)))
  have NB := Lib.hid nb
  clear nb
  go_wp2
  refine bodyPost_ret (v := .agg #[.int .i64 5, .string { data := #[] }, .string { data := #[] }, .string { data := #[] }, .bool false, .int .i64 0, .int .i64 (n : Int), .int .i64 5, .slice (some ⟨lg, 0, none⟩) (n * 5) cap]) (by simp [results, Tryz.results102, go_sem, z0, z1, z2, z3, z4, z5, z6, z7, z8]) rfl ⟨lg, cap, rfl, HVB.out, by have := HLG.out; omega, NB.out⟩
section
variable {a n v k : Nat} (h : Plan a n v k)
include h
/-- the numbers of the plan -/
def planL (a n v k : Nat) : List Rat := itsL (planA a n v k) (planI a n v k) (planC a n v k) (planW a n v k) n
omit h in
theorem planL_len : (planL a n v k).length = n * 5 := itsL_len _ _ _ _ n
theorem planL_fits : ∀ q ∈ planL a n v k, fits q = true := by
  intro q hq
  unfold planL itsL at hq
  obtain ⟨i, hi, hq⟩ := List.mem_flatMap.1 hq
  rw [List.mem_range] at hi
  have hn := h.n9
  unfold rowL at hq
  simp only [List.mem_cons, List.not_mem_nil, or_false] at hq
  rcases hq with rfl | rfl | rfl | rfl | rfl
  · exact fits_int _ (by omega)
  · exact (planA_sd h i (by omega)).fits (by decide) (by decide)
  · exact (planI_sd h i (by omega)).fits (by decide) (by decide)
  · exact (planC_sd h i (by omega)).fits (by decide) (by decide)
  · exact (planW_sd h i (by omega)).fits (by decide) (by decide)
theorem m_PLAN (ab ao C : Nat) (w : World) (hv : ValsAt w ab ao [numVal' ((v : Nat) : Rat), numVal' (mille a), numVal' ((n : Int) : Rat), numVal' ((k : Int) : Rat)]) (hE : EnvY w) :
    Calls Tryz.prog 8 #[.string { data := #[80, 76, 65, 78] }, .slice (some ⟨ab, ao, none⟩) 4 C] w fun e w' => ∃ lg cap, e = .returned (.agg #[.int .i64 5, .string { data := #[] }, .string { data := #[] }, .string { data := #[] }, .bool false, .int .i64 0, .int .i64 (n : Int), .int .i64 5, .slice (some ⟨lg, 0, none⟩) (n * 5) cap]) ∧ ValsAt w' lg 0 (numVals (planL a n v k)) ∧ w.heap.size ≤ lg ∧ n * 5 ≤ cap ∧ Below w.heap.size w w' := by
  have h1 := h.n1
  have h9 := h.n9
  have hk9 := h.k9
  exact math_tab { data := #[80, 76, 65, 78] } (.slice (some ⟨ab, ao, none⟩) 4 C) n 5 (n * 5) _ w ⟨_, _, _, rfl⟩ (fun W b hb hT =>
    run_s_tab 17 ⟨{ data := #[80, 76, 65, 78] }, 3, 4, { data := #[115] }, false, 102⟩ (by decide) rfl rfl (enters_of Tryz.func102 (by kernel_rfl) rfl) rfl (fr_of 17 (by decide) (by kernel_rfl)) [numVal' ((v : Nat) : Rat), numVal' (mille a), numVal' ((n : Int) : Rat), numVal' ((k : Int) : Rat)] b ab ao C n 5 (n * 5) _ h1 (by decide) (by omega) rfl planL_len (planL_fits h) W (show 0 < 4 by decide) (show 4 ≤ 300 by decide) (show (3 : Int) ≤ 4 by decide) (show (4 : Int) ≤ 4 by decide)
      (fun u hu => by
        simp only [List.mem_cons, List.not_mem_nil, or_false] at hu
        rcases hu with rfl | rfl | rfl | rfl <;> rfl)
      (hv.below hb) (hE.below hb).e hT
      (fun u hu W' h2 => by
        simp only [List.mem_cons, List.not_mem_nil, or_false] at hu
        have hE2 := ((hE.below hb).below h2).e
        rcases hu with rfl | rfl | rfl | rfl
        · exact check_num _ W' ((v_sd h).fits (by decide) (by decide)) hE2
        · exact check_num _ W' (g_rate h) hE2
        · exact check_num _ W' (fits_int _ (by omega)) hE2
        · exact check_num _ W' (fits_int _ (by omega)) hE2)
      (fun W' g cap hb' _ hva => plan_entry n g cap [numVal' ((v : Nat) : Rat), numVal' (mille a), numVal' ((n : Int) : Rat), numVal' ((k : Int) : Rat)] _ W' ((hE.below hb).below hb') hva (fun W'' b' hb'' hE'' hP hlt hge ha hva' hne =>
        plan_any h b' g cap W'' ha hva' hne hE'' hP) (show 0 < 4 by decide)))
end
end Go.Proofs.YtkbhlkinlcmgoaaGreatDoor.Num.Fy
