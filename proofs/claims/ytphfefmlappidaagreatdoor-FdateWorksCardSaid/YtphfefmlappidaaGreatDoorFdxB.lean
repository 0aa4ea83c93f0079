/- Numbers as texts of digits, fractions, values and the functions of fmath: contracts of the program's functions, joined from smaller texts. Conditions stand at each theorem. -/
import Derived.Test.YtphfefmlappidaaGreatDoorNumF
import Derived.Test.YtphfefmlappidaaGreatDoorFdcC
import Derived.Test.YtphfefmlappidaaGreatDoorFdxA
import Derived.Test.YtphfefmlappidaaGreatDoorNumH
import Derived.Below
import Derived.OneCell
import Derived.Lib.MinMax
import Derived.Deep.RegionLaw

/- package value: Lift at the kinds 'ssa' where no argument is lifted. Conditions: the tables lie as they are laid. -/
namespace Go.Proofs.YtphfefmlappidaaGreatDoor.Num
open Go.RowKit Go.Lib

set_option maxHeartbeats 1000000 in
theorem letter_ssa0 (i : Nat) (hi : i = 0) (w : World) : Calls Tryz.prog 199 #[.string { data := #[115, 115, 97] }, .int .i64 (i : Int)] w fun e w' => e = .returned (.int .u8 115) ∧ w' = w := by
  have hm : min (i : Int) 2 = 0 := by omega
  go_enter Tryz.func199, Tryz.ntmps199
  go_wp2
  go_ret
  exact ⟨by first | rfl | simp, rfl⟩

set_option maxHeartbeats 1000000 in
theorem letter_ssa1 (i : Nat) (hi : i = 1) (w : World) : Calls Tryz.prog 199 #[.string { data := #[115, 115, 97] }, .int .i64 (i : Int)] w fun e w' => e = .returned (.int .u8 115) ∧ w' = w := by
  have hm : min (i : Int) 2 = 1 := by omega
  go_enter Tryz.func199, Tryz.ntmps199
  go_wp2
  go_ret
  exact ⟨by first | rfl | simp, rfl⟩

set_option maxHeartbeats 1000000 in
theorem letter_ssa2 (i : Nat) (h0 : 2 ≤ i) (hi : i ≤ 1000000) (w : World) : Calls Tryz.prog 199 #[.string { data := #[115, 115, 97] }, .int .i64 (i : Int)] w fun e w' => e = .returned (.int .u8 97) ∧ w' = w := by
  have hm : min (i : Int) 2 = 2 := by omega
  go_enter Tryz.func199, Tryz.ntmps199
  go_wp2
  go_ret
  exact ⟨by first | rfl | simp, rfl⟩

set_option maxHeartbeats 8000000 in
set_option maxRecDepth 100000 in
theorem lift_ssa (vs : List Val) (ab ao C pb : Nat) (q : Val) (w : World) (h0 : 0 < vs.length) (h9 : vs.length ≤ 300) (hno0 : ∀ (h : 0 < vs.length), (vs[0].k == 5) = false) (hno1 : ∀ (h : 1 < vs.length), (vs[1].k == 5) = false) (hv : ValsAt w ab ao vs) (hE : Env w) (hq : q.A = none ∧ q.L = 0 ∧ q.C = 0)
    (hC : ∀ v ∈ vs, ∀ W, Below w.heap.size w W → Calls Tryz.prog 48 #[v.agg] W fun e w' => e = .returned (.int .i64 0) ∧ Below W.heap.size W w')
    (hO : ∀ W, Env W → Calls Tryz.prog 48 #[q.agg] W fun e w' => e = .returned (.int .i64 0) ∧ Below W.heap.size W w')
    (hF : ∀ W g cap, Below w.heap.size w W → ValsAt W g 0 vs → Calls Tryz.prog 78 #[.slice (some ⟨g, 0, none⟩) vs.length cap, .pointer (some ⟨pb, 0, none⟩)] W fun e w' => e = .returned q.agg ∧ Below W.heap.size W w') :
    Calls Tryz.prog 77 #[.string { data := #[115, 115, 97] }, .slice (some ⟨ab, ao, none⟩) vs.length C, .func (.func 78) #[] #[.pointer (some ⟨pb, 0, none⟩)]] w fun e w' => e = .returned (.tuple #[q.agg, .int .i64 0]) ∧ Below w.heap.size w w' := by
  obtain ⟨qk, qn, qd, qt, qon, qc, qr, qs, qA, qL, qC⟩ := q
  obtain ⟨rfl, rfl, rfl⟩ := hq
  have hb : Below w.heap.size w (w.alloc (.cells #[.int .i64 0, .string { data := #[] }, .string { data := #[] }, .string { data := #[] }, .bool false, .int .i64 0, .int .i64 0, .int .i64 0, .slice none 0 0] 30)) := (Below.refl _ _).alloc (Nat.le_refl _) _
  have HR := Lib.hid (heap_alloc_new w (.cells #[.int .i64 0, .string { data := #[] }, .string { data := #[] }, .string { data := #[] }, .bool false, .int .i64 0, .int .i64 0, .int .i64 0, .slice none 0 0] 30))
  have HV := Lib.hid (hv.below hb)
  have HE := Lib.hid (hE.below hb)
  have HL := Lib.hid hb
  have HC := Lib.hid hC
  have HO := Lib.hid (fun W g => valid_of qk qn qd qt qon qc qr qs none 0 0 W hO g)
  have HF := Lib.hid hF
  obtain ⟨L, hL⟩ : ∃ L, vs.length = L := ⟨_, rfl⟩
  have HLL := Lib.hid hL
  rw [hL] at h0 h9 HF ⊢
  have htr := fun W => Any.strings_Trim_laid Tryz.lays160 (by kernel_rfl) { data := #[115, 115, 97] } { data := #[115, 97] } W (by decide) (by decide) (ascii_of_all (by decide))
  rw [show Lib.trimS ({ data := #[115, 115, 97] } : ByteArray).data.toList ({ data := #[115, 97] } : ByteArray).data.toList = [] from by decide] at htr
  have HTR := Lib.hid htr
  have hem : ({ data := #[] } : ByteArray).toList.isEmpty = true := by rw [Lib.toList_data]; rfl
  obtain ⟨B, hB⟩ : ∃ B, w.heap.size = B := ⟨_, rfl⟩
  have HB := Lib.hid hB
  clear hb hv hE hC hO hF hL htr hB
  go_enter Tryz.func77, Tryz.ntmps77
  go_wp2_with fail
  refine (HTR.out _).mono ?_
  rintro e w1 ⟨rfl, hb⟩
  replace HR := Lib.hid (keep_block HR.out hb)
  replace HV := Lib.hid (HV.out.below hb)
  replace HE := Lib.hid (HE.out.below hb)
  replace HL := Lib.hid (HL.out.trans (hb.mono HL.out.size))
  clear hb
  have LI := Lib.hid (show LiftI w ab ao vs w1 from ⟨HR.out, HV.out, HE.out, HL.out⟩)
  clear HR HV HE HL
  go_wp2_with fail
  go_loopg [29] L (fun g v29 wx => ∃ i : Nat, v29 = .int .i64 (i : Int) ∧ i ≤ L ∧ g = L - i ∧ LiftI w ab ao vs wx)
  case atStart => exact ⟨0, rfl, Nat.zero_le _, rfl, LI.out⟩
  case round =>
    obtain ⟨i, rfl, hi, rfl, hli⟩ := hrel
    have HLI := Lib.hid hli
    clear hli LI
    by_cases hlt : i < L
    · have hd : decide ((i : Int) < (L : Int)) = true := decide_eq_true (by omega)
      have hd2 : decide (i < L) = true := decide_eq_true hlt
      have hii : i < vs.length := by rw [HLL.out]; exact hlt
      obtain ⟨c0, c1, c2, c3, c4, c5, c6, c7, c8⟩ := HLI.out.2.1.at i hii
      have hi0 : (0 : Int) ≤ (i : Int) := by omega
      have hi1 : (i : Int) < (L : Int) := by omega
      have TC := Lib.hid (HC.out vs[i] (List.getElem_mem hii))
      have HA := Lib.hid (HLI.out.2.2.2.trans ((Below.refl wr.heap.size wr).alloc (Nat.le_refl _) (.cells #[.int .i64 vs[i].k, .string vs[i].n, .string vs[i].d, .string vs[i].t, .bool vs[i].on, .int .i64 vs[i].c, .int .i64 vs[i].r, .int .i64 vs[i].s, .slice vs[i].A vs[i].L vs[i].C] 30) |>.mono HLI.out.2.2.2.size))
      go_wp2_with fail
      refine (TC.out _ HA.out).mono ?_
      rintro e w2 ⟨rfl, hb⟩
      have HLI2 := Lib.hid ((HLI.out.step ((Below.refl wr.heap.size wr).alloc (Nat.le_refl _) (.cells #[.int .i64 vs[i].k, .string vs[i].n, .string vs[i].d, .string vs[i].t, .bool vs[i].on, .int .i64 vs[i].c, .int .i64 vs[i].r, .int .i64 vs[i].s, .slice vs[i].A vs[i].L vs[i].C] 30))).step hb)
      clear hb c0 c1 c2 c3 c4 c5 c6 c7 c8
      go_wp2
      go_roundg (L - (i + 1))
      case measure => omega
      case rel => exact ⟨i + 1, by go_num, by omega, by omega, HLI2.out⟩
    · have hd : decide ((i : Int) < (L : Int)) = false := decide_eq_false (by omega)
      have hd2 : decide (i < L) = false := decide_eq_false hlt
      clear hlt
      go_wp2_with fail
      go_loopg [11, 12, 42] L (fun g v11 v12 v42 wx => ∃ i : Nat, v11 = .int .i64 0 ∧ v12 = .int .i64 0 ∧ v42 = .int .i64 (i : Int) ∧ i ≤ L ∧ g = L - i ∧ LiftI w ab ao vs wx)
      case atStart => exact ⟨0, rfl, rfl, rfl, Nat.zero_le _, rfl, HLI.out⟩
      case round =>
        clear HLI hd hd2 hi
        obtain ⟨i, rfl, rfl, rfl, hi, rfl, hli⟩ := hrel
        have HLI := Lib.hid hli
        clear hli
        by_cases hlt : i < L
        · have hd : decide ((i : Int) < (L : Int)) = true := decide_eq_true (by omega)
          have hd2 : decide (i < L) = true := decide_eq_true hlt
          have hii : i < vs.length := by rw [HLL.out]; exact hlt
          obtain ⟨c0, c1, c2, c3, c4, c5, c6, c7, c8⟩ := HLI.out.2.1.at i hii
          have hi0 : (0 : Int) ≤ (i : Int) := by omega
          have hi1 : (i : Int) < (L : Int) := by omega
          by_cases h0 : i = 0
          · skip
            have hkf : (vs[i].k == 5) = false := by subst h0; exact hno0 hii
            have hI := Lib.hid h0
            clear h0
            go_wp2_with fail
            refine (letter_ssa0 i hI.out _).mono ?_
            rintro e w2 ⟨rfl, rfl⟩
            have HLI2 := Lib.hid (HLI.out.step ((Below.refl wr.heap.size wr).alloc (Nat.le_refl _) (.cells #[.int .i64 vs[i].k, .string vs[i].n, .string vs[i].d, .string vs[i].t, .bool vs[i].on, .int .i64 vs[i].c, .int .i64 vs[i].r, .int .i64 vs[i].s, .slice vs[i].A vs[i].L vs[i].C] 30)))
            go_wp2
            go_roundg (L - (i + 1))
            case measure => omega
            case rel => exact ⟨i + 1, rfl, rfl, by go_num, by omega, by omega, HLI2.out⟩
          · skip
            by_cases h1 : i = 1
            · skip
              have hkf : (vs[i].k == 5) = false := by subst h1; exact hno1 hii
              have hI := Lib.hid h1
              clear h1
              go_wp2_with fail
              refine (letter_ssa1 i hI.out _).mono ?_
              rintro e w2 ⟨rfl, rfl⟩
              have HLI2 := Lib.hid (HLI.out.step ((Below.refl wr.heap.size wr).alloc (Nat.le_refl _) (.cells #[.int .i64 vs[i].k, .string vs[i].n, .string vs[i].d, .string vs[i].t, .bool vs[i].on, .int .i64 vs[i].c, .int .i64 vs[i].r, .int .i64 vs[i].s, .slice vs[i].A vs[i].L vs[i].C] 30)))
              go_wp2
              go_roundg (L - (i + 1))
              case measure => omega
              case rel => exact ⟨i + 1, rfl, rfl, by go_num, by omega, by omega, HLI2.out⟩
            · skip
              have hgt : 2 ≤ i := by omega
              skip
              go_wp2_with fail
              refine (letter_ssa2 i hgt (by omega) _).mono ?_
              rintro e w2 ⟨rfl, rfl⟩
              have HLI2 := Lib.hid (HLI.out.step ((Below.refl wr.heap.size wr).alloc (Nat.le_refl _) (.cells #[.int .i64 vs[i].k, .string vs[i].n, .string vs[i].d, .string vs[i].t, .bool vs[i].on, .int .i64 vs[i].c, .int .i64 vs[i].r, .int .i64 vs[i].s, .slice vs[i].A vs[i].L vs[i].C] 30)))
              go_wp2
              go_roundg (L - (i + 1))
              case measure => omega
              case rel => exact ⟨i + 1, rfl, rfl, by go_num, by omega, by omega, HLI2.out⟩
        · have hd : decide ((i : Int) < (L : Int)) = false := decide_eq_false (by omega)
          have hd2 : decide (i < L) = false := decide_eq_false hlt
          clear hlt
          obtain ⟨i0, hi0', hz0, hz1, hz2⟩ := info_val
          have hfl : (flat vs).length = L * 9 := by rw [flat_len, HLL.out]
          have hvals := HLI.out.2.1
          have hml : 0 + L ≤ maxLen := by unfold maxLen; omega
          clear hi
          go_wp2_with (at_builtin; refine wpList_append_own _ rfl _ _ 28 rfl w.heap.size 30 i0 _ 9 112 Tryz.underlying28 hi0' hz0 hz1 hz2 rfl (by decide) (.slice none 0 0) 0 [] rfl (World.ownsRow_nil _ _ _ _) ⟨ab, ao, none⟩ L C (flat vs) rfl hfl hvals (flat_one vs) hml (by omega) HLI.out.2.2.2.size ?_)
          intro v5 w5 hown5 hgrow5 _
          obtain ⟨g, cap, rfl, hg, hcap, hva⟩ := vals_of_owns hown5 HLL.out h0
          have HLI5 := Lib.hid (HLI.out.step (below_none hgrow5))
          have HVA := Lib.hid hva
          clear hown5 hgrow5 hg hcap hva hvals hfl hml hi0' hz0 hz1 hz2
          go_wp2_with fail
          refine (HF.out _ g cap HLI5.out.2.2.2 HVA.out).mono ?_
          rintro e w6 ⟨rfl, hb⟩
          have HLI6 := Lib.hid (HLI5.out.step hb)
          clear hb
          unfold Val.agg
          simp only []
          go_wp2_with fail
          refine (HO.out _ HLI6.out.2.2.1).mono ?_
          rintro e w7 ⟨rfl, hb⟩
          have HLI7 := Lib.hid (HLI6.out.step hb)
          clear hb
          have HLI8 := Lib.hid (HLI7.out.step ((Below.refl w7.heap.size w7).alloc (Nat.le_refl _) (.cells #[.int .i64 qk, .string qn, .string qd, .string qt, .bool qon, .int .i64 qc, .int .i64 qr, .int .i64 qs, .slice none 0 0] 30)))
          obtain ⟨⟨a0, a1, a2, a3, a4, a5, a6, a7, a8⟩, b0, b1, b2, b3, b4, b5, b6, b7, b8⟩ := nine_at HLI7.out.1
          obtain ⟨⟨r0, r1, r2, r3, r4, r5, r6, r7, r8⟩, g0, g1, g2, g3, g4, g5, g6, g7, g8⟩ := nine_at HLI8.out.1
          have hlt7 := heap_lt HLI7.out.1
          have HF1 := Lib.hid (set9_at HLI7.out.1 (.int .i64 qk) (.string qn) (.string qd) (.string qt) (.bool qon) (.int .i64 qc) (.int .i64 qr) (.int .i64 qs) (.slice none 0 0))
          have HF2 := Lib.hid ((Below.heap_alloc _ (.cells #[.int .i64 qk, .string qn, .string qd, .string qt, .bool qon, .int .i64 qc, .int .i64 qr, .int .i64 qs, .slice none 0 0] 30) _ (heap_lt HF1.out)).trans HF1.out)
          have HB2 := Lib.hid (nine_end (x0 := (.int .i64 qk)) (x1 := (.string qn)) (x2 := (.string qd)) (x3 := (.string qt)) (x4 := (.bool qon)) (x5 := (.int .i64 qc)) (x6 := (.int .i64 qr)) (x7 := (.int .i64 qs)) (x8 := (.slice none 0 0)) HLI7.out.1 HLI7.out.2.2.2 (Nat.le_refl _)).1
          have HZ2 := Lib.hid (HB2.out.alloc HB2.out.size (.cells #[.int .i64 qk, .string qn, .string qd, .string qt, .bool qon, .int .i64 qc, .int .i64 qr, .int .i64 qs, .slice none 0 0] 30))
          obtain ⟨⟨e0, e1, e2, e3, e4, e5, e6, e7, e8⟩, _⟩ := nine_at HF2.out
          go_wp2
          refine bodyPost_ret (v := .tuple #[.agg #[.int .i64 qk, .string qn, .string qd, .string qt, .bool qon, .int .i64 qc, .int .i64 qr, .int .i64 qs, .slice none 0 0], .int .i64 0]) (by simp [results, Tryz.results77, go_sem, e0, e1, e2, e3, e4, e5, e6, e7, e8]) rfl ⟨rfl, HZ2.out⟩
end Go.Proofs.YtphfefmlappidaaGreatDoor.Num

/- package value: Run at a row of fdate's table with the kinds 'ssa'. Conditions: the tables lie as they are laid. -/
namespace Go.Proofs.YtphfefmlappidaaGreatDoor.Num.Fd
open Go.RowKit Go.Lib Go.MapKept Num
attribute [local go_sem] run_store_func

set_option maxHeartbeats 8000000 in
set_option maxRecDepth 100000 in
theorem run_ssa_val (i : Nat) (r : Row) (hi : i < allRows.length) (hr : allRows[i] = r) (hkd : r.kinds = { data := #[115, 115, 97] }) (hfr : ∀ j (hj : j < i), (allRows[i].name == (allRows[j]'(by omega)).name) = false) (vs : List Val) (b ab ao C : Nat) (q : Val) (w : World) (h0 : 0 < vs.length) (h9 : vs.length ≤ 300) (hc1 : r.least ≤ vs.length) (hc2 : (vs.length : Int) ≤ r.most) (hno0 : ∀ (h : 0 < vs.length), (vs[0].k == 5) = false) (hno1 : ∀ (h : 1 < vs.length), (vs[1].k == 5) = false) (hv : ValsAt w ab ao vs) (hE : Env w) (hT : TableAt w b allRows) (hq : q.A = none ∧ q.L = 0 ∧ q.C = 0 ∧ q.r = 0 ∧ q.s = 0)
    (hO : ∀ W, Env W → Calls Tryz.prog 48 #[q.agg] W fun e w' => e = .returned (.int .i64 0) ∧ Below W.heap.size W w') 
    (hC : ∀ v ∈ vs, ∀ W, Below w.heap.size w W → Calls Tryz.prog 48 #[v.agg] W fun e w' => e = .returned (.int .i64 0) ∧ Below W.heap.size W w')
    (hK : ∀ W e g cap, Below w.heap.size w W → Env W → FnAt W e r → ValsAt W g 0 vs → Calls Tryz.prog 278 #[.slice (some ⟨g, 0, none⟩) vs.length cap, .pointer (some ⟨e, 0, none⟩)] W fun e w' => e = .returned q.agg ∧ Below W.heap.size W w') :
    Calls Tryz.prog 50 #[.map (some b), .string r.name, .slice (some ⟨ab, ao, none⟩) vs.length C] w fun e w' => e = .returned (.tuple #[(q).agg, .int .i64 0]) ∧ Below w.heap.size w w' := by
  have hb : Below w.heap.size w (w.alloc (.cells #[.int .i64 0, .string { data := #[] }, .string { data := #[] }, .string { data := #[] }, .bool false, .int .i64 0, .int .i64 0, .int .i64 0, .slice none 0 0] 30)) := (Below.refl _ _).alloc (Nat.le_refl _) _
  have HR := Lib.hid (heap_alloc_new w (.cells #[.int .i64 0, .string { data := #[] }, .string { data := #[] }, .string { data := #[] }, .bool false, .int .i64 0, .int .i64 0, .int .i64 0, .slice none 0 0] 30))
  obtain ⟨v, hrf, hrun⟩ := (hT.below hb).look i hi hfr Tryz.underlying79 Tryz.underlying9
  rw [hr] at hrf hrun
  obtain ⟨e0, rfl, hfn⟩ := rowFn_at hrf
  obtain ⟨name, least, most, kinds, num, F⟩ := r
  simp only at hkd hc1 hc2
  subst hkd
  simp only at hrun ⊢
  have HV := Lib.hid (hv.below hb)
  have HE := Lib.hid (hE.below hb)
  have HL := Lib.hid hb
  have HFN := Lib.hid hfn
  have d1 : decide ((vs.length : Int) < least) = false := decide_eq_false (by omega)
  have d2 : decide (most < (vs.length : Int)) = false := decide_eq_false (by omega)
  have hmf : ∀ (fn : Fn) (first cap : Array Value) (w : World), (Instr.makeFunc fn first cap).run Tryz.prog w = .ok (.func fn first cap) w := fun _ _ _ _ => rfl
  have hb : Below (w.alloc (.cells #[.int .i64 0, .string { data := #[] }, .string { data := #[] }, .string { data := #[] }, .bool false, .int .i64 0, .int .i64 0, .int .i64 0, .slice none 0 0] 30)).heap.size (w.alloc (.cells #[.int .i64 0, .string { data := #[] }, .string { data := #[] }, .string { data := #[] }, .bool false, .int .i64 0, .int .i64 0, .int .i64 0, .slice none 0 0] 30)) ((w.alloc (.cells #[.int .i64 0, .string { data := #[] }, .string { data := #[] }, .string { data := #[] }, .bool false, .int .i64 0, .int .i64 0, .int .i64 0, .slice none 0 0] 30)).alloc (.cells #[.int .i64 least, .int .i64 most, .string { data := #[115, 115, 97] }, .func (.func 278) #[] #[.pointer (some ⟨e0, 0, none⟩)]] 109)) := (Below.refl _ _).alloc (Nat.le_refl _) _
  have HX := Lib.hid (Lib.cell_of_heap (heap_alloc_new (w.alloc (.cells #[.int .i64 0, .string { data := #[] }, .string { data := #[] }, .string { data := #[] }, .bool false, .int .i64 0, .int .i64 0, .int .i64 0, .slice none 0 0] 30)) (.cells #[.int .i64 least, .int .i64 most, .string { data := #[115, 115, 97] }, .func (.func 278) #[] #[.pointer (some ⟨e0, 0, none⟩)]] 109)) 3)
  replace HR := Lib.hid (keep_block HR.out hb)
  replace HV := Lib.hid (HV.out.below hb)
  replace HE := Lib.hid (HE.out.below hb)
  replace HL := Lib.hid (HL.out.trans (hb.mono HL.out.size))
  replace HFN := Lib.hid (HFN.out.below hb)
  have hpos : (w.alloc (.cells #[.int .i64 0, .string { data := #[] }, .string { data := #[] }, .string { data := #[] }, .bool false, .int .i64 0, .int .i64 0, .int .i64 0, .slice none 0 0] 30)).heap.size = w.heap.size + 1 := by simp
  rw [hpos] at HX
  have TL := Lib.hid (lift_ssa vs ab ao C (w.heap.size + 1) (q) ((w.alloc (.cells #[.int .i64 0, .string { data := #[] }, .string { data := #[] }, .string { data := #[] }, .bool false, .int .i64 0, .int .i64 0, .int .i64 0, .slice none 0 0] 30)).alloc (.cells #[.int .i64 least, .int .i64 most, .string { data := #[115, 115, 97] }, .func (.func 278) #[] #[.pointer (some ⟨e0, 0, none⟩)]] 109)) h0 h9 hno0 hno1 HV.out HE.out ⟨hq.1, hq.2.1, hq.2.2.1⟩
    (fun v hv W h => hC v hv W (HL.out.trans (h.mono HL.out.size))) (hO)
    (fun W g cap hbw hva => by
      have h := run1_value (w.heap.size + 1) 0 e0 (.slice (some ⟨g, 0, none⟩) vs.length cap) q.k q.n q.d q.t q.on q.c q.A q.L q.C W ⟨_, _, _, rfl⟩ (cell_below HX.out hbw) (HE.out.below hbw) (fun W' hb' => by
        have h2 := hK W' e0 g cap (HL.out.trans ((hbw.trans (hb'.mono hbw.size)).mono HL.out.size)) (HE.out.below (hbw.trans (hb'.mono hbw.size))) (HFN.out.below (hbw.trans (hb'.mono hbw.size))) (hva.below hb')
        unfold Val.agg at h2
        rw [hq.2.2.2.1, hq.2.2.2.2] at h2
        exact h2)
      unfold Val.agg
      rw [hq.2.2.2.1, hq.2.2.2.2]
      exact h))
  obtain ⟨qq, hqq⟩ : ∃ z, (q) = z := ⟨_, rfl⟩
  rw [hqq] at TL ⊢
  clear hqq hb hv hE hT hC hK hrf hfn hpos hfr hr hi h0 h9 hc1 hc2
  go_enter Tryz.func50, Tryz.ntmps50
  unfold Val.agg at TL ⊢
  go_wp2_with fail
  refine TL.out.mono ?_
  rintro e w2 ⟨rfl, hb2⟩
  replace HR := Lib.hid (keep_block HR.out hb2)
  replace HL := Lib.hid (HL.out.trans (hb2.mono HL.out.size))
  clear hb2
  obtain ⟨⟨r0, r1, r2, r3, r4, r5, r6, r7, r8⟩, g0, g1, g2, g3, g4, g5, g6, g7, g8⟩ := nine_at HR.out
  obtain ⟨nb, z0, z1, z2, z3, z4, z5, z6, z7, z8⟩ := nine_end (x0 := (.int .i64 qq.k)) (x1 := (.string qq.n)) (x2 := (.string qq.d)) (x3 := (.string qq.t)) (x4 := (.bool qq.on)) (x5 := (.int .i64 qq.c)) (x6 := (.int .i64 qq.r)) (x7 := (.int .i64 qq.s)) (x8 := (.slice qq.A qq.L qq.C)) HR.out HL.out (Nat.le_refl _)
  go_wp2
  refine bodyPost_ret (v := .tuple #[.agg #[.int .i64 qq.k, .string qq.n, .string qq.d, .string qq.t, .bool qq.on, .int .i64 qq.c, .int .i64 qq.r, .int .i64 qq.s, .slice qq.A qq.L qq.C], .int .i64 0]) (by simp [results, Tryz.results50, go_sem, z0, z1, z2, z3, z4, z5, z6, z7, z8]) rfl ⟨rfl, nb⟩

set_option maxHeartbeats 8000000 in
set_option maxRecDepth 100000 in
theorem run_ssa_stop (i : Nat) (r : Row) (hi : i < allRows.length) (hr : allRows[i] = r) (hkd : r.kinds = { data := #[115, 115, 97] }) (hfr : ∀ j (hj : j < i), (allRows[i].name == (allRows[j]'(by omega)).name) = false) (vs : List Val) (b ab ao C : Nat) (c : Int) (w : World) (h0 : 0 < vs.length) (h9 : vs.length ≤ 300) (hc1 : r.least ≤ vs.length) (hc2 : (vs.length : Int) ≤ r.most) (hno0 : ∀ (h : 0 < vs.length), (vs[0].k == 5) = false) (hno1 : ∀ (h : 1 < vs.length), (vs[1].k == 5) = false) (hv : ValsAt w ab ao vs) (hE : Env w) (hT : TableAt w b allRows) (h1 : 1 ≤ c) (h2 : c ≤ 8) 
    (hC : ∀ v ∈ vs, ∀ W, Below w.heap.size w W → Calls Tryz.prog 48 #[v.agg] W fun e w' => e = .returned (.int .i64 0) ∧ Below W.heap.size W w')
    (hK : ∀ W e g cap, Below w.heap.size w W → Env W → FnAt W e r → ValsAt W g 0 vs → Calls Tryz.prog 278 #[.slice (some ⟨g, 0, none⟩) vs.length cap, .pointer (some ⟨e, 0, none⟩)] W fun e w' => e = stopped c ∧ Below W.heap.size W w') :
    Calls Tryz.prog 50 #[.map (some b), .string r.name, .slice (some ⟨ab, ao, none⟩) vs.length C] w fun e w' => e = .returned (.tuple #[(faultVal' c).agg, .int .i64 0]) ∧ Below w.heap.size w w' := by
  have hb : Below w.heap.size w (w.alloc (.cells #[.int .i64 0, .string { data := #[] }, .string { data := #[] }, .string { data := #[] }, .bool false, .int .i64 0, .int .i64 0, .int .i64 0, .slice none 0 0] 30)) := (Below.refl _ _).alloc (Nat.le_refl _) _
  have HR := Lib.hid (heap_alloc_new w (.cells #[.int .i64 0, .string { data := #[] }, .string { data := #[] }, .string { data := #[] }, .bool false, .int .i64 0, .int .i64 0, .int .i64 0, .slice none 0 0] 30))
  obtain ⟨v, hrf, hrun⟩ := (hT.below hb).look i hi hfr Tryz.underlying79 Tryz.underlying9
  rw [hr] at hrf hrun
  obtain ⟨e0, rfl, hfn⟩ := rowFn_at hrf
  obtain ⟨name, least, most, kinds, num, F⟩ := r
  simp only at hkd hc1 hc2
  subst hkd
  simp only at hrun ⊢
  have HV := Lib.hid (hv.below hb)
  have HE := Lib.hid (hE.below hb)
  have HL := Lib.hid hb
  have HFN := Lib.hid hfn
  have d1 : decide ((vs.length : Int) < least) = false := decide_eq_false (by omega)
  have d2 : decide (most < (vs.length : Int)) = false := decide_eq_false (by omega)
  have hmf : ∀ (fn : Fn) (first cap : Array Value) (w : World), (Instr.makeFunc fn first cap).run Tryz.prog w = .ok (.func fn first cap) w := fun _ _ _ _ => rfl
  have hb : Below (w.alloc (.cells #[.int .i64 0, .string { data := #[] }, .string { data := #[] }, .string { data := #[] }, .bool false, .int .i64 0, .int .i64 0, .int .i64 0, .slice none 0 0] 30)).heap.size (w.alloc (.cells #[.int .i64 0, .string { data := #[] }, .string { data := #[] }, .string { data := #[] }, .bool false, .int .i64 0, .int .i64 0, .int .i64 0, .slice none 0 0] 30)) ((w.alloc (.cells #[.int .i64 0, .string { data := #[] }, .string { data := #[] }, .string { data := #[] }, .bool false, .int .i64 0, .int .i64 0, .int .i64 0, .slice none 0 0] 30)).alloc (.cells #[.int .i64 least, .int .i64 most, .string { data := #[115, 115, 97] }, .func (.func 278) #[] #[.pointer (some ⟨e0, 0, none⟩)]] 109)) := (Below.refl _ _).alloc (Nat.le_refl _) _
  have HX := Lib.hid (Lib.cell_of_heap (heap_alloc_new (w.alloc (.cells #[.int .i64 0, .string { data := #[] }, .string { data := #[] }, .string { data := #[] }, .bool false, .int .i64 0, .int .i64 0, .int .i64 0, .slice none 0 0] 30)) (.cells #[.int .i64 least, .int .i64 most, .string { data := #[115, 115, 97] }, .func (.func 278) #[] #[.pointer (some ⟨e0, 0, none⟩)]] 109)) 3)
  replace HR := Lib.hid (keep_block HR.out hb)
  replace HV := Lib.hid (HV.out.below hb)
  replace HE := Lib.hid (HE.out.below hb)
  replace HL := Lib.hid (HL.out.trans (hb.mono HL.out.size))
  replace HFN := Lib.hid (HFN.out.below hb)
  have hpos : (w.alloc (.cells #[.int .i64 0, .string { data := #[] }, .string { data := #[] }, .string { data := #[] }, .bool false, .int .i64 0, .int .i64 0, .int .i64 0, .slice none 0 0] 30)).heap.size = w.heap.size + 1 := by simp
  rw [hpos] at HX
  have TL := Lib.hid (lift_ssa vs ab ao C (w.heap.size + 1) (faultVal' c) ((w.alloc (.cells #[.int .i64 0, .string { data := #[] }, .string { data := #[] }, .string { data := #[] }, .bool false, .int .i64 0, .int .i64 0, .int .i64 0, .slice none 0 0] 30)).alloc (.cells #[.int .i64 least, .int .i64 most, .string { data := #[115, 115, 97] }, .func (.func 278) #[] #[.pointer (some ⟨e0, 0, none⟩)]] 109)) h0 h9 hno0 hno1 HV.out HE.out ⟨rfl, rfl, rfl⟩
    (fun v hv W h => hC v hv W (HL.out.trans (h.mono HL.out.size))) (fun W g => check_fault c W h1 h2 g)
    (fun W g cap hbw hva => run1_stop (w.heap.size + 1) e0 (.slice (some ⟨g, 0, none⟩) vs.length cap) c W ⟨_, _, _, rfl⟩ h1 h2 (cell_below HX.out hbw) (HE.out.below hbw) (fun W' hb' => hK W' e0 g cap (HL.out.trans ((hbw.trans (hb'.mono hbw.size)).mono HL.out.size)) (HE.out.below (hbw.trans (hb'.mono hbw.size))) (HFN.out.below (hbw.trans (hb'.mono hbw.size))) (hva.below hb'))))
  obtain ⟨qq, hqq⟩ : ∃ z, (faultVal' c) = z := ⟨_, rfl⟩
  rw [hqq] at TL ⊢
  clear hqq hb hv hE hT hC hK hrf hfn hpos hfr hr hi h0 h9 hc1 hc2
  go_enter Tryz.func50, Tryz.ntmps50
  unfold Val.agg at TL ⊢
  go_wp2_with fail
  refine TL.out.mono ?_
  rintro e w2 ⟨rfl, hb2⟩
  replace HR := Lib.hid (keep_block HR.out hb2)
  replace HL := Lib.hid (HL.out.trans (hb2.mono HL.out.size))
  clear hb2
  obtain ⟨⟨r0, r1, r2, r3, r4, r5, r6, r7, r8⟩, g0, g1, g2, g3, g4, g5, g6, g7, g8⟩ := nine_at HR.out
  obtain ⟨nb, z0, z1, z2, z3, z4, z5, z6, z7, z8⟩ := nine_end (x0 := (.int .i64 qq.k)) (x1 := (.string qq.n)) (x2 := (.string qq.d)) (x3 := (.string qq.t)) (x4 := (.bool qq.on)) (x5 := (.int .i64 qq.c)) (x6 := (.int .i64 qq.r)) (x7 := (.int .i64 qq.s)) (x8 := (.slice qq.A qq.L qq.C)) HR.out HL.out (Nat.le_refl _)
  go_wp2
  refine bodyPost_ret (v := .tuple #[.agg #[.int .i64 qq.k, .string qq.n, .string qq.d, .string qq.t, .bool qq.on, .int .i64 qq.c, .int .i64 qq.r, .int .i64 qq.s, .slice qq.A qq.L qq.C], .int .i64 0]) (by simp [results, Tryz.results50, go_sem, z0, z1, z2, z3, z4, z5, z6, z7, z8]) rfl ⟨rfl, nb⟩
end Go.Proofs.YtphfefmlappidaaGreatDoor.Num.Fd

/- the law's call of fdate at a function of any values with a whole result. Conditions: the tables lie as they are laid. -/
namespace Go.Proofs.YtphfefmlappidaaGreatDoor.Num.Fd
open Go.RowKit Go.Lib Go.MapKept Num

theorem call_wv (i : Nat) (r : Row) (hi : i < allRows.length) (hr : allRows[i] = r) (hkd : r.kinds = { data := #[115] }) (hfr : ∀ j (hj : j < i), (allRows[i].name == (allRows[j]'(by omega)).name) = false) (hnum : r.num = true) (eF : ∀ args w, (callFunc r.fn args).run Tryz.prog w = .ok (.enter r.fn args) w) (vs : List Val) (ab ao C : Nat) (n : Int) (w : World) (h0 : 0 < vs.length) (h9 : vs.length ≤ 300) (hc1 : r.least ≤ vs.length) (hc2 : (vs.length : Int) ≤ r.most) (hno : ∀ v ∈ vs, (v.k == 5) = false) (hv : ValsAt w ab ao vs) (hE : Env w) (hck : ∀ v ∈ vs, ∀ W, Below w.heap.size w W → Calls Tryz.prog 48 #[v.agg] W fun e w' => e = .returned (.int .i64 0) ∧ Below W.heap.size W w') (hn : n.natAbs ≤ 1000000000000000000)
    (hF : ∀ W b g cap, Below w.heap.size w W → Env W → Past b → b < W.heap.size → g < W.heap.size → ArgsAt W b (some ⟨g, 0, none⟩) vs.length cap 0 → ValsAt W g 0 vs → g ≠ b → Calls Tryz.prog r.fn #[.pointer (some ⟨b, 0, none⟩)] W fun e w' => e = .returned (.int .i64 n) ∧ W.grownBy w' (some b)) :
    Calls Tryz.prog 20 #[.string r.name, .slice (some ⟨ab, ao, none⟩) vs.length C] w fun e w' => e = .returned (numVal (n : Rat)) ∧ Below w.heap.size w w' :=
  math_of r.name (.slice (some ⟨ab, ao, none⟩) vs.length C) (numVal' (n : Rat)) w ⟨_, _, _, rfl⟩ (fun W b hb hT =>
    run_s_val i r hi hr hkd hfr vs b ab ao C (numVal' (n : Rat)) W h0 h9 hc1 hc2 hno (hv.below hb) (hE.below hb) hT ⟨rfl, rfl, rfl, rfl, rfl⟩ (fun W g => check_num (n : Rat) W (fits_int n hn) g)
      (fun v hv' W' h => hck v hv' W' (hb.trans (h.mono hb.size)))
      (fun W' e g cap hb' hE' hfn hva => entryw_val r g cap e vs n W' hnum hfn eF hE' hva hn (fun W'' b' hb'' hE'' hP hlt ha hva' hne => hF W'' b' g cap (hb.trans ((hb'.trans (hb''.mono hb'.size)).mono hb.size)) hE'' hP hlt (cell_lt (hva'.at 0 h0).1) ha hva' hne) h0))

theorem call_wssa (i : Nat) (r : Row) (hi : i < allRows.length) (hr : allRows[i] = r) (hkd : r.kinds = { data := #[115, 115, 97] }) (hfr : ∀ j (hj : j < i), (allRows[i].name == (allRows[j]'(by omega)).name) = false) (hnum : r.num = true) (eF : ∀ args w, (callFunc r.fn args).run Tryz.prog w = .ok (.enter r.fn args) w) (vs : List Val) (ab ao C : Nat) (n : Int) (w : World) (h0 : 0 < vs.length) (h9 : vs.length ≤ 300) (hc1 : r.least ≤ vs.length) (hc2 : (vs.length : Int) ≤ r.most) (hno0 : ∀ (h : 0 < vs.length), (vs[0].k == 5) = false) (hno1 : ∀ (h : 1 < vs.length), (vs[1].k == 5) = false) (hv : ValsAt w ab ao vs) (hE : Env w) (hck : ∀ v ∈ vs, ∀ W, Below w.heap.size w W → Calls Tryz.prog 48 #[v.agg] W fun e w' => e = .returned (.int .i64 0) ∧ Below W.heap.size W w') (hn : n.natAbs ≤ 1000000000000000000)
    (hF : ∀ W b g cap, Below w.heap.size w W → Env W → Past b → b < W.heap.size → g < W.heap.size → ArgsAt W b (some ⟨g, 0, none⟩) vs.length cap 0 → ValsAt W g 0 vs → g ≠ b → Calls Tryz.prog r.fn #[.pointer (some ⟨b, 0, none⟩)] W fun e w' => e = .returned (.int .i64 n) ∧ W.grownBy w' (some b)) :
    Calls Tryz.prog 20 #[.string r.name, .slice (some ⟨ab, ao, none⟩) vs.length C] w fun e w' => e = .returned (numVal (n : Rat)) ∧ Below w.heap.size w w' :=
  math_of r.name (.slice (some ⟨ab, ao, none⟩) vs.length C) (numVal' (n : Rat)) w ⟨_, _, _, rfl⟩ (fun W b hb hT =>
    run_ssa_val i r hi hr hkd hfr vs b ab ao C (numVal' (n : Rat)) W h0 h9 hc1 hc2 hno0 hno1 (hv.below hb) (hE.below hb) hT ⟨rfl, rfl, rfl, rfl, rfl⟩ (fun W g => check_num (n : Rat) W (fits_int n hn) g)
      (fun v hv' W' h => hck v hv' W' (hb.trans (h.mono hb.size)))
      (fun W' e g cap hb' hE' hfn hva => entryw_val r g cap e vs n W' hnum hfn eF hE' hva hn (fun W'' b' hb'' hE'' hP hlt ha hva' hne => hF W'' b' g cap (hb.trans ((hb'.trans (hb''.mono hb'.size)).mono hb.size)) hE'' hP hlt (cell_lt (hva'.at 0 h0).1) ha hva' hne) h0))
end Go.Proofs.YtphfefmlappidaaGreatDoor.Num.Fd

/- the law's date at WORKDAY, NETWORKDAYS with a row of holidays. Conditions: the tables lie as they are laid. -/
namespace Go.Proofs.YtphfefmlappidaaGreatDoor.Num.Fd
open Go.RowKit Go.Lib Go.MapKept Num

/-- the days of a row as numbers -/
def days (ms : List Int) : List Rat := ms.map fun m => ((m : Int) : Rat)
theorem args_ne {W : World} {b gi L C n : Nat} {A : Option Addr} {qs : List Rat} (h : ArgsAt W b A L C n) (hv : ValsAt W gi 0 (numVals qs)) (h0 : 0 < qs.length) : gi ≠ b := by
  rintro rfl
  have h1 := (item_at hv 0 h0 _ rfl).1
  have h2 := Lib.cell_of_heap h 0
  rw [Nat.zero_mul] at h1
  rw [h1] at h2
  exact absurd h2 (by intro e; injection e with e; exact Value.noConfusion e)
theorem days_len (ms : List Int) : (days ms).length = ms.length := List.length_map ..
theorem check_days (ms : List Int) (g C : Nat) (w : World) (h0 : 0 < ms.length) (h9 : ms.length ≤ 1000) (hms : ∀ m ∈ ms, 1 ≤ m ∧ m ≤ 2958464) (hv : ValsAt w g 0 (numVals (days ms))) (hE : Env w) :
    Calls Tryz.prog 48 #[(arrVal' 1 (ms.length : Int) g ms.length C).agg] w fun e w' => e = .returned (.int .i64 0) ∧ Below w.heap.size w w' := by
  have h := check_arr (days ms) 1 (ms.length : Int) g C w (by decide) (by decide) (by omega) (by omega) (by rw [days_len]; omega) (by
    intro q hq
    obtain ⟨m, hm, rfl⟩ := List.mem_map.1 hq
    have := hms m hm
    exact fits_int m (by omega)) (by rw [days_len]; exact h9) hv hE
  rw [days_len] at h
  exact h
theorem count_bounds (ms : List Int) (n : Int) (h0 : 0 ≤ n) (h1 : n ≤ 10000000) : 0 ≤ countR (holsR ms) n ∧ countR (holsR ms) n ≤ 10000000 := by
  have a := count_nonneg (hols_free ms) h0
  have b := count_le (l := holsR ms) n
  have c := weekdaysR_bounds n h0 h1
  omega

theorem d_WORKDAY (ab ao C : Nat) (w : World) (q0 q1 : Rat) (p q : Int) (gi Ci : Nat) (ms : List Int) (d : Int) (hq : 1 ≤ q) (hq9 : q ≤ 1000) (h1 : 1 ≤ p) (h2 : p ≤ 200000) (hd0 : 1 ≤ d) (hd1 : d ≤ 2958464) (hw1 : countR (holsR ms) p + q ≤ countR (holsR ms) d) (hw2 : countR (holsR ms) (d - 1) < countR (holsR ms) p + q) (hq0 : fits q0 = true) (hN0 : q0.floor = p) (hq1 : fits q1 = true) (hN1 : q1.floor = q) (h0 : 0 < ms.length) (h9 : ms.length ≤ 1000) (hms : ∀ m ∈ ms, 1 ≤ m ∧ m ≤ 2958464) (hav : ValsAt w gi 0 (numVals (days ms))) (hv : ValsAt w ab ao [numVal' q0, numVal' q1, arrVal' 1 (ms.length : Int) gi ms.length Ci]) (hE : Env w) :
    Calls Tryz.prog 20 #[.string { data := #[87, 79, 82, 75, 68, 65, 89] }, .slice (some ⟨ab, ao, none⟩) 3 C] w fun e w' => e = .returned (numVal ((d : Int) : Rat)) ∧ Below w.heap.size w w' :=
  call_wssa 18 ⟨{ data := #[87, 79, 82, 75, 68, 65, 89] }, 2, 3, { data := #[115, 115, 97] }, true, 180⟩ (by decide) rfl rfl (fr_of 18 (by decide) (by kernel_rfl)) rfl (enters_of Tryz.func180 (by kernel_rfl) rfl) [numVal' q0, numVal' q1, arrVal' 1 (ms.length : Int) gi ms.length Ci] ab ao C (d) w (show 0 < 3 from by decide) (show 3 ≤ 300 from by decide) (show (2 : Int) ≤ 3 from by decide) (show (3 : Int) ≤ 3 from by decide)
    (fun _ => rfl) (fun _ => rfl) hv hE
    (by
      intro v hv W hb
      simp only [List.mem_cons, List.not_mem_nil, or_false] at hv
      rcases hv with rfl | rfl | rfl
      · exact check_num q0 W hq0 (hE.below hb)
      · exact check_num q1 W hq1 (hE.below hb)
      · exact check_days ms gi Ci W h0 h9 hms (hav.below hb) (hE.below hb))
    (by omega)
    (fun W b g cap hb hE' hP hlt hgl ha hva hne => fd_WORKDAY b g cap W q0 q1 p q 1 (ms.length : Int) gi Ci ms hq0 hN0 hq1 hN1 (args_ne ha (hav.below hb) (by rw [days_len]; exact h0)) h0 h9 hms (hav.below hb) ha hne (vals_num hva 0 (show 0 < 3 by decide) q0 rfl) (vals_num hva 1 (show 1 < 3 by decide) q1 rfl) (hva.at 2 (show 2 < 3 by decide)) hE' hP d hq hq9 h1 h2 hd0 hd1 hw1 hw2)

theorem d_NETUP (ab ao C : Nat) (w : World) (q0 q1 : Rat) (p q : Int) (gi Ci : Nat) (ms : List Int) (hpq : p ≤ q) (h1 : 1 ≤ p) (h2 : q ≤ 2958464) (hq0 : fits q0 = true) (hN0 : q0.floor = p) (hq1 : fits q1 = true) (hN1 : q1.floor = q) (h0 : 0 < ms.length) (h9 : ms.length ≤ 1000) (hms : ∀ m ∈ ms, 1 ≤ m ∧ m ≤ 2958464) (hav : ValsAt w gi 0 (numVals (days ms))) (hv : ValsAt w ab ao [numVal' q0, numVal' q1, arrVal' 1 (ms.length : Int) gi ms.length Ci]) (hE : Env w) :
    Calls Tryz.prog 20 #[.string { data := #[78, 69, 84, 87, 79, 82, 75, 68, 65, 89, 83] }, .slice (some ⟨ab, ao, none⟩) 3 C] w fun e w' => e = .returned (numVal ((((countR (holsR ms) q - countR (holsR ms) (p - 1))) : Int) : Rat)) ∧ Below w.heap.size w w' :=
  call_wssa 17 ⟨{ data := #[78, 69, 84, 87, 79, 82, 75, 68, 65, 89, 83] }, 2, 3, { data := #[115, 115, 97] }, true, 179⟩ (by decide) rfl rfl (fr_of 17 (by decide) (by kernel_rfl)) rfl (enters_of Tryz.func179 (by kernel_rfl) rfl) [numVal' q0, numVal' q1, arrVal' 1 (ms.length : Int) gi ms.length Ci] ab ao C (((countR (holsR ms) q - countR (holsR ms) (p - 1)))) w (show 0 < 3 from by decide) (show 3 ≤ 300 from by decide) (show (2 : Int) ≤ 3 from by decide) (show (3 : Int) ≤ 3 from by decide)
    (fun _ => rfl) (fun _ => rfl) hv hE
    (by
      intro v hv W hb
      simp only [List.mem_cons, List.not_mem_nil, or_false] at hv
      rcases hv with rfl | rfl | rfl
      · exact check_num q0 W hq0 (hE.below hb)
      · exact check_num q1 W hq1 (hE.below hb)
      · exact check_days ms gi Ci W h0 h9 hms (hav.below hb) (hE.below hb))
    (by have a := count_bounds ms q (by omega) (by omega); have b := count_bounds ms (p - 1) (by omega) (by omega); omega)
    (fun W b g cap hb hE' hP hlt hgl ha hva hne => fd_NETUP b g cap W q0 q1 p q 1 (ms.length : Int) gi Ci ms hq0 hN0 hq1 hN1 (args_ne ha (hav.below hb) (by rw [days_len]; exact h0)) h0 h9 hms (hav.below hb) ha hne (vals_num hva 0 (show 0 < 3 by decide) q0 rfl) (vals_num hva 1 (show 1 < 3 by decide) q1 rfl) (hva.at 2 (show 2 < 3 by decide)) hE' hP hpq h1 h2)

theorem d_NETDOWN (ab ao C : Nat) (w : World) (q0 q1 : Rat) (p q : Int) (gi Ci : Nat) (ms : List Int) (hpq : q < p) (h1 : 1 ≤ q) (h2 : p ≤ 2958464) (hq0 : fits q0 = true) (hN0 : q0.floor = p) (hq1 : fits q1 = true) (hN1 : q1.floor = q) (h0 : 0 < ms.length) (h9 : ms.length ≤ 1000) (hms : ∀ m ∈ ms, 1 ≤ m ∧ m ≤ 2958464) (hav : ValsAt w gi 0 (numVals (days ms))) (hv : ValsAt w ab ao [numVal' q0, numVal' q1, arrVal' 1 (ms.length : Int) gi ms.length Ci]) (hE : Env w) :
    Calls Tryz.prog 20 #[.string { data := #[78, 69, 84, 87, 79, 82, 75, 68, 65, 89, 83] }, .slice (some ⟨ab, ao, none⟩) 3 C] w fun e w' => e = .returned (numVal (((-(countR (holsR ms) p - countR (holsR ms) (q - 1))) : Int) : Rat)) ∧ Below w.heap.size w w' :=
  call_wssa 17 ⟨{ data := #[78, 69, 84, 87, 79, 82, 75, 68, 65, 89, 83] }, 2, 3, { data := #[115, 115, 97] }, true, 179⟩ (by decide) rfl rfl (fr_of 17 (by decide) (by kernel_rfl)) rfl (enters_of Tryz.func179 (by kernel_rfl) rfl) [numVal' q0, numVal' q1, arrVal' 1 (ms.length : Int) gi ms.length Ci] ab ao C ((-(countR (holsR ms) p - countR (holsR ms) (q - 1)))) w (show 0 < 3 from by decide) (show 3 ≤ 300 from by decide) (show (2 : Int) ≤ 3 from by decide) (show (3 : Int) ≤ 3 from by decide)
    (fun _ => rfl) (fun _ => rfl) hv hE
    (by
      intro v hv W hb
      simp only [List.mem_cons, List.not_mem_nil, or_false] at hv
      rcases hv with rfl | rfl | rfl
      · exact check_num q0 W hq0 (hE.below hb)
      · exact check_num q1 W hq1 (hE.below hb)
      · exact check_days ms gi Ci W h0 h9 hms (hav.below hb) (hE.below hb))
    (by have a := count_bounds ms p (by omega) (by omega); have b := count_bounds ms (q - 1) (by omega) (by omega); omega)
    (fun W b g cap hb hE' hP hlt hgl ha hva hne => fd_NETDOWN b g cap W q0 q1 p q 1 (ms.length : Int) gi Ci ms hq0 hN0 hq1 hN1 (args_ne ha (hav.below hb) (by rw [days_len]; exact h0)) h0 h9 hms (hav.below hb) ha hne (vals_num hva 0 (show 0 < 3 by decide) q0 rfl) (vals_num hva 1 (show 1 < 3 by decide) q1 rfl) (hva.at 2 (show 2 < 3 by decide)) hE' hP hpq h1 h2)
end Go.Proofs.YtphfefmlappidaaGreatDoor.Num.Fd

/- The working day after some working days: it exists, and what the counts say of it. Plain: no program. -/
namespace Go.Proofs.YtphfefmlappidaaGreatDoor.Num

theorem work_exists {l : List Int} (h9 : l.length ≤ 30) {n k : Int} (h0 : 1 ≤ n) (hn : n ≤ 120000) (hk0 : 1 ≤ k) (hk : k ≤ 100) :
    ∃ d, n < d ∧ d ≤ 200000 ∧ countR l n + k ≤ countR l d ∧ countR l (d - 1) < countR l n + k := by
  have hbig : countR l n + k ≤ countR l 200000 := by
    have h1 := count_le (l := l) n
    have h2 := count_ge (l := l) 200000
    have h3 : weekdaysR 200000 = 142858 := by decide
    have h4 : weekdaysR n ≤ 5 * n / 7 + 5 := by unfold weekdaysR; omega
    omega
  have key : ∀ t : Nat, countR l n + k ≤ countR l (n + t) → ∃ d, n < d ∧ d ≤ n + t ∧ countR l n + k ≤ countR l d ∧ countR l (d - 1) < countR l n + k := by
    intro t
    induction t with
    | zero =>
      intro h
      rw [show n + ((0 : Nat) : Int) = n by omega] at h
      omega
    | succ t ih =>
      intro h
      by_cases hc : countR l n + k ≤ countR l (n + t)
      · obtain ⟨d, a, b, c, e⟩ := ih hc
        exact ⟨d, a, by omega, c, e⟩
      · exact ⟨n + ((t + 1 : Nat) : Int), by omega, by omega, h, by rw [show n + ((t + 1 : Nat) : Int) - 1 = n + (t : Int) by omega]; omega⟩
  obtain ⟨d, a, b, c, e⟩ := key (200000 - n).toNat (by rw [show n + ((200000 - n).toNat : Int) = 200000 by omega]; exact hbig)
  exact ⟨d, a, by omega, c, e⟩

/-- the law's own row of days: the first one, and at most twenty near it -/
def freeDays (n : Int) (zs : List Int) : List Int := n :: (zs.take 20).map fun z => n + z % 60
theorem freeDays_len (n : Int) (zs : List Int) : (freeDays n zs).length = 1 + (zs.take 20).length := by simp [freeDays]; omega
theorem freeDays_in {n : Int} {zs : List Int} {m : Int} (h : m ∈ freeDays n zs) : n ≤ m ∧ m ≤ n + 59 := by
  unfold freeDays at h
  rcases List.mem_cons.1 h with h | h
  · omega
  · obtain ⟨z, _, rfl⟩ := List.mem_map.1 h
    omega
theorem freeDays_take (n : Int) (zs : List Int) (k : Nat) (hk : k < (zs.take 20).length) (hk' : k < zs.length) :
    (freeDays n zs).take (1 + k + 1) = (freeDays n zs).take (1 + k) ++ [n + zs[k] % 60] ∧ ((freeDays n zs).take (1 + k)).length = 1 + k := by
  have hl := freeDays_len n zs
  refine ⟨?_, by rw [List.length_take]; omega⟩
  rw [List.take_succ_eq_append_getElem (show 1 + k < (freeDays n zs).length by omega)]
  congr 1
  rw [List.cons.injEq]
  refine ⟨?_, rfl⟩
  unfold freeDays
  simp only [Nat.add_comm 1 k, List.getElem_cons_succ, List.getElem_map, List.getElem_take]
end Go.Proofs.YtphfefmlappidaaGreatDoor.Num

/- the law FdateWorks' own row of days: how it lies while it is collected. No conditions. -/
namespace Go.Proofs.YtphfefmlappidaaGreatDoor.Num.Fd
open Go.RowKit Go.Lib Num

/-- append to a row of the call's own, as one step of a region that draws -/
theorem step_append_day {P : Program} {ops : Array Oper} {o : Oper} {a : Act} {w : World} {K : Act → World → Prop} {Q : Exit → Act → World → Prop} {E : Prop} (hgd : o.guard = none) (s x : Operand) (t : TypeId)
    (ho : o.op = .call { callee := .builtin .append, args := #[s, x], argTypes := #[t, t] })
    (base : Nat) (e : TypeId) (i : TypeInfo) (z : Value) (size bytes : Nat) (ht : P.underlying t = some (.slice e)) (hi : P.info? e = some i) (hz : i.zero = some z)
    (hsize : i.size = size) (hby : i.bytes = bytes) (hzs : z.cells.size = size) (hsz : 0 < size)
    (v : Value) (n : Nat) (xs : List Value) (hs : a.eval s = v) (hown : w.ownsRow base e size v n xs)
    (ad : Addr) (m c : Nat) (news : List Value) (hx : a.eval x = .slice (some ad) m c) (hl : news.length = m * size) (hnews : ∀ j u, news[j]? = some u → w.cell? (ad.add j) = some u) (h1 : ∀ u ∈ news, u.oneCell' = true)
    (h63 : n + m ≤ maxLen) (hbytes : (n + m) * bytes ≤ 140737488355328) (hbase : base ≤ w.heap.size)
    (hK : ∀ v' w', w'.ownsRow base e size v' (n + m) (xs ++ news) → w.grownBy w' v.ownBlock → K (a.put o.dst v') w') :
    if Region.wanted o (yielded ops a.tmps) = true then Oper.wp P o a w K Q else E := by
  have hw : Region.wanted o (yielded ops a.tmps) = true := by simp [Region.wanted, hgd]
  rw [if_pos hw]
  exact wp_append_own w s x t ho base e i z size bytes ht hi hz hsize hby hzs hsz v n xs hs hown ad m c news hx hl hnews h1 h63 hbytes hbase fun v' w' h2 h3 _ => hK v' w' h2 h3

/-- whole numbers that came in -/
def CameI (W : World) (A : Addr) (ns : List Int) : Prop := ∀ i (h : i < ns.length), W.cell? (A.add i) = some (.int .i64 ns[i])

theorem days_flat (l : List Int) (z : Int) : flat (numVals (days (l ++ [z]))) = flat (numVals (days l)) ++ (numVal' ((z : Int) : Rat)).cells := by simp [days, numVals, flat]

/-- what stays while the days are collected: the value's block, the row -/
structure DayI (w : World) (B : Nat) (c : Int) (bv v : Value) (done : List Int) (W : World) : Prop where
  box : W.heap[B]? = some (.cells #[.int .i64 5, .string { data := #[] }, .string { data := #[] }, .string { data := #[] }, .bool false, .int .i64 0, .int .i64 1, .int .i64 c, bv] 30 (0, 0))
  low : Below w.heap.size w W
  ge : w.heap.size ≤ B
  own : W.ownsRow w.heap.size 30 9 v done.length (flat (numVals (days done)))
  pos : 0 < done.length
theorem DayI.at {w W : World} {B : Nat} {c : Int} {bv v : Value} {done : List Int} (h : DayI w B c bv v done W) : ∃ g cap, v = .slice (some ⟨g, 0, none⟩) done.length cap ∧ w.heap.size ≤ g ∧ done.length ≤ cap ∧ ValsAt W g 0 (numVals (days done)) :=
  vals_of_owns h.own (by rw [numVals_len, days_len]) h.pos
theorem DayI.ne {w W : World} {B : Nat} {c : Int} {bv v : Value} {done : List Int} (h : DayI w B c bv v done W) : v.ownBlock ≠ some B := by
  obtain ⟨g, cap, rfl, _, _, hva⟩ := h.at
  intro e
  have e : g = B := by simpa [Value.ownBlock] using e
  subst e
  have h1 := (item_at hva 0 (by rw [days_len]; exact h.pos) _ rfl).1
  have h2 := Lib.cell_of_heap h.box 0
  rw [Nat.zero_mul] at h1
  rw [h1] at h2
  exact absurd h2 (by intro e; injection e with e; injection e with _ e; exact absurd e (by decide))
theorem DayI.step {w W W' : World} {B : Nat} {c : Int} {bv v : Value} {done : List Int} (h : DayI w B c bv v done W) (hb : Below W.heap.size W W') : DayI w B c bv v done W' :=
  ⟨keep_block h.box hb, h.low.trans (hb.mono h.low.size), h.ge, h.own.kept (only_of_below hb none) (by cases v.ownBlock <;> simp), h.pos⟩
theorem DayI.push {w W W' : World} {B : Nat} {c : Int} {bv v v' : Value} {done : List Int} {z : Int} (h : DayI w B c bv v done W) (ho : W'.ownsRow w.heap.size 30 9 v' (done.length + 1) (flat (numVals (days done)) ++ (numVal' ((z : Int) : Rat)).cells)) (hg : W.grownBy W' v.ownBlock) : DayI w B c bv v' (done ++ [z]) W' := by
  have hge : ∀ r, v.ownBlock = some r → w.heap.size ≤ r := by
    intro r hr
    obtain ⟨g, cap, rfl, hg, _, _⟩ := h.at
    have e : g = r := by simpa [Value.ownBlock] using hr
    omega
  exact ⟨(hg.block B (heap_lt h.box) (fun e => h.ne e.symm)).trans h.box, h.low.grown hg h.low.size hge, h.ge, by rw [List.length_append, days_flat]; exact ho, by simp⟩
theorem DayI.store {w W : World} {B : Nat} {c : Int} {bv v : Value} {done : List Int} (h : DayI w B c bv v done W) : DayI w B c v v done (W.setCell ⟨B, 8, none⟩ v) := by
  refine ⟨?_, h.low.setCell (p := ⟨B, 8, none⟩) h.ge _, h.ge, ownsRow_setCell_other h.own (a := ⟨B, 8, none⟩) h.ne v, h.pos⟩
  have := heap_setCell_at h.box 8 v
  rw [this]; rfl
theorem DayI.cols {w W : World} {B : Nat} {c c' : Int} {bv v : Value} {done : List Int} (h : DayI w B c bv v done W) : DayI w B c' bv v done (W.setCell ⟨B, 7, none⟩ (.int .i64 c')) := by
  refine ⟨?_, h.low.setCell (p := ⟨B, 7, none⟩) h.ge _, h.ge, ownsRow_setCell_other h.own (a := ⟨B, 7, none⟩) h.ne _, h.pos⟩
  have := heap_setCell_at h.box 7 (.int .i64 c')
  rw [this]; rfl
/-- the row of one day, its value -/
theorem DayI.start {w w1 : World} {n : Int} {r d : ByteArray} (hr : r = numS ((n : Int) : Rat)) (hd : d = denS ((n : Int) : Rat)) (hb : Below w.heap.size w w1) :
    DayI w (w1.heap.size + 1) 1 (.slice (some ⟨w1.heap.size, 0, none⟩) 1 1) (.slice (some ⟨w1.heap.size, 0, none⟩) 1 1) [n] ((w1.alloc (.cells #[.int .i64 1, .string r, .string d, .string { data := #[] }, .bool false, .int .i64 0, .int .i64 0, .int .i64 0, .slice none 0 0] 30)).alloc (.cells #[.int .i64 5, .string { data := #[] }, .string { data := #[] }, .string { data := #[] }, .bool false, .int .i64 0, .int .i64 1, .int .i64 1, .slice (some ⟨w1.heap.size, 0, none⟩) 1 1] 30)) := by
  subst hr; subst hd
  have hl : Below w1.heap.size w1 ((w1.alloc (.cells #[.int .i64 1, .string (numS ((n : Int) : Rat)), .string (denS ((n : Int) : Rat)), .string { data := #[] }, .bool false, .int .i64 0, .int .i64 0, .int .i64 0, .slice none 0 0] 30)).alloc (.cells #[.int .i64 5, .string { data := #[] }, .string { data := #[] }, .string { data := #[] }, .bool false, .int .i64 0, .int .i64 1, .int .i64 1, .slice (some ⟨w1.heap.size, 0, none⟩) 1 1] 30)) := ((Below.refl _ _).alloc (Nat.le_refl _) _).alloc (by simp) _
  have h1 := heap_alloc_new (w1.alloc (.cells #[.int .i64 1, .string (numS ((n : Int) : Rat)), .string (denS ((n : Int) : Rat)), .string { data := #[] }, .bool false, .int .i64 0, .int .i64 0, .int .i64 0, .slice none 0 0] 30)) (.cells #[.int .i64 5, .string { data := #[] }, .string { data := #[] }, .string { data := #[] }, .bool false, .int .i64 0, .int .i64 1, .int .i64 1, .slice (some ⟨w1.heap.size, 0, none⟩) 1 1] 30)
  rw [World.size_alloc] at h1
  have h2 := new_keep (heap_alloc_new w1 (.cells #[.int .i64 1, .string (numS ((n : Int) : Rat)), .string (denS ((n : Int) : Rat)), .string { data := #[] }, .bool false, .int .i64 0, .int .i64 0, .int .i64 0, .slice none 0 0] 30)) (o' := .cells #[.int .i64 5, .string { data := #[] }, .string { data := #[] }, .string { data := #[] }, .bool false, .int .i64 0, .int .i64 1, .int .i64 1, .slice (some ⟨w1.heap.size, 0, none⟩) 1 1] 30)
  exact ⟨h1, hb.trans (hl.mono hb.size), Nat.le_succ_of_le hb.size, ⟨rfl, .inr ⟨_, 1, _, rfl, hb.size, h2, Nat.le_refl _, by decide, rfl, rfl⟩⟩, Nat.one_pos⟩
end Go.Proofs.YtphfefmlappidaaGreatDoor.Num.Fd
