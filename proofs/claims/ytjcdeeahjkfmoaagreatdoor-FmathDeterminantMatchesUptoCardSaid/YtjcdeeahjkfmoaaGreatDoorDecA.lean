/- Contracts of the program's functions, joined from smaller texts. Conditions stand at each theorem. -/
import Derived.Test.YtjcdeeahjkfmoaaGreatDoorDebA
import Derived.Test.YtjcdeeahjkfmoaaGreatDoorNumB
import Derived.Test.YtjcdeeahjkfmoaaGreatDoorDebB
import Derived.Deep.RegionHeld3
set_option linter.unusedVariables false
set_option linter.unusedSimpArgs false
set_option maxRecDepth 100000
set_option maxHeartbeats 4000000
namespace Go.Proofs.YtjcdeeahjkfmoaaGreatDoor
namespace Num
open Go.RowKit Go.Lib
attribute [local irreducible] wpOp
theorem conv_byte {W : World} {g : Nat} {x : Int} {c : UInt8} (h : W.heap[g]? = some (.cells #[.int .u8 x] 5 (0, 0))) (hc : x = c.toNat) :
  (convert 125 9 (.slice (some ⟨g, 0, none⟩) 1 1)).run Tryz.prog W = .ok (.string ⟨#[c]⟩) W := by
 have h1 := run_convert_bytes_back W 125 9 5 ⟨g, 0, none⟩ 1 [c] Tryz.underlying125 Tryz.underlying5 Tryz.underlying9 (fun j hj => by
  obtain rfl : j = 0 := by simpa using hj
  rw [Addr.add_lit, Nat.zero_add, Lib.cell_of_heap h 0]
  simp [hc])
 exact h1
theorem ba_snoc (l : List UInt8) (c : UInt8) : (⟨l.toArray⟩ : ByteArray) ++ ⟨#[c]⟩ = ⟨(l ++ [c]).toArray⟩ := by
 apply ByteArray.ext
 simp
set_option linter.unusedVariables false in
def DecPKs6 (nn qq rr ee : Int) (t : List UInt8) (c : UInt8) : List RK :=
 [.pure (.int .i64 nn),
  .pure (.int .i64 qq),
  .pure (.string ⟨t.toArray⟩),
  .pure (.int .i64 nn),
  .pure (.int .i64 rr),
  .pure (.int .i64 ee),
  .pure (.int .u8 ee),
  .row #[.int .u8 ee] 5 1,
  .pure (.string ⟨#[c]⟩),
  .pure (.string (⟨t.toArray⟩ ++ ⟨#[c]⟩)),
  .pure (.string (⟨t.toArray⟩ ++ ⟨#[c]⟩))]
set_option linter.unusedVariables false in
def DecNKs2 (nn qq rr ee : Int) (t : List UInt8) (c : UInt8) : List RK :=
 [.pure (.int .i64 nn),
  .pure (.int .i64 qq),
  .pure (.string ⟨t.toArray⟩),
  .pure (.int .i64 nn),
  .pure (.int .i64 rr),
  .pure (.int .i64 ee),
  .pure (.int .u8 ee),
  .row #[.int .u8 ee] 5 1,
  .pure (.string ⟨#[c]⟩),
  .pure (.string (⟨t.toArray⟩ ++ ⟨#[c]⟩)),
  .pure (.string (⟨t.toArray⟩ ++ ⟨#[c]⟩))]
theorem decimal_nat (n : Nat) (w : World) (h : n < 9223372036854775808) :
  Calls Tryz.prog 55 #[.int .i64 n] w fun e w' => e = .returned (.string ⟨(Lib.decDigits n).toArray⟩) ∧ Below w.heap.size w w' := by
 induction n using Nat.strongRecOn generalizing w with
 | _ n ih =>
  by_cases h10 : n < 10
  ·rw [decDigits_small h10]
   have q1 : decide ((n : Int) ≤ -10) = false := decide_eq_false (by omega)
   have q2 : decide ((n : Int) < 0) = false := decide_eq_false (by omega)
   have q3 : decide ((10 : Int) ≤ (n : Int)) = false := decide_eq_false (by omega)
   have hw8 : IntKind.u8.wrap ((48 : Int) + n) = (48 : Int) + n := by rw [IntKind.wrap_u8]; omega
   obtain ⟨c, hc⟩ : ∃ c, UInt8.ofNat (48 + n) = c := ⟨_, rfl⟩
   have hcv := conv_byte (heap_alloc_new w (.cells #[.int .u8 ((48 : Int) + n)] 5)) (c := c) (by rw [← hc, dig_toNat h10]; omega)
   rw [hc]
   clear hc
   have HB : Hid (Below w.heap.size w (w.alloc (.cells #[.int .u8 ((48 : Int) + n)] 5))) := (Below.refl _ _).alloc (Nat.le_refl _) _
   clear ih
   go_enter Tryz.func55, Tryz.ntmps55
   go_wp2
   go_ret
   exact ⟨rfl, HB.out⟩
  ·rw [decDigits_step (by omega), ← ba_snoc]
   have IH := hid (fun W => ih (n / 10) (by omega) W (by omega))
   obtain ⟨nn, hnn⟩ : ∃ nn : Int, (n : Int) = nn := ⟨_, rfl⟩
   obtain ⟨qq, hqq⟩ : ∃ qq : Int, ((n / 10 : Nat) : Int) = qq := ⟨_, rfl⟩
   obtain ⟨rr, hrr⟩ : ∃ rr : Int, ((n % 10 : Nat) : Int) = rr := ⟨_, rfl⟩
   obtain ⟨ee, hee⟩ : ∃ ee : Int, ((48 + n % 10 : Nat) : Int) = ee := ⟨_, rfl⟩
   obtain ⟨t, ht⟩ : ∃ t, Lib.decDigits (n / 10) = t := ⟨_, rfl⟩
   obtain ⟨c, hc⟩ : ∃ c, UInt8.ofNat (48 + n % 10) = c := ⟨_, rfl⟩
   have HC : Hid (ee = (c.toNat : Int)) := by show _ = _; rw [← hc, dig_toNat (by omega), hee]
   have HDV : Hid (IntKind.i64.wrap (nn.tdiv 10) = qq ∧ nn.tdiv 10 = qq) := by
    have e : nn.tdiv 10 = qq := by rw [← hnn, ← hqq, Int.tdiv_eq_ediv_of_nonneg (by omega)]; omega
    exact ⟨by rw [e, IntKind.wrap_i64]; omega, e⟩
   have HRM : Hid (nn.tmod 10 = rr) := by show _ = _; rw [← hnn, ← hrr, Int.tmod_eq_emod_of_nonneg (by omega)]; omega
   have HAD : Hid (IntKind.i64.wrap (48 + rr) = ee) := by show _ = _; rw [← hrr, ← hee, IntKind.wrap_i64]; omega
   have HTL : Hid (t.length ≤ 100) := by
    show _ ≤ _
    have h1 := decDigits_len_le (d := n / 10) (k := 19) (by omega)
    rw [← ht]
    omega
   have HWQ : Hid (IntKind.i64.wrap qq = qq) := by show _ = _; rw [← hqq, IntKind.wrap_i64]; omega
   have HCV : Hid (IntKind.u8.wrap ee = ee) := by show _ = _; rw [← hee, IntKind.wrap_u8]; omega
   have q1 : decide (nn ≤ -10) = false := decide_eq_false (by omega)
   have q2 : decide (nn < 0) = false := decide_eq_false (by omega)
   have q3 : decide ((10 : Int) ≤ nn) = true := decide_eq_true (by omega)
   rw [ht] at IH ⊢
   rw [hqq] at IH
   rw [hc, hnn]
   have HL : Hid (Bel w w) := Below.refl _ _
   clear ih h10 hnn hqq hrr hee ht hc
   go_enter Tryz.func55, Tryz.ntmps55
   go_wp2_with fail
   have hok : okB 11 (DecPKs6 nn qq rr ee t c) = true := by kernel_rfl
   have hna := noAny_of (ks := (DecPKs6 nn qq rr ee t c)) (by kernel_rfl)
   have hla := lasts_of hna
   refine wp_region_facts_abs (row := none) (w := w) 11 0 11 [] (DecPKs6 nn qq rr ee t c) [some 25, some 26, some 27, some 28, some 29, some 30, some 31, some 32, some 33, some 34, some 2] [(0, .int .i64 nn)] 40 (by kernel_rfl) (by kernel_rfl) (by kernel_rfl) rfl rfl (by decide) rfl (by kernel_rfl) rfl (Nat.le_of_eq rfl) rfl ?ho [undef, undef, undef, undef, undef, undef, undef, undef, undef, undef, .string ⟨#[]⟩] ?h00 (Fs.start rfl rfl) ?hs ?hd
   case ho =>
    intro k x hk
    match k, hk with
    | 0, hk => have hk := Option.some.inj hk; subst hk; rfl
    | _ + 1, hk => exact absurd hk (by simp)
   case h00 => simp only [putO, layL]
   case hs =>
    rintro A listed vs Wr hF hR i hi hun hpre
    obtain ⟨s0, s1, s2, s3, s4, s5, s6, s7, s8, s9, s10, hvs⟩ := exl_of 11 vs (fun l => vs = l) hF.len rfl
    subst hvs
    have hge := Nat.zero_le i
    rcases Nat.lt_or_ge i 5 with hi | hge
    ·rcases Nat.lt_or_ge i 2 with hi | hge
     ·rcases Nat.lt_or_ge i 1 with hi | hge
      ·obtain rfl := eqi hi hge
       have ro0 : A.tmps[0]? = some (.int .i64 nn) := hR.out 0 _ rfl
       refine step_of ⟨some 25, _, _, _, _, _⟩ rfl (fun K' hK => ?_)
       go_simp
       exact hK.out _ _ ⟨_, hF.pure hok hla hpre rfl (Below.refl _ _), rfl⟩
      obtain rfl := eqi hi hge
      have p0 := hpre 0 (by kernel_rfl)
      have e0 : s0 = .int .i64 nn := hF.get 0 _ rfl (.inr p0)
      subst e0
      have r0 : A.tmps[25]? = some (.int .i64 nn) := hR.own 0 _ _ rfl rfl
      have hld := HDV.out
      have hlq := HWQ.out
      refine step_of ⟨some 26, _, _, _, _, _⟩ rfl (fun K' hK => ?_)
      go_simp
      exact hK.out _ _ ⟨_, hF.pure hok hla hpre rfl (Below.refl _ _), rfl⟩
     rcases Nat.lt_or_ge i 3 with hi | hge
     ·obtain rfl := eqi hi hge
      have p1 := hpre 1 (by kernel_rfl)
      have e1 : s1 = .int .i64 qq := hF.get 1 _ rfl (.inr p1)
      subst e1
      have r1 : A.tmps[26]? = some (.int .i64 qq) := hR.own 1 _ _ rfl rfl
      refine step_of ⟨some 27, _, _, _, _, _⟩ rfl (fun K' hK => ?_)
      go_simp
      go_at_call 55
      (with_reducible refine (IH.out _).mono ?_)
      rintro e Wq ⟨rfl, hq⟩
      exact hK.out _ _ ⟨_, hF.pure hok hla hpre rfl hq, rfl⟩
     rcases Nat.lt_or_ge i 4 with hi | hge
     ·obtain rfl := eqi hi hge
      have ro0 : A.tmps[0]? = some (.int .i64 nn) := hR.out 0 _ rfl
      refine step_of ⟨some 28, _, _, _, _, _⟩ rfl (fun K' hK => ?_)
      go_simp
      exact hK.out _ _ ⟨_, hF.pure hok hla hpre rfl (Below.refl _ _), rfl⟩
     obtain rfl := eqi hi hge
     have p3 := hpre 3 (by kernel_rfl)
     have e3 : s3 = .int .i64 nn := hF.get 3 _ rfl (.inr p3)
     subst e3
     have r3 : A.tmps[28]? = some (.int .i64 nn) := hR.own 3 _ _ rfl rfl
     have hld := HRM.out
     refine step_of ⟨some 29, _, _, _, _, _⟩ rfl (fun K' hK => ?_)
     go_simp
     exact hK.out _ _ ⟨_, hF.pure hok hla hpre rfl (Below.refl _ _), rfl⟩
    rcases Nat.lt_or_ge i 8 with hi | hge
    ·rcases Nat.lt_or_ge i 6 with hi | hge
     ·obtain rfl := eqi hi hge
      have p4 := hpre 4 (by kernel_rfl)
      have e4 : s4 = .int .i64 rr := hF.get 4 _ rfl (.inr p4)
      subst e4
      have r4 : A.tmps[29]? = some (.int .i64 rr) := hR.own 4 _ _ rfl rfl
      have hld := HAD.out
      refine step_of ⟨some 30, _, _, _, _, _⟩ rfl (fun K' hK => ?_)
      go_simp
      exact hK.out _ _ ⟨_, hF.pure hok hla hpre rfl (Below.refl _ _), rfl⟩
     rcases Nat.lt_or_ge i 7 with hi | hge
     ·obtain rfl := eqi hi hge
      have p5 := hpre 5 (by kernel_rfl)
      have e5 : s5 = .int .i64 ee := hF.get 5 _ rfl (.inr p5)
      subst e5
      have r5 : A.tmps[30]? = some (.int .i64 ee) := hR.own 5 _ _ rfl rfl
      have hld := HCV.out
      refine step_of ⟨some 31, _, _, _, _, _⟩ rfl (fun K' hK => ?_)
      go_simp
      exact hK.out _ _ ⟨_, hF.pure hok hla hpre rfl (Below.refl _ _), rfl⟩
     obtain rfl := eqi hi hge
     have p6 := hpre 6 (by kernel_rfl)
     have e6 : s6 = .int .u8 ee := hF.get 6 _ rfl (.inr p6)
     subst e6
     have r6 : A.tmps[31]? = some (.int .u8 ee) := hR.own 6 _ _ rfl rfl
     refine step_of ⟨some 32, _, _, _, _, _⟩ rfl (fun K' hK => ?_)
     go_simp
     exact hK.out _ _ ⟨_, hF.row hok hla hpre rfl, rfl⟩
    rcases Nat.lt_or_ge i 9 with hi | hge
    ·obtain rfl := eqi hi hge
     have p7 := hpre 7 (by kernel_rfl)
     obtain ⟨G7, eG7, _, hGB7⟩ : ∃ G, s7 = .slice (some ⟨G, 0, none⟩) 1 1 ∧ _ ≤ G ∧ Wr.heap[G]? = some (.cells #[.int .u8 ee] 5 (0, 0)) := hF.get 7 _ rfl (.inr p7)
     subst eG7
     have r7 : A.tmps[32]? = some (.slice (some ⟨G7, 0, none⟩) 1 1) := hR.own 7 _ _ rfl rfl
     have hld := conv_byte hGB7 HC.out
     refine step_of ⟨some 33, _, _, _, _, _⟩ rfl (fun K' hK => ?_)
     go_simp
     exact hK.out _ _ ⟨_, hF.pure hok hla hpre rfl (Below.refl _ _), rfl⟩
    rcases Nat.lt_or_ge i 10 with hi | hge
    ·obtain rfl := eqi hi hge
     have p2 := hpre 2 (by kernel_rfl)
     have e2 : s2 = .string ⟨t.toArray⟩ := hF.get 2 _ rfl (.inr p2)
     subst e2
     have r2 : A.tmps[27]? = some (.string ⟨t.toArray⟩) := hR.own 2 _ _ rfl rfl
     have p8 := hpre 8 (by kernel_rfl)
     have e8 : s8 = .string ⟨#[c]⟩ := hF.get 8 _ rfl (.inr p8)
     subst e8
     have r8 : A.tmps[33]? = some (.string ⟨#[c]⟩) := hR.own 8 _ _ rfl rfl
     have hld : (9223372036854775807 < t.length + 1) = False := eq_false (by have := HTL.out; omega)
     refine step_of ⟨some 34, _, _, _, _, _⟩ rfl (fun K' hK => ?_)
     go_simp
     exact hK.out _ _ ⟨_, hF.pure hok hla hpre rfl (Below.refl _ _), rfl⟩
    obtain rfl := eqi hi hge
    have p9 := hpre 9 (by kernel_rfl)
    have e9 : s9 = .string (⟨t.toArray⟩ ++ ⟨#[c]⟩) := hF.get 9 _ rfl (.inr p9)
    subst e9
    have r9 : A.tmps[34]? = some (.string (⟨t.toArray⟩ ++ ⟨#[c]⟩)) := hR.own 9 _ _ rfl rfl
    refine step_of ⟨some 2, _, _, _, _, _⟩ rfl (fun K' hK => ?_)
    go_simp
    exact hK.out _ _ ⟨_, hF.pure hok hla hpre rfl (Below.refl _ _), rfl⟩
   case hd =>
    rintro listed vs W2 hF hall
    obtain ⟨s0, s1, s2, s3, s4, s5, s6, s7, s8, s9, s10, hvs⟩ := exl_of 11 vs (fun l => vs = l) hF.len rfl
    subst hvs
    have e10 : s10 = .string (⟨t.toArray⟩ ++ ⟨#[c]⟩) := hF.get 10 _ rfl (.inr (hall 10 (by decide)))
    subst e10
    have hq := below_none hF.low
    replace HL := hid (HL.out.step hq)
    clear hq
    clear hF hall hok hla hna
    refine rest_end ?_
    simp only [putO, layL]
    go_wp2
    go_ret
    exact ⟨rfl, HL.out⟩
theorem decimal_neg (m : Nat) (w : World) (h1 : 1 ≤ m) (h : m ≤ 9223372036854775808) :
  Calls Tryz.prog 55 #[.int .i64 (-(m : Int))] w fun e w' => e = .returned (.string ⟨(45 :: Lib.decDigits m).toArray⟩) ∧ Below w.heap.size w w' := by
 induction m using Nat.strongRecOn generalizing w with
 | _ m ih =>
  by_cases h10 : m < 10
  ·rw [decDigits_small h10]
   have q1 : decide (-(m : Int) ≤ -10) = false := decide_eq_false (by omega)
   have q2 : decide (-(m : Int) < 0) = true := decide_eq_true (by omega)
   obtain ⟨nn, hnn⟩ : ∃ nn : Int, -(m : Int) = nn := ⟨_, rfl⟩
   rw [hnn] at q1 q2 ⊢
   have hsb : IntKind.i64.wrap ((48 : Int) - nn) = (48 : Int) - nn := by rw [IntKind.wrap_i64]; omega
   have hw8 : IntKind.u8.wrap ((48 : Int) - nn) = (48 : Int) - nn := by rw [IntKind.wrap_u8]; omega
   obtain ⟨c, hc⟩ : ∃ c, UInt8.ofNat (48 + m) = c := ⟨_, rfl⟩
   have hcv := conv_byte (heap_alloc_new w (.cells #[.int .u8 ((48 : Int) - nn)] 5)) (c := c) (by rw [← hc, dig_toNat h10]; omega)
   rw [hc]
   have HB : Hid (Below w.heap.size w (w.alloc (.cells #[.int .u8 ((48 : Int) - nn)] 5))) := (Below.refl _ _).alloc (Nat.le_refl _) _
   have HE : Hid ((⟨#[45]⟩ : ByteArray) ++ ⟨#[c]⟩ = ⟨[45, c].toArray⟩) := by show _ = _; apply ByteArray.ext; simp
   clear ih hc hnn
   go_enter Tryz.func55, Tryz.ntmps55
   go_wp2
   go_ret
   exact ⟨rfl, HB.out⟩
  ·rw [decDigits_step (by omega), show (45 :: (Lib.decDigits (m / 10) ++ [UInt8.ofNat (48 + m % 10)])) = (45 :: Lib.decDigits (m / 10)) ++ [UInt8.ofNat (48 + m % 10)] from rfl, ← ba_snoc]
   have IH := hid (fun W => ih (m / 10) (by omega) W (by omega) (by omega))
   obtain ⟨nn, hnn⟩ : ∃ nn : Int, (-(m : Int)) = nn := ⟨_, rfl⟩
   obtain ⟨qq, hqq⟩ : ∃ qq : Int, (-((m / 10 : Nat) : Int)) = qq := ⟨_, rfl⟩
   obtain ⟨rr, hrr⟩ : ∃ rr : Int, (-((m % 10 : Nat) : Int)) = rr := ⟨_, rfl⟩
   obtain ⟨ee, hee⟩ : ∃ ee : Int, ((48 + m % 10 : Nat) : Int) = ee := ⟨_, rfl⟩
   obtain ⟨t, ht⟩ : ∃ t, 45 :: Lib.decDigits (m / 10) = t := ⟨_, rfl⟩
   obtain ⟨c, hc⟩ : ∃ c, UInt8.ofNat (48 + m % 10) = c := ⟨_, rfl⟩
   have HC : Hid (ee = (c.toNat : Int)) := by show _ = _; rw [← hc, dig_toNat (by omega), hee]
   have HDV : Hid (IntKind.i64.wrap (nn.tdiv 10) = qq ∧ nn.tdiv 10 = qq) := by
    have e : nn.tdiv 10 = qq := by rw [← hnn, ← hqq, Int.neg_tdiv, Int.tdiv_eq_ediv_of_nonneg (by omega)]; omega
    exact ⟨by rw [e, IntKind.wrap_i64]; omega, e⟩
   have HRM : Hid (nn.tmod 10 = rr) := by show _ = _; rw [← hnn, ← hrr, Int.neg_tmod, Int.tmod_eq_emod_of_nonneg (by omega)]; omega
   have HAD : Hid (IntKind.i64.wrap (48 - rr) = ee) := by show _ = _; rw [← hrr, ← hee, IntKind.wrap_i64]; omega
   have HTL : Hid (t.length ≤ 100) := by
    show _ ≤ _
    have h1 := decDigits_len_le (d := m / 10) (k := 19) (by omega)
    rw [← ht]
    simp only [List.length_cons]
    omega
   have HWQ : Hid (IntKind.i64.wrap qq = qq) := by show _ = _; rw [← hqq, IntKind.wrap_i64]; omega
   have HCV : Hid (IntKind.u8.wrap ee = ee) := by show _ = _; rw [← hee, IntKind.wrap_u8]; omega
   have q1 : decide (nn ≤ -10) = true := decide_eq_true (by omega)
   rw [ht] at IH ⊢
   rw [hqq] at IH
   rw [hc, hnn]
   have HL : Hid (Bel w w) := Below.refl _ _
   clear ih h10 hnn hqq hrr hee ht hc
   go_enter Tryz.func55, Tryz.ntmps55
   go_wp2_with fail
   have hok : okB 11 (DecNKs2 nn qq rr ee t c) = true := by kernel_rfl
   have hna := noAny_of (ks := (DecNKs2 nn qq rr ee t c)) (by kernel_rfl)
   have hla := lasts_of hna
   refine wp_region_facts_abs (row := none) (w := w) 11 0 11 [] (DecNKs2 nn qq rr ee t c) [some 5, some 6, some 7, some 8, some 9, some 10, some 11, some 12, some 13, some 14, some 2] [(0, .int .i64 nn)] 40 (by kernel_rfl) (by kernel_rfl) (by kernel_rfl) rfl rfl (by decide) rfl (by kernel_rfl) rfl (Nat.le_of_eq rfl) rfl ?ho [undef, undef, undef, undef, undef, undef, undef, undef, undef, undef, .string ⟨#[]⟩] ?h00 (Fs.start rfl rfl) ?hs ?hd
   case ho =>
    intro k x hk
    match k, hk with
    | 0, hk => have hk := Option.some.inj hk; subst hk; rfl
    | _ + 1, hk => exact absurd hk (by simp)
   case h00 => simp only [putO, layL]
   case hs =>
    rintro A listed vs Wr hF hR i hi hun hpre
    obtain ⟨s0, s1, s2, s3, s4, s5, s6, s7, s8, s9, s10, hvs⟩ := exl_of 11 vs (fun l => vs = l) hF.len rfl
    subst hvs
    have hge := Nat.zero_le i
    rcases Nat.lt_or_ge i 5 with hi | hge
    ·rcases Nat.lt_or_ge i 2 with hi | hge
     ·rcases Nat.lt_or_ge i 1 with hi | hge
      ·obtain rfl := eqi hi hge
       have ro0 : A.tmps[0]? = some (.int .i64 nn) := hR.out 0 _ rfl
       refine step_of ⟨some 5, _, _, _, _, _⟩ rfl (fun K' hK => ?_)
       go_simp
       exact hK.out _ _ ⟨_, hF.pure hok hla hpre rfl (Below.refl _ _), rfl⟩
      obtain rfl := eqi hi hge
      have p0 := hpre 0 (by kernel_rfl)
      have e0 : s0 = .int .i64 nn := hF.get 0 _ rfl (.inr p0)
      subst e0
      have r0 : A.tmps[5]? = some (.int .i64 nn) := hR.own 0 _ _ rfl rfl
      have hld := HDV.out
      have hlq := HWQ.out
      refine step_of ⟨some 6, _, _, _, _, _⟩ rfl (fun K' hK => ?_)
      go_simp
      exact hK.out _ _ ⟨_, hF.pure hok hla hpre rfl (Below.refl _ _), rfl⟩
     rcases Nat.lt_or_ge i 3 with hi | hge
     ·obtain rfl := eqi hi hge
      have p1 := hpre 1 (by kernel_rfl)
      have e1 : s1 = .int .i64 qq := hF.get 1 _ rfl (.inr p1)
      subst e1
      have r1 : A.tmps[6]? = some (.int .i64 qq) := hR.own 1 _ _ rfl rfl
      refine step_of ⟨some 7, _, _, _, _, _⟩ rfl (fun K' hK => ?_)
      go_simp
      go_at_call 55
      (with_reducible refine (IH.out _).mono ?_)
      rintro e Wq ⟨rfl, hq⟩
      exact hK.out _ _ ⟨_, hF.pure hok hla hpre rfl hq, rfl⟩
     rcases Nat.lt_or_ge i 4 with hi | hge
     ·obtain rfl := eqi hi hge
      have ro0 : A.tmps[0]? = some (.int .i64 nn) := hR.out 0 _ rfl
      refine step_of ⟨some 8, _, _, _, _, _⟩ rfl (fun K' hK => ?_)
      go_simp
      exact hK.out _ _ ⟨_, hF.pure hok hla hpre rfl (Below.refl _ _), rfl⟩
     obtain rfl := eqi hi hge
     have p3 := hpre 3 (by kernel_rfl)
     have e3 : s3 = .int .i64 nn := hF.get 3 _ rfl (.inr p3)
     subst e3
     have r3 : A.tmps[8]? = some (.int .i64 nn) := hR.own 3 _ _ rfl rfl
     have hld := HRM.out
     refine step_of ⟨some 9, _, _, _, _, _⟩ rfl (fun K' hK => ?_)
     go_simp
     exact hK.out _ _ ⟨_, hF.pure hok hla hpre rfl (Below.refl _ _), rfl⟩
    rcases Nat.lt_or_ge i 8 with hi | hge
    ·rcases Nat.lt_or_ge i 6 with hi | hge
     ·obtain rfl := eqi hi hge
      have p4 := hpre 4 (by kernel_rfl)
      have e4 : s4 = .int .i64 rr := hF.get 4 _ rfl (.inr p4)
      subst e4
      have r4 : A.tmps[9]? = some (.int .i64 rr) := hR.own 4 _ _ rfl rfl
      have hld := HAD.out
      refine step_of ⟨some 10, _, _, _, _, _⟩ rfl (fun K' hK => ?_)
      go_simp
      exact hK.out _ _ ⟨_, hF.pure hok hla hpre rfl (Below.refl _ _), rfl⟩
     rcases Nat.lt_or_ge i 7 with hi | hge
     ·obtain rfl := eqi hi hge
      have p5 := hpre 5 (by kernel_rfl)
      have e5 : s5 = .int .i64 ee := hF.get 5 _ rfl (.inr p5)
      subst e5
      have r5 : A.tmps[10]? = some (.int .i64 ee) := hR.own 5 _ _ rfl rfl
      have hld := HCV.out
      refine step_of ⟨some 11, _, _, _, _, _⟩ rfl (fun K' hK => ?_)
      go_simp
      exact hK.out _ _ ⟨_, hF.pure hok hla hpre rfl (Below.refl _ _), rfl⟩
     obtain rfl := eqi hi hge
     have p6 := hpre 6 (by kernel_rfl)
     have e6 : s6 = .int .u8 ee := hF.get 6 _ rfl (.inr p6)
     subst e6
     have r6 : A.tmps[11]? = some (.int .u8 ee) := hR.own 6 _ _ rfl rfl
     refine step_of ⟨some 12, _, _, _, _, _⟩ rfl (fun K' hK => ?_)
     go_simp
     exact hK.out _ _ ⟨_, hF.row hok hla hpre rfl, rfl⟩
    rcases Nat.lt_or_ge i 9 with hi | hge
    ·obtain rfl := eqi hi hge
     have p7 := hpre 7 (by kernel_rfl)
     obtain ⟨G7, eG7, _, hGB7⟩ : ∃ G, s7 = .slice (some ⟨G, 0, none⟩) 1 1 ∧ _ ≤ G ∧ Wr.heap[G]? = some (.cells #[.int .u8 ee] 5 (0, 0)) := hF.get 7 _ rfl (.inr p7)
     subst eG7
     have r7 : A.tmps[12]? = some (.slice (some ⟨G7, 0, none⟩) 1 1) := hR.own 7 _ _ rfl rfl
     have hld := conv_byte hGB7 HC.out
     refine step_of ⟨some 13, _, _, _, _, _⟩ rfl (fun K' hK => ?_)
     go_simp
     exact hK.out _ _ ⟨_, hF.pure hok hla hpre rfl (Below.refl _ _), rfl⟩
    rcases Nat.lt_or_ge i 10 with hi | hge
    ·obtain rfl := eqi hi hge
     have p2 := hpre 2 (by kernel_rfl)
     have e2 : s2 = .string ⟨t.toArray⟩ := hF.get 2 _ rfl (.inr p2)
     subst e2
     have r2 : A.tmps[7]? = some (.string ⟨t.toArray⟩) := hR.own 2 _ _ rfl rfl
     have p8 := hpre 8 (by kernel_rfl)
     have e8 : s8 = .string ⟨#[c]⟩ := hF.get 8 _ rfl (.inr p8)
     subst e8
     have r8 : A.tmps[13]? = some (.string ⟨#[c]⟩) := hR.own 8 _ _ rfl rfl
     have hld : (9223372036854775807 < t.length + 1) = False := eq_false (by have := HTL.out; omega)
     refine step_of ⟨some 14, _, _, _, _, _⟩ rfl (fun K' hK => ?_)
     go_simp
     exact hK.out _ _ ⟨_, hF.pure hok hla hpre rfl (Below.refl _ _), rfl⟩
    obtain rfl := eqi hi hge
    have p9 := hpre 9 (by kernel_rfl)
    have e9 : s9 = .string (⟨t.toArray⟩ ++ ⟨#[c]⟩) := hF.get 9 _ rfl (.inr p9)
    subst e9
    have r9 : A.tmps[14]? = some (.string (⟨t.toArray⟩ ++ ⟨#[c]⟩)) := hR.own 9 _ _ rfl rfl
    refine step_of ⟨some 2, _, _, _, _, _⟩ rfl (fun K' hK => ?_)
    go_simp
    exact hK.out _ _ ⟨_, hF.pure hok hla hpre rfl (Below.refl _ _), rfl⟩
   case hd =>
    rintro listed vs W2 hF hall
    obtain ⟨s0, s1, s2, s3, s4, s5, s6, s7, s8, s9, s10, hvs⟩ := exl_of 11 vs (fun l => vs = l) hF.len rfl
    subst hvs
    have e10 : s10 = .string (⟨t.toArray⟩ ++ ⟨#[c]⟩) := hF.get 10 _ rfl (.inr (hall 10 (by decide)))
    subst e10
    have hq := below_none hF.low
    replace HL := hid (HL.out.step hq)
    clear hq
    clear hF hall hok hla hna
    refine rest_end ?_
    simp only [putO, layL]
    go_wp2
    go_ret
    exact ⟨rfl, HL.out⟩
end Num
namespace Num
open Go.RowKit Go.Lib
theorem unsigned_any (m : Nat) (w : World) (h1 : 1 ≤ m) (h : m ≤ 9223372036854775808) :
  Calls Tryz.prog 116 #[.int .i64 (-(m : Int))] w fun e w' => e = .returned (.string ⟨(Lib.decDigits m).toArray⟩) ∧ Below w.heap.size w w' := by
 have T := hid (decimal_neg m w h1 h)
 have hl := decDigits_len_le (d := m) (k := 19) (by omega)
 obtain ⟨t, ht⟩ : ∃ t, Lib.decDigits m = t := ⟨_, rfl⟩
 rw [ht] at T hl ⊢
 obtain ⟨s, hs⟩ : ∃ s : ByteArray, ⟨(45 :: t).toArray⟩ = s := ⟨_, rfl⟩
 have hsz : s.size = t.length + 1 := by rw [← hs]; show (45 :: t).toArray.size = _; simp
 have hex : s.extract 1 s.size = ⟨t.toArray⟩ := by
  rw [hsz, ← hs]
  apply ByteArray.ext
  simp
 rw [hs] at T
 obtain ⟨nn, hnn⟩ : ∃ nn : Int, -(m : Int) = nn := ⟨_, rfl⟩
 rw [hnn] at T ⊢
 have HX := hid hex
 have hge : (1 : Int) ≤ (s.size : Int) := by omega
 have hge2 : 1 ≤ s.size := by omega
 have hmx : s.size ≤ 100 := by omega
 clear hs hnn ht hsz hl hex
 go_enter Tryz.func116, Tryz.ntmps116
 go_wp2_with fail
 refine T.out.mono ?_
 rintro e w1 ⟨rfl, hb⟩
 have HB := hid hb
 clear hb
 go_wp2
 go_ret
 exact ⟨ret_str HX.out, HB.out⟩
theorem rone_new (w : World) (x : Obj) : (w.alloc x).heap[w.heap.size]? = some x ∧ Below w.heap.size w (w.alloc x) := ⟨heap_alloc_new w x, (Below.refl _ _).alloc (Nat.le_refl _) _⟩
theorem one_dec (W : World) : DecAt (W.alloc (.cells #[.int .i64 1] 3)) (.slice (some ⟨W.heap.size, 0, none⟩) 1 1) 1 := by
 have h := one_atD W 1
 unfold DecAt
 rw [digs_pos ten2 (by decide), show 1 / 10 = 0 by decide, digs_zero]
 exact h
theorem one_len : (digs 10 1).length ≤ 1 := digs_len_le ten2 (by decide)
theorem natOf_dec (n : Nat) (w : World) (h : (Lib.decDigits n).length ≤ 1000000000) :
  Calls Tryz.prog 54 #[.string ⟨(Lib.decDigits n).toArray⟩] w fun e w' => ∃ v', e = .returned v' ∧ DecAt w' v' n ∧ Below w.heap.size w w' := by
 have h1 := natOf_any ⟨(Lib.decDigits n).toArray⟩ w (by rw [bstr_size]; omega) (decDigits_all n)
 rw [bstr_data, decVal_decDigits] at h1
 exact h1
theorem whole_nat (m : Nat) (w : World) (h : m < 9223372036854775808) :
  Calls Tryz.prog 29 #[.int .i64 m] w (RawRet w false m 1) := by
 have T1 := hid (fun W => decimal_nat m W h)
 have T2 := hid (fun W => dcalls_shaped (natOf_dec m W (by have := decDigits_len_le (d := m) (k := 19) (by omega); omega)))
 obtain ⟨nn, hnn⟩ : ∃ nn : Int, (m : Int) = nn := ⟨_, rfl⟩
 have hq : decide (nn < 0) = false := decide_eq_false (by omega)
 rw [hnn] at T1 ⊢
 obtain ⟨s, hs⟩ : ∃ s : ByteArray, ⟨(Lib.decDigits m).toArray⟩ = s := ⟨_, rfl⟩
 rw [hs] at T1 T2
 obtain ⟨qHR, hb⟩ := rone_new w (.cells #[.bool false, .slice none 0 0, .slice none 0 0] 59)
 have HR := hid qHR
 have HL := hid hb
 clear hb qHR hnn hs h
 obtain ⟨W0, hW0⟩ : ∃ W0, (w.alloc (.cells #[.bool false, .slice none 0 0, .slice none 0 0] 59)) = W0 := ⟨_, rfl⟩
 rw [hW0] at HL HR
 have HW := hid hW0
 clear hW0
 go_enter Tryz.func29, Tryz.ntmps29
 go_wp2_with fail
 rw [HW.out]
 refine (T1.out _).mono ?_
 rintro e W1 ⟨rfl, hb⟩
 replace HR := hid (keep_block HR.out hb)
 replace HL := hid (HL.out.trans (hb.mono HL.out.size))
 clear hb
 go_wp2_with fail
 refine (T2.out _).mono ?_
 rintro e W2 ⟨B1, M1, D1, rfl, hp, hb⟩
 replace HR := hid (keep_block HR.out hb)
 replace HL := hid (HL.out.trans (hb.mono HL.out.size))
 have P1 := hid hp
 clear hb hp
 have hq2 : Below W2.heap.size W2 (W2.alloc (.cells #[.int .i64 1] 3)) := (Below.refl _ _).alloc (Nat.le_refl _) _
 have P2 := hid (one_dec W2)
 replace HR := hid (keep_block HR.out hq2)
 replace P1 := hid (P1.out.below hq2)
 replace HL := hid (HL.out.trans (hq2.mono HL.out.size))
 clear hq2
 obtain ⟨hret, e0, e1, e2⟩ := rat_stored (m := false) HL.out (Nat.le_refl _) HR.out P1.out P2.out
 obtain ⟨⟨r0, r1, r2⟩, rf0, rf1, rf2⟩ := three_at HR.out
 go_wp2
 refine bodyPost_ret (v := .agg #[.bool false, .slice B1 M1 D1, .slice (some ⟨W2.heap.size, 0, none⟩) 1 1]) (by simp [results, Tryz.results29, go_sem, e0, e1, e2]) rfl hret
theorem whole_neg (m : Nat) (w : World) (h1 : 1 ≤ m) (h : m ≤ 9223372036854775808) :
  Calls Tryz.prog 29 #[.int .i64 (-(m : Int))] w (RawRet w true m 1) := by
 have T1 := hid (fun W => unsigned_any m W h1 h)
 have T2 := hid (fun W => dcalls_shaped (natOf_dec m W (by have := decDigits_len_le (d := m) (k := 19) (by omega); omega)))
 obtain ⟨nn, hnn⟩ : ∃ nn : Int, -(m : Int) = nn := ⟨_, rfl⟩
 have hq : decide (nn < 0) = true := decide_eq_true (by omega)
 rw [hnn] at T1 ⊢
 obtain ⟨s, hs⟩ : ∃ s : ByteArray, ⟨(Lib.decDigits m).toArray⟩ = s := ⟨_, rfl⟩
 rw [hs] at T1 T2
 obtain ⟨qHR, hb⟩ := rone_new w (.cells #[.bool false, .slice none 0 0, .slice none 0 0] 59)
 have HR := hid qHR
 have HL := hid hb
 clear hb qHR hnn hs h h1
 obtain ⟨W0, hW0⟩ : ∃ W0, (w.alloc (.cells #[.bool false, .slice none 0 0, .slice none 0 0] 59)) = W0 := ⟨_, rfl⟩
 rw [hW0] at HL HR
 have HW := hid hW0
 clear hW0
 go_enter Tryz.func29, Tryz.ntmps29
 go_wp2_with fail
 rw [HW.out]
 refine (T1.out _).mono ?_
 rintro e W1 ⟨rfl, hb⟩
 replace HR := hid (keep_block HR.out hb)
 replace HL := hid (HL.out.trans (hb.mono HL.out.size))
 clear hb
 go_wp2_with fail
 refine (T2.out _).mono ?_
 rintro e W2 ⟨B1, M1, D1, rfl, hp, hb⟩
 replace HR := hid (keep_block HR.out hb)
 replace HL := hid (HL.out.trans (hb.mono HL.out.size))
 have P1 := hid hp
 clear hb hp
 have hq2 : Below W2.heap.size W2 (W2.alloc (.cells #[.int .i64 1] 3)) := (Below.refl _ _).alloc (Nat.le_refl _) _
 have P2 := hid (one_dec W2)
 replace HR := hid (keep_block HR.out hq2)
 replace P1 := hid (P1.out.below hq2)
 replace HL := hid (HL.out.trans (hq2.mono HL.out.size))
 clear hq2
 obtain ⟨hret, e0, e1, e2⟩ := rat_stored (m := true) HL.out (Nat.le_refl _) HR.out P1.out P2.out
 obtain ⟨⟨r0, r1, r2⟩, rf0, rf1, rf2⟩ := three_at HR.out
 go_wp2
 refine bodyPost_ret (v := .agg #[.bool true, .slice B1 M1 D1, .slice (some ⟨W2.heap.size, 0, none⟩) 1 1]) (by simp [results, Tryz.results29, go_sem, e0, e1, e2]) rfl hret
theorem rwhole_any (n : Int) (w : World) (h0 : -9223372036854775808 ≤ n) (h1 : n < 9223372036854775808) :
  Calls Tryz.prog 29 #[.int .i64 n] w (RawRet w (decide (n < 0)) n.natAbs 1) := by
 by_cases h : n < 0
 ·have e := whole_neg n.natAbs w (by omega) (by omega)
  rw [show -(n.natAbs : Int) = n by omega] at e
  rw [decide_eq_true h]; exact e
 ·have e := whole_nat n.natAbs w (by omega)
  rw [show (n.natAbs : Int) = n by omega] at e
  rw [decide_eq_false h]; exact e
theorem ddivide_shaped {P : Program} {f : FuncId} {args : Array Value} {w : World} {n m : Nat} (h : Calls P f args w fun e w' => ∃ vq vr, e = .returned (.tuple #[vq, vr]) ∧ DecAt w' vq n ∧ DecAt w' vr m ∧ Below w.heap.size w w') :
  Calls P f args w fun e w' => ∃ A L C A' L' C', e = .returned (.tuple #[.slice A L C, .slice A' L' C']) ∧ (DecAt w' (.slice A L C) n ∧ DecAt w' (.slice A' L' C') m) ∧ Below w.heap.size w w' := h.mono fun _ _ ⟨_, _, he, hd, hd2, hb⟩ => let ⟨A, L, C, hs⟩ := hd.shape; let ⟨A', L', C', hs'⟩ := hd2.shape; ⟨A, L, C, A', L', C', by rw [← hs, ← hs']; exact he, ⟨by rw [← hs]; exact hd, by rw [← hs']; exact hd2⟩, hb⟩
theorem DecAt.len_zero {w : World} {A : Option Addr} {L C n : Nat} (h : DecAt w (.slice A L C) n) : L = 0 ↔ n = 0 := by
 obtain ⟨A', L', C', he, _, hz⟩ := h.len0
 injection he with e1 e2 e3
 rw [e2]; exact hz
end Num
namespace Num
open Go.RowKit Go.Lib
theorem raw_of {w : World} {A A' : Option Addr} {L C L' C' a b : Nat} {m : Bool} (h1 : DecAt w (.slice A L C) a) (h2 : DecAt w (.slice A' L' C') b) : RawAt w (.agg #[.bool m, .slice A L C, .slice A' L' C']) m a b := ⟨_, _, _, _, _, _, rfl, h1, h2⟩
theorem rat_shape {w : World} {m : Bool} {a b : Nat} {e : Ending} {w' : World} (h : RawRet w m a b e w') : ∃ A L C A' L' C', e = .returned (.agg #[.bool m, .slice A L C, .slice A' L' C']) ∧ (DecAt w' (.slice A L C) a ∧ DecAt w' (.slice A' L' C') b) ∧ Below w.heap.size w w' := by
 obtain ⟨_, rfl, ⟨A, L, C, A', L', C', rfl, h1, h2⟩, hb⟩ := h
 exact ⟨A, L, C, A', L', C', rfl, ⟨h1, h2⟩, hb⟩
theorem dlen_add {a b k : Nat} (h1 : (digs 10 a).length ≤ k) (h2 : (digs 10 b).length ≤ k) : (digs 10 (a + b)).length ≤ k + 1 := by
 refine digs_len_le ten2 ?_
 have ha := Nat.lt_of_lt_of_le (digs_upper ten2 a) (Nat.pow_le_pow_right (by decide) h1)
 have hb := Nat.lt_of_lt_of_le (digs_upper ten2 b) (Nat.pow_le_pow_right (by decide) h2)
 rw [Nat.pow_succ]
 omega
end Num
end Go.Proofs.YtjcdeeahjkfmoaaGreatDoor
