/- Numbers as texts of digits, fractions, values and the functions of fmath: contracts of the program's functions, joined from smaller texts. Conditions stand at each theorem. -/
import Derived.Test.YtcgglmoeneiokaaGreatDoorNumH

/- package fmath: LCM at whole numbers in 1 .. 10^15. Conditions: no partial result lies past 10^15; the tables lie as they are laid. -/
namespace Go.Proofs.YtcgglmoeneiokaaGreatDoor.Num
open Go.RowKit Go.Lib

def lcmL (ns : List Int) : Nat := ns.foldl (fun m n => m.lcm n.toNat) 1
theorem lcmL_snoc (ns : List Int) (n : Int) : lcmL (ns ++ [n]) = (lcmL ns).lcm n.toNat := by simp [lcmL]
theorem lcmF_pos : ∀ (ns : List Int) (m : Nat), 0 < m → (∀ n ∈ ns, 1 ≤ n) → 0 < ns.foldl (fun m n => m.lcm n.toNat) m
  | [], m, h, _ => h
  | n :: r, m, h, hn => lcmF_pos r (m.lcm n.toNat) (Nat.lcm_pos h (by have := hn n (by simp); omega)) (fun x hx => hn x (by simp [hx]))
theorem lcm_step (m n : Nat) : m * (n / m.gcd n) = m.lcm n := by
  unfold Nat.lcm
  rw [Nat.mul_div_assoc _ (Nat.gcd_dvd_right m n)]

set_option maxHeartbeats 4000000 in
set_option maxRecDepth 100000 in
theorem fn_lcm (ns : List Int) (b g C : Nat) (w : World) (h0 : 0 < ns.length) (h9 : ns.length ≤ 300) (hn01 : ∀ n ∈ ns, 1 ≤ n ∧ n ≤ 1000000000000000) (hlc : ∀ k, k ≤ ns.length → lcmL (ns.take k) ≤ 1000000000000000) (ha : ArgsAt w b (some ⟨g, 0, none⟩) ns.length C 0) (hn : AllNums w g (ratsOf ns)) (hgb : g ≠ b) (hg0 : g < w.heap.size) (hE : Env w) (hP : Past b) :
    Calls Tryz.prog 150 #[.pointer (some ⟨b, 0, none⟩)] w fun e w' => e = .returned (fracV ((lcmL ns : Int) : Rat)) ∧ w.grownBy w' (some b) := by
  have hb : Below w.heap.size w (w.alloc (.cells #[.string { data := #[] }, .string { data := #[] }] 24)) := (Below.refl _ _).alloc (Nat.le_refl _) _
  have HR := Lib.hid (heap_alloc_new w (.cells #[.string { data := #[] }, .string { data := #[] }] 24))
  have HL := Lib.hid hb
  have TN := Lib.hid (wholes_any ns b g C (w.alloc (.cells #[.string { data := #[] }, .string { data := #[] }] 24)) h0 h9 (fun n hn => by have := hn01 n hn; omega) (keep_block ha hb) (fun i hi => (hn i hi).below hb) hgb (by simp; omega) (hE.below hb) hP)
  have NRB := Lib.hid (show w.heap.size ≠ b from Nat.ne_of_gt (heap_lt ha))
  have HN := Lib.hid hn01
  have HLC := Lib.hid hlc
  obtain ⟨L, hL⟩ : ∃ L, ns.length = L := ⟨_, rfl⟩
  have HLL := Lib.hid hL
  rw [hL] at h0 h9 TN
  clear hb ha hn hgb hg0 hE hP hL hn01 hlc
  have TO := Lib.hid (fun W gg => of_any ((lcmL ns : Nat) : Int) W (by omega) (by have := HLC.out ns.length (Nat.le_refl _); rw [List.take_length] at this; omega) gg)
  obtain ⟨q, hq⟩ : ∃ q : Rat, (((lcmL ns : Nat) : Int) : Rat) = q := ⟨_, rfl⟩
  rw [hq] at TO ⊢
  rw [fracV_is q] at TO
  rw [fracV_is q]
  clear hq
  go_enter Tryz.func150, Tryz.ntmps150
  go_wp2_with fail
  refine TN.out.mono ?_
  rintro e w1 ⟨v, rfl, hown, henv, hg⟩
  obtain ⟨gi, cap, rfl, _, _, hin⟩ := ints_at hown HLL.out h0
  replace HR := Lib.hid (kept_block HR.out hg NRB.out)
  have HI0 := Lib.hid (show GcI w b gi w.heap.size ns w1 from ⟨hin, HR.out, henv, kept_trans (kept_below (b := b) HL.out) hg⟩)
  clear hown henv hg hin HR
  obtain ⟨WE, hWE⟩ : ∃ WE, WE = w1 := ⟨_, rfl⟩
  subst hWE
  have hL0 : ((L : Int) == 0) = false := by rw [beq_eq_false_iff_ne]; omega
  go_wp2_with fail
  go_loopg [18] L (fun gh v9 wx => ∃ k : Nat, v9 = .int .i64 (k : Int) ∧ k ≤ L ∧ gh = L - k ∧ wx = WE)
  case atStart => exact ⟨0, rfl, Nat.zero_le _, rfl, rfl⟩
  case round =>
    obtain ⟨k, rfl, hk, rfl, hw⟩ := hrel
    subst hw
    by_cases hlt : k < L
    · have hd : decide ((k : Int) < (L : Int)) = true := decide_eq_true (by omega)
      have hd2 : decide (k < L) = true := decide_eq_true hlt
      have hkn : k < ns.length := by rw [HLL.out]; exact hlt
      have c0 := HI0.out.row k hkn
      obtain ⟨n, hnn⟩ : ∃ n, ns[k] = n := ⟨_, rfl⟩
      obtain ⟨n0, n1⟩ := HN.out n (by rw [← hnn]; exact List.getElem_mem hkn)
      rw [hnn] at c0
      have hnz : (n == 0) = false := by rw [beq_eq_false_iff_ne]; omega
      have hi0 : (0 : Int) ≤ (k : Int) := by omega
      have hi1 : (k : Int) < (L : Int) := by omega
      clear hnn hkn
      go_wp2
      go_roundg (L - (k + 1))
      case measure => omega
      case rel => exact ⟨k + 1, by go_num, by omega, by omega, rfl⟩
    · have hd : decide ((k : Int) < (L : Int)) = false := decide_eq_false (by omega)
      have hd2 : decide (k < L) = false := decide_eq_false hlt
      clear hlt hk
      go_wp2_with fail
      go_loopg [6, 28] L (fun gh v6 v9 wx => ∃ k : Nat, v6 = .int .i64 ((lcmL (ns.take k) : Nat) : Int) ∧ v9 = .int .i64 (k : Int) ∧ k ≤ L ∧ gh = L - k ∧ GcI w b gi w.heap.size ns wx)
      case atStart => exact ⟨0, rfl, rfl, Nat.zero_le _, rfl, HI0.out⟩
      case round =>
        clear HI0 hd hd2
        obtain ⟨k, rfl, rfl, hk, rfl, hti⟩ := hrel
        have HTI := Lib.hid hti
        clear hti
        by_cases hlt : k < L
        · have hd : decide ((k : Int) < (L : Int)) = true := decide_eq_true (by omega)
          have hd2 : decide (k < L) = true := decide_eq_true hlt
          have hkn : k < ns.length := by rw [HLL.out]; exact hlt
          have c0 := HTI.out.row k hkn
          obtain ⟨n, hnn⟩ : ∃ n, ns[k] = n := ⟨_, rfl⟩
          obtain ⟨n0, n1⟩ := HN.out n (by rw [← hnn]; exact List.getElem_mem hkn)
          have hts : ns.take (k + 1) = ns.take k ++ [n] := by rw [List.take_succ_eq_append_getElem hkn, hnn]
          have hgl : lcmL (ns.take k) ≤ 1000000000000000 := HLC.out k (by rw [HLL.out]; exact hk)
          have hgn : lcmL (ns.take (k + 1)) ≤ 1000000000000000 := HLC.out (k + 1) (by rw [HLL.out]; exact hlt)
          have hgp : 0 < lcmL (ns.take k) := lcmF_pos _ 1 (by decide) (fun m hm => (HN.out m (List.mem_of_mem_take hm)).1)
          have hSN := show lcmL (ns.take (k + 1)) = (lcmL (ns.take k)).lcm n.toNat by rw [hts, lcmL_snoc]
          obtain ⟨N, hNn⟩ : ∃ N, n.toNat = N := ⟨_, rfl⟩
          have hnN : n = (N : Int) := by omega
          rw [hNn, ← lcm_step] at hSN
          rw [hnn, hnN] at c0
          obtain ⟨sk, hsk⟩ : ∃ z, lcmL (ns.take k) = z := ⟨_, rfl⟩
          obtain ⟨sn, hsn⟩ : ∃ z, lcmL (ns.take (k + 1)) = z := ⟨_, rfl⟩
          rw [hsk] at hgl hSN hgp
          rw [hsn] at hgn hSN
          have HSN := Lib.hid hsn
          have TG := Lib.hid (fun W => igcd_any sk N W (by omega) (by omega))
          have hG1 : 0 < sk.gcd N := Nat.gcd_pos_of_pos_left _ hgp
          have hKN : N / sk.gcd N ≤ N := Nat.div_le_self _ _
          obtain ⟨G, hG⟩ : ∃ G, sk.gcd N = G := ⟨_, rfl⟩
          rw [hG] at hG1 hSN TG hKN
          obtain ⟨K, hK⟩ : ∃ K, N / G = K := ⟨_, rfl⟩
          rw [hK] at hSN hKN
          obtain ⟨Q, hQ⟩ : ∃ Q, 1000000000000000 / sk = Q := ⟨_, rfl⟩
          have hKQ : K ≤ Q := by rw [← hQ]; exact (Nat.le_div_iff_mul_le hgp).2 (by rw [Nat.mul_comm, ← hSN]; exact hgn)
          have hQ1 : Q ≤ 1000000000000000 := by rw [← hQ]; exact Nat.div_le_self _ _
          have q1 : (N : Int) / (G : Int) = (K : Int) := by rw [← hK]; rfl
          have q2 : (N : Int).tdiv (G : Int) = (K : Int) := by rw [← hK]; rfl
          have q3 : (1000000000000000 : Int) / (sk : Int) = (Q : Int) := by rw [← hQ]; rfl
          have q4 : (1000000000000000 : Int).tdiv (sk : Int) = (Q : Int) := by rw [← hQ]; rfl
          have q5 : (sk : Int) * (K : Int) = (sn : Int) := by rw [hSN, Int.natCast_mul]
          have g0 : ((G : Int) == 0) = false := by rw [beq_eq_false_iff_ne]; omega
          have s0 : ((sk : Int) == 0) = false := by rw [beq_eq_false_iff_ne]; omega
          have d3 : decide ((Q : Int) < (K : Int)) = false := decide_eq_false (by omega)
          have d4 : decide (Q < K) = false := decide_eq_false (by omega)
          have hi0 : (0 : Int) ≤ (k : Int) := by omega
          have hi1 : (k : Int) < (L : Int) := by omega
          have hn9 : N ≤ 1000000000000000 := by omega
          rw [hsk]
          clear hts hnn hkn hsk hsn hnN hNn n0 n1 hSN hG hK hQ
          go_wp2_with fail
          refine (TG.out _).mono ?_
          rintro e w2 ⟨rfl, dq, rfl⟩
          have HT2 := Lib.hid (HTI.out.step (below_drewN (Below.refl _ _) dq))
          go_wp2
          go_roundg (L - (k + 1))
          case measure => omega
          case rel => exact ⟨k + 1, by rw [HSN.out], by go_num, by omega, by omega, HT2.out⟩
        · have hd : decide ((k : Int) < (L : Int)) = false := decide_eq_false (by omega)
          have hd2 : decide (k < L) = false := decide_eq_false hlt
          have hkL : k = L := by omega
          have hall : ns.take k = ns := by rw [hkL, ← HLL.out, List.take_length]
          rw [hall]
          clear hkL hall hlt
          go_wp2_with fail
          refine (TO.out _ HTI.out.env.tab).mono ?_
          rintro e w2 ⟨rfl, hb⟩
          have HT2 := Lib.hid (HTI.out.step hb)
          clear hb
          have HRR := Lib.hid HT2.out.res
          obtain ⟨⟨r0, r1⟩, rf0, rf1⟩ := two_at HRR.out
          have hF := set2_at HRR.out (.string (numS q)) (.string (denS q))
          obtain ⟨⟨e0, e1⟩, _⟩ := two_at hF
          have HG2 := Lib.hid (kept2 HT2.out.low (Nat.le_refl _) (.string (numS q)) (.string (denS q)))
          clear hF
          go_wp2
          refine bodyPost_ret (v := .agg #[.string (numS q), .string (denS q)]) (by simp [results, Tryz.results150, go_sem, e0, e1]) rfl ⟨rfl, HG2.out⟩
end Go.Proofs.YtcgglmoeneiokaaGreatDoor.Num

/- the law's math at GCD, LCM of whole numbers. Conditions: 1 .. 10^15; the tables lie as they are laid. -/
namespace Go.Proofs.YtcgglmoeneiokaaGreatDoor.Num
open Go.RowKit Go.Lib

theorem fits_rats {ns : List Int} (h : ∀ n ∈ ns, 0 ≤ n ∧ n ≤ 1000000000000000) : ∀ q ∈ ratsOf ns, fits q = true := by
  intro q hq
  obtain ⟨n, hn, rfl⟩ := List.mem_map.1 hq
  have := h n hn
  exact fits_int n (by omega)
theorem rats_len (ns : List Int) : (ratsOf ns).length = ns.length := by simp [ratsOf]

theorem m_GCD (ns : List Int) (qs : List Rat) (ab ao C : Nat) (w : World) (hrs : qs = ratsOf ns) (h0 : 0 < qs.length) (h9 : qs.length ≤ 255) (hn01 : ∀ n ∈ ns, 0 ≤ n ∧ n ≤ 1000000000000000) (hv : ValsAt w ab ao (numVals qs)) (hE : Env w) :
    Calls Tryz.prog 10 #[.string { data := #[71, 67, 68] }, .slice (some ⟨ab, ao, none⟩) qs.length C] w fun e w' => e = .returned (numVal (((gcdL ns : Int) : Rat))) ∧ Below w.heap.size w w' :=
  math_a_val 25 ⟨{ data := #[71, 67, 68] }, 1, 255, { data := #[97] }, true, 147⟩ (by decide) rfl rfl (fr_of 25 (by decide) (by kernel_rfl)) rfl (enters_of Tryz.func147 (by kernel_rfl) rfl) qs ab ao C (((gcdL ns : Int) : Rat)) w h0 (by omega) (by show (1 : Int) ≤ _; omega) (by show _ ≤ (255 : Int); omega) hv hE (by rw [hrs]; exact fits_rats (fun n hn => by have := hn01 n hn; omega)) (fits_int _ (by have := gcdL_le hn01; omega))
    (fun W b g cap hE' hP hlt hgl ha hn hne => (by subst hrs; rw [rats_len] at h0 h9 ha; exact fn_gcd ns b g cap W h0 (by omega) hn01 ha hn hne hgl hE' hP))

theorem m_LCM (ns : List Int) (qs : List Rat) (ab ao C : Nat) (w : World) (hrs : qs = ratsOf ns) (h0 : 0 < qs.length) (h9 : qs.length ≤ 255) (hn01 : ∀ n ∈ ns, 1 ≤ n ∧ n ≤ 1000000000000000) (hlc : ∀ k, k ≤ ns.length → lcmL (ns.take k) ≤ 1000000000000000) (hv : ValsAt w ab ao (numVals qs)) (hE : Env w) :
    Calls Tryz.prog 10 #[.string { data := #[76, 67, 77] }, .slice (some ⟨ab, ao, none⟩) qs.length C] w fun e w' => e = .returned (numVal (((lcmL ns : Int) : Rat))) ∧ Below w.heap.size w w' :=
  math_a_val 26 ⟨{ data := #[76, 67, 77] }, 1, 255, { data := #[97] }, true, 150⟩ (by decide) rfl rfl (fr_of 26 (by decide) (by kernel_rfl)) rfl (enters_of Tryz.func150 (by kernel_rfl) rfl) qs ab ao C (((lcmL ns : Int) : Rat)) w h0 (by omega) (by show (1 : Int) ≤ _; omega) (by show _ ≤ (255 : Int); omega) hv hE (by rw [hrs]; exact fits_rats (fun n hn => by have := hn01 n hn; omega)) (fits_int _ (by have := (by have := hlc ns.length (Nat.le_refl _); rwa [List.take_length] at this : lcmL ns ≤ 1000000000000000); omega))
    (fun W b g cap hE' hP hlt hgl ha hn hne => (by subst hrs; rw [rats_len] at h0 h9 ha; exact fn_lcm ns b g cap W h0 (by omega) hn01 hlc ha hn hne hgl hE' hP))
end Go.Proofs.YtcgglmoeneiokaaGreatDoor.Num

/- Fractions with bounds on their terms; when they fit. Plain: no program. -/
namespace Go.Proofs.YtcgglmoeneiokaaGreatDoor.Num

theorem nat_ne {b : Nat} (h : b ≠ 0) : ((b : Nat) : Rat) ≠ 0 := by
  intro e
  have : (b : Rat) = ((0 : Nat) : Rat) := e
  exact h (by exact_mod_cast this)
theorem int_ne {b : Int} (h : b ≠ 0) : ((b : Int) : Rat) ≠ 0 := by
  intro e
  have : (b : Rat) = ((0 : Int) : Rat) := e
  exact h (by exact_mod_cast this)
/-- a fraction with numerator at most A and denominator at most B, not always in lowest terms -/
def Sm (q : Rat) (A B : Nat) : Prop := ∃ (a : Int) (b : Nat), b ≠ 0 ∧ q = (a : Rat) / ((b : Nat) : Rat) ∧ a.natAbs ≤ A ∧ b ≤ B
theorem Sm.mono {q : Rat} {A B C D : Nat} (h : Sm q A B) (h1 : A ≤ C) (h2 : B ≤ D) : Sm q C D := by
  obtain ⟨a, b, hb, e, x, y⟩ := h
  exact ⟨a, b, hb, e, by omega, by omega⟩
theorem Sm.int (n : Int) {A : Nat} (h : n.natAbs ≤ A) : Sm (n : Rat) A 1 := ⟨n, 1, by decide, by grind, h, by decide⟩
theorem Sm.neg {q : Rat} {A B : Nat} (h : Sm q A B) : Sm (-q) A B := by
  obtain ⟨a, b, hb, rfl, x, y⟩ := h
  exact ⟨-a, b, hb, by rw [Rat.intCast_neg]; grind, by omega, y⟩
theorem Sm.mul {p q : Rat} {A B C D : Nat} (h : Sm p A B) (k : Sm q C D) : Sm (p * q) (A * C) (B * D) := by
  obtain ⟨a, b, hb, rfl, x, y⟩ := h
  obtain ⟨c, d, hd, rfl, z, u⟩ := k
  refine ⟨a * c, b * d, Nat.mul_ne_zero hb hd, ?_, ?_, Nat.mul_le_mul y u⟩
  · have := nat_ne hb; have := nat_ne hd
    rw [Rat.intCast_mul, Rat.natCast_mul]; grind
  · rw [Int.natAbs_mul]; exact Nat.mul_le_mul x z
theorem Sm.add {p q : Rat} {A B C D : Nat} (h : Sm p A B) (k : Sm q C D) : Sm (p + q) (A * D + C * B) (B * D) := by
  obtain ⟨a, b, hb, rfl, x, y⟩ := h
  obtain ⟨c, d, hd, rfl, z, u⟩ := k
  refine ⟨a * (d : Int) + c * (b : Int), b * d, Nat.mul_ne_zero hb hd, ?_, ?_, Nat.mul_le_mul y u⟩
  · have := nat_ne hb; have := nat_ne hd
    rw [Rat.intCast_add, Rat.intCast_mul, Rat.intCast_mul, Rat.natCast_mul, Rat.intCast_natCast, Rat.intCast_natCast]; grind
  · refine Nat.le_trans (Int.natAbs_add_le _ _) ?_
    rw [Int.natAbs_mul, Int.natAbs_mul]
    exact Nat.add_le_add (Nat.mul_le_mul x (by simpa using u)) (Nat.mul_le_mul z (by simpa using y))
theorem Sm.sub {p q : Rat} {A B C D : Nat} (h : Sm p A B) (k : Sm q C D) : Sm (p - q) (A * D + C * B) (B * D) := by
  rw [Rat.sub_eq_add_neg]; exact h.add k.neg
theorem Sm.inv {q : Rat} {A B : Nat} (h : Sm q A B) (h0 : q ≠ 0) : Sm q⁻¹ B A := by
  obtain ⟨a, b, hb, rfl, x, y⟩ := h
  have ha : a ≠ 0 := by rintro rfl; exact h0 (by grind)
  have h1 := nat_ne hb
  have h2 := int_ne ha
  by_cases hs : 0 < a
  · refine ⟨(b : Int), a.natAbs, by omega, ?_, by simpa using y, x⟩
    have e : ((a.natAbs : Nat) : Rat) = (a : Rat) := by rw [← Rat.intCast_natCast, Int.natAbs_of_nonneg (by omega)]
    rw [e, Rat.intCast_natCast]; grind
  · refine ⟨-(b : Int), a.natAbs, by omega, ?_, by simpa using y, x⟩
    have e : ((a.natAbs : Nat) : Rat) = -(a : Rat) := by
      rw [← Rat.intCast_natCast, show ((a.natAbs : Nat) : Int) = -a by omega, Rat.intCast_neg]
    rw [e, Rat.intCast_neg, Rat.intCast_natCast]; grind
theorem Sm.div {p q : Rat} {A B C D : Nat} (h : Sm p A B) (k : Sm q C D) (h0 : q ≠ 0) : Sm (p / q) (A * D) (B * C) := by
  rw [Rat.div_def]; exact h.mul (k.inv h0)
theorem floor_ratio (a : Int) (b : Nat) (hb : b ≠ 0) : ((a : Rat) / ((b : Nat) : Rat)).floor = a / (b : Int) := by
  have h1 := nat_ne hb
  have hp : (0 : Rat) < ((b : Nat) : Rat) := by
    have : ((0 : Nat) : Rat) < ((b : Nat) : Rat) := by exact_mod_cast (show 0 < b by omega)
    exact this
  have hb' : (0 : Int) < b := by omega
  apply Int.le_antisymm
  · rw [Int.le_ediv_iff_mul_le hb']
    have h := Rat.floor_le ((a : Rat) / ((b : Nat) : Rat))
    have h2 := Rat.mul_le_mul_of_nonneg_right h (Rat.le_of_lt hp)
    rw [Rat.div_mul_cancel h1] at h2
    exact_mod_cast h2
  · rw [Rat.le_floor_iff]
    have h3 : (a / (b : Int)) * (b : Int) ≤ a := Int.ediv_mul_le a (by omega)
    have h4 : ((a / (b : Int) : Int) : Rat) * ((b : Nat) : Rat) ≤ (a : Rat) := by exact_mod_cast h3
    have h5 := Rat.mul_le_mul_of_nonneg_right h4 (Rat.le_of_lt (Rat.inv_pos.2 hp))
    have h6 : ((a / (b : Int) : Int) : Rat) * ((b : Nat) : Rat) * (((b : Nat) : Rat))⁻¹ = ((a / (b : Int) : Int) : Rat) := by grind
    rw [h6] at h5
    rw [Rat.div_def]; exact h5
theorem Sm.floor {q : Rat} {A B : Nat} (h : Sm q A B) : Sm ((q.floor : Int) : Rat) A 1 := by
  obtain ⟨a, b, hb, rfl, x, y⟩ := h
  rw [floor_ratio a b hb]
  exact Sm.int _ (Nat.le_trans (Int.natAbs_ediv_le_natAbs _ _) x)
theorem Sm.abs {q : Rat} {A B : Nat} (h : Sm q A B) : Sm (if q < 0 then -q else q) A B := by
  split
  · exact h.neg
  · exact h
theorem Sm.fits {q : Rat} {A B : Nat} (h : Sm q A B) (h1 : A < 10 ^ 300) (h2 : B < 10 ^ 300) : fits q = true := by
  obtain ⟨a, b, hb, rfl, x, y⟩ := h
  have e := ratio_of a (b : Int) (by omega)
  rw [Rat.intCast_natCast] at e
  rw [← e]
  unfold Num.fits
  have hu : up (ratOf (Num.neg (a : Rat) != Num.neg (((b : Nat) : Int) : Rat)) a.natAbs ((b : Nat) : Int).natAbs) ≤ A := by
    rw [ratOf_up _ _ (by omega)]; exact Nat.le_trans (Nat.div_le_self _ _) x
  have hd : (ratOf (Num.neg (a : Rat) != Num.neg (((b : Nat) : Int) : Rat)) a.natAbs ((b : Nat) : Int).natAbs).den ≤ B := by
    rw [ratOf_den _ _ (by omega)]; exact Nat.le_trans (Nat.div_le_self _ _) (by simpa using y)
  rw [Rat.intCast_natCast] at hu hd
  rw [decide_eq_true (dec_len_of (by decide) (Nat.lt_of_le_of_lt hu h1)), decide_eq_true (dec_len_of (by decide) (Nat.lt_of_le_of_lt hd h2))]; rfl
theorem Sm.ratio (a b : Int) (hb : b ≠ 0) {A B : Nat} (h1 : a.natAbs ≤ A) (h2 : b.natAbs ≤ B) : Sm ((a : Rat) / (b : Rat)) (A * 1) (1 * B) :=
  (Sm.int a h1).div (Sm.int b h2) (int_ne hb)
theorem Sm.hundredths (n : Int) : Sm (hundredths n) 1000000 100 := by
  unfold Num.hundredths
  exact (Sm.ratio _ 100 (by decide) (A := 1000000) (B := 100) (by omega) (by decide)).mono (by decide) (by decide)
end Go.Proofs.YtcgglmoeneiokaaGreatDoor.Num
