/- Numbers as texts of digits, fractions, values and the functions of fmath: contracts of the program's functions, joined from smaller texts. Conditions stand at each theorem. -/
import Derived.Test.YtgponoogifeopaaGreatDoorIvcB
import Derived.Test.YtgponoogifeopaaGreatDoorIvdA
import Derived.Test.YtgponoogifeopaaGreatDoorIvrA
import Derived.Test.YtgponoogifeopaaGreatDoorIvmA
import Derived.Test.YtgponoogifeopaaGreatDoorNumH

/- package fmath: MDETERM's and MINVERSE's functions. Conditions: the tables lie as they are laid; at most 4 rows; the numbers on the way fit. -/
namespace Go.Proofs.YtgponoogifeopaaGreatDoor.Num.Mt
open Go.RowKit Go.Lib Num

/-- the inverse, by cofactors -/
def invM (n : Nat) (M : Mx) : Mx := fun r c => adjM n M r c / detM n M
theorem inv_is {n : Nat} {M out : Mx} (h4 : n ≤ 4) (hd : detM n M ≠ 0) (h : ∀ r c, r < n → c < n → mulM n M out r c = unitM r c) {r c : Nat} (hr : r < n) (hc : c < n) : out r c = invM n M r c := by
  have h1 := inv_adj h4 h hr hc
  unfold invM
  rw [← h1, Rat.div_def]
  have h2 := Rat.mul_inv_cancel _ hd
  grind
theorem items_congr {n L : Nat} {m m' : Mx} (hL : n * n = L) (h0 : 0 < n) (h : ∀ r c, r < n → c < n → m r c = m' r c) : itemsL m n L = itemsL m' n L := by
  unfold itemsL
  apply List.map_congr_left
  intro t ht
  have ht := List.mem_range.1 ht
  exact h _ _ ((Nat.div_lt_iff_lt_mul h0).2 (by rw [hL]; exact ht)) (Nat.mod_lt _ h0)
section
variable (qs : List Rat) (n L lg lc b g C : Nat) (dd : Rat) (a0 dm : Nat) (W : World) (h0 : 1 ≤ n) (h4 : n ≤ 4) (hL : n * n = L) (hq : qs.length = L) (ha : ArgsAt W b (some ⟨g, 0, none⟩) 1 C 0) (hv : ValsAt W g 0 [arrVal' (n : Int) (n : Int) lg L lc]) (hva : ValsAt W lg 0 (numVals qs)) (hne : g ≠ b) (hE : Env W) (hP : Past b)
  (hdd : dd ≠ 0) (hdm : Sm dd dm 1) (hB : BdM n dd a0 1 (matL qs n))
include h0 h4 hL hq ha hv hva hne hE hP hdd hdm hB
set_option maxHeartbeats 4000000 in
set_option maxRecDepth 100000 in
theorem det_any (ok : BndOk false a0 dm) : Calls Tryz.prog 170 #[.pointer (some ⟨b, 0, none⟩)] W fun e w' => e = .returned (fracV (detM n (matL qs n))) ∧ W.grownBy w' (some b) := by
  have hb0 : Below W.heap.size W (W.alloc (.cells #[.string { data := #[] }, .string { data := #[] }] 24)) := (Below.refl _ _).alloc (Nat.le_refl _) _
  have hl0 : 0 < qs.length := by rw [hq, ← hL]; exact Nat.mul_pos h0 h0
  have HB0 := Lib.hid (heap_lt ha)
  have HR := Lib.hid (heap_alloc_new W (.cells #[.string { data := #[] }, .string { data := #[] }] 24))
  have HE0 := Lib.hid hE
  have HP := Lib.hid hP
  have HB := Lib.hid hB
  have TS := Lib.hid (sq_any qs n L lg lc b g C (W.alloc (.cells #[.string { data := #[] }, .string { data := #[] }] 24)) h0 (by omega) hL hq (keep_block ha hb0) (hv.below hb0) (hva.below hb0) hne (hE.below hb0) hP)
  have HG := Lib.hid (kept_below (b := b) hb0)
  obtain ⟨q, hqd⟩ : ∃ q, detM n (matL qs n) = q := ⟨_, rfl⟩
  have HQD := Lib.hid hqd
  rw [hqd, fracV_is q]
  clear hb0 hl0 ha hv hva hE hqd
  go_enter Tryz.func170, Tryz.ntmps170
  go_wp2_with fail
  refine TS.out.mono ?_
  rintro e w1 ⟨bm, gm, rfl, hm, hbm, hgm, hg⟩
  replace HR := Lib.hid (kept_block HR.out hg (by have := HB0.out; omega))
  replace HG := Lib.hid (kept_trans HG.out hg)
  have hs : (W.alloc (.cells #[.string { data := #[] }, .string { data := #[] }] 24)).heap.size = W.heap.size + 1 := by simp
  have TE := Lib.hid (elim_any false n (matL qs n) dd a0 dm (W.heap.size + 1) bm n gm w1 h0 h4 hm (by omega) (fun r hr => by have := hgm r hr; omega) ok hdd hdm HB.out (HE0.out.kept HG.out HP.out) (HE0.out.past (Nat.le_succ _)))
  clear hm hbm hgm hg hs
  go_wp2_with fail
  refine TE.out.mono ?_
  rintro e w2 ⟨hret, hb⟩
  have HD : ∃ V, e = .returned (.tuple #[.agg #[.string (numS (detM n (matL qs n))), .string (denS (detM n (matL qs n)))], V]) := by
    rcases hret with ⟨h1, h2⟩ | ⟨_, bo, go, out, h2, _⟩
    · exact ⟨_, by rw [h1]; exact h2⟩
    · exact ⟨_, h2⟩
  obtain ⟨V, rfl⟩ := HD
  rw [HQD.out]
  replace HR := Lib.hid ((hb.block W.heap.size (Nat.lt_succ_self _)).trans HR.out)
  replace HG := Lib.hid (below_only HG.out (hb.mono (Nat.le_succ _)))
  have HLT := Lib.hid (heap_lt HR.out)
  have hb3 : Below w2.heap.size w2 (w2.alloc (.cells #[.string (numS q), .string (denS q)] 24)) := (Below.refl _ _).alloc (Nat.le_refl _) _
  have HQ := Lib.hid (heap_alloc_new w2 (.cells #[.string (numS q), .string (denS q)] 24))
  replace HR := Lib.hid (keep_block HR.out hb3)
  replace HG := Lib.hid (kept_trans HG.out (kept_below (b := b) hb3))
  obtain ⟨⟨x0, x1⟩, f0, f1⟩ := two_at HR.out
  obtain ⟨⟨y0, y1⟩, _⟩ := two_at HQ.out
  have hset := set2_at HR.out (.string (numS q)) (.string (denS q))
  obtain ⟨⟨r0, r1⟩, _⟩ := two_at hset
  have HL := Lib.hid (below_only HG.out (put2_below (Nat.le_refl W.heap.size) (w2.alloc (.cells #[.string (numS q), .string (denS q)] 24)) (.string (numS q)) (.string (denS q))))
  clear hset hret hb hb3
  go_wp2
  refine bodyPost_ret (v := .agg #[.string (numS q), .string (denS q)]) (by simp [results, Tryz.results170, go_sem, r0, r1]) rfl ⟨rfl, HL.out⟩
set_option maxHeartbeats 4000000 in
set_option maxRecDepth 100000 in
theorem inv_any (ok : BndOk true a0 dm) (hd : detM n (matL qs n) ≠ 0) (hfd : fits (detM n (matL qs n)) = true) :
    Calls Tryz.prog 173 #[.pointer (some ⟨b, 0, none⟩)] W fun e w' => ∃ lg' cap, e = .returned (.agg #[.int .i64 5, .string { data := #[] }, .string { data := #[] }, .string { data := #[] }, .bool false, .int .i64 0, .int .i64 (n : Int), .int .i64 (n : Int), .slice (some ⟨lg', 0, none⟩) L cap]) ∧ ValsAt w' lg' 0 (numVals (itemsL (invM n (matL qs n)) n L)) ∧ W.heap.size ≤ lg' ∧ W.grownBy w' (some b) := by
  have hb0 : Below W.heap.size W (W.alloc (.cells #[.int .i64 0, .string { data := #[] }, .string { data := #[] }, .string { data := #[] }, .bool false, .int .i64 0, .int .i64 0, .int .i64 0, .slice none 0 0] 27)) := (Below.refl _ _).alloc (Nat.le_refl _) _
  have HB0 := Lib.hid (heap_lt ha)
  have HR := Lib.hid (heap_alloc_new W (.cells #[.int .i64 0, .string { data := #[] }, .string { data := #[] }, .string { data := #[] }, .bool false, .int .i64 0, .int .i64 0, .int .i64 0, .slice none 0 0] 27))
  have HE0 := Lib.hid hE
  have HP := Lib.hid hP
  have HB := Lib.hid hB
  have HDZ := Lib.hid hd
  have TS := Lib.hid (sq_any qs n L lg lc b g C (W.alloc (.cells #[.int .i64 0, .string { data := #[] }, .string { data := #[] }, .string { data := #[] }, .bool false, .int .i64 0, .int .i64 0, .int .i64 0, .slice none 0 0] 27)) h0 (by omega) hL hq (keep_block ha hb0) (hv.below hb0) (hva.below hb0) hne (hE.below hb0) hP)
  have HG := Lib.hid (kept_below (b := b) hb0)
  have HLL := Lib.hid hL
  obtain ⟨q, hqd⟩ : ∃ q, detM n (matL qs n) = q := ⟨_, rfl⟩
  have HQD := Lib.hid hqd
  rw [hqd] at hfd
  have TG := Lib.hid (fun W' ge => fm_sign q W' hfd ge)
  rw [fracV_is q] at TG
  clear hb0 ha hv hva hE hd hL hfd
  go_enter Tryz.func173, Tryz.ntmps173
  go_wp2_with fail
  refine TS.out.mono ?_
  rintro e w1 ⟨bm, gm, rfl, hm, hbm, hgm, hg⟩
  replace HR := Lib.hid (kept_block HR.out hg (by have := HB0.out; omega))
  replace HG := Lib.hid (kept_trans HG.out hg)
  have hs : (W.alloc (.cells #[.int .i64 0, .string { data := #[] }, .string { data := #[] }, .string { data := #[] }, .bool false, .int .i64 0, .int .i64 0, .int .i64 0, .slice none 0 0] 27)).heap.size = W.heap.size + 1 := by simp
  have TE := Lib.hid (elim_any true n (matL qs n) dd a0 dm (W.heap.size + 1) bm n gm w1 h0 h4 hm (by omega) (fun r hr => by have := hgm r hr; omega) ok hdd hdm HB.out (HE0.out.kept HG.out HP.out) (HE0.out.past (Nat.le_succ _)))
  have HS1 := Lib.hid (show W.heap.size + 1 ≤ w1.heap.size by have := heap_lt HR.out; omega)
  clear hm hbm hgm hg hs
  go_wp2_with fail
  refine TE.out.mono ?_
  rintro e w2 ⟨hret, hb⟩
  rcases hret with ⟨h1, _⟩ | ⟨_, bo, go, out, rfl, hbo, hinv⟩
  · exact absurd h1 HDZ.out
  obtain ⟨hmo, hu, _, hfo⟩ := hinv rfl
  rw [hqd]
  have HMO := Lib.hid hmo
  have HFO := Lib.hid hfo
  have HIT := Lib.hid (items_congr HLL.out (by omega) (fun r c hr hc => inv_is h4 HDZ.out hu hr hc))
  replace HR := Lib.hid ((hb.block W.heap.size (Nat.lt_succ_self _)).trans HR.out)
  replace HG := Lib.hid (below_only HG.out (hb.mono (Nat.le_succ _)))
  have hb3 : Below w2.heap.size w2 (w2.alloc (.cells #[.string (numS q), .string (denS q)] 24)) := (Below.refl _ _).alloc (Nat.le_refl _) _
  have HQ := Lib.hid (heap_alloc_new w2 (.cells #[.string (numS q), .string (denS q)] 24))
  replace HR := Lib.hid (keep_block HR.out hb3)
  replace HG := Lib.hid (kept_trans HG.out (kept_below (b := b) hb3))
  replace HMO := Lib.hid (HMO.out.below hb3)
  have HE3 := Lib.hid (HE0.out.kept HG.out HP.out)
  obtain ⟨⟨y0, y1⟩, _⟩ := two_at HQ.out
  clear hb hb3 hinv hmo hfo hu hbo hqd
  go_wp2_with fail
  refine (TG.out _ HE3.out).mono ?_
  rintro e w3 ⟨rfl, hb⟩
  replace HR := Lib.hid (keep_block HR.out hb)
  replace HG := Lib.hid (kept_trans HG.out (kept_below (b := b) hb))
  replace HMO := Lib.hid (HMO.out.below hb)
  replace HE3 := Lib.hid (HE3.out.below hb)
  have hqz : q ≠ 0 := by rw [← HQD.out]; exact HDZ.out
  have hc : (cmpR q 0 == 0) = false := by simp only [beq_eq_false_iff_ne, ne_eq]; exact cmp_ne hqz
  have hc2 : decide (cmpR q 0 = 0) = false := decide_eq_false (cmp_ne hqz)
  have hc3 : (cmpR q 0 = 0) = False := eq_false (cmp_ne hqz)
  have TV := Lib.hid (value_mx out n bo n go w3 h0 (by omega) HMO.out HFO.out HE3.out)
  clear hb hqz y0 y1 HQ
  go_wp2_with fail
  refine TV.out.mono ?_
  rintro e w4 ⟨lg', cap, rfl, hvals, hlg, hb⟩
  rw [HLL.out, HIT.out] at hvals
  rw [HLL.out]
  have HVA := Lib.hid hvals
  have HLG := Lib.hid (show W.heap.size < lg' by have := HG.out.size; omega)
  replace HR := Lib.hid (keep_block HR.out hb)
  replace HG := Lib.hid (kept_trans HG.out (kept_below (b := b) hb))
  clear hb hlg hvals hc hc2 hc3
  obtain ⟨R, hR⟩ : ∃ R, W.heap.size = R := ⟨_, rfl⟩
  have HRR := Lib.hid hR
  have hres := HR.out
  rw [hR] at hres
  obtain ⟨⟨x0, x1, x2, x3, x4, x5, x6, x7, x8⟩, z0, z1, z2, z3, z4, z5, z6, z7, z8⟩ := nine_at hres
  have hset := set9_at hres (.int .i64 5) (.string { data := #[] }) (.string { data := #[] }) (.string { data := #[] }) (.bool false) (.int .i64 0) (.int .i64 (n : Int)) (.int .i64 (n : Int)) (.slice (some ⟨lg', 0, none⟩) L cap)
  obtain ⟨⟨r0, r1, r2, r3, r4, r5, r6, r7, r8⟩, _⟩ := nine_at hset
  have HVB := Lib.hid (vals_other HVA.out (set9_other w4 R (.int .i64 5) (.string { data := #[] }) (.string { data := #[] }) (.string { data := #[] }) (.bool false) (.int .i64 0) (.int .i64 (n : Int)) (.int .i64 (n : Int)) (.slice (some ⟨lg', 0, none⟩) L cap) (show lg' ≠ R by have := HLG.out; omega)))
  have HL := Lib.hid (below_only HG.out (put9_below (Nat.le_of_eq HRR.out) w4 (.int .i64 5) (.string { data := #[] }) (.string { data := #[] }) (.string { data := #[] }) (.bool false) (.int .i64 0) (.int .i64 (n : Int)) (.int .i64 (n : Int)) (.slice (some ⟨lg', 0, none⟩) L cap)))
  clear hset hR hres
  rw [HRR.out]
  go_wp2
  refine bodyPost_ret (v := .agg #[.int .i64 5, .string { data := #[] }, .string { data := #[] }, .string { data := #[] }, .bool false, .int .i64 0, .int .i64 (n : Int), .int .i64 (n : Int), .slice (some ⟨lg', 0, none⟩) L cap]) (by simp [results, Tryz.results173, go_sem, r0, r1, r2, r3, r4, r5, r6, r7, r8]) rfl ⟨lg', cap, rfl, HVB.out, by have := HLG.out; have := HRR.out; omega, HL.out⟩
set_option maxHeartbeats 4000000 in
set_option maxRecDepth 100000 in
theorem inv_zero (ok : BndOk true a0 dm) (hd : detM n (matL qs n) = 0) :
    Calls Tryz.prog 173 #[.pointer (some ⟨b, 0, none⟩)] W fun e w' => e = stopped 5 ∧ W.grownBy w' (some b) := by
  have hb0 : Below W.heap.size W (W.alloc (.cells #[.int .i64 0, .string { data := #[] }, .string { data := #[] }, .string { data := #[] }, .bool false, .int .i64 0, .int .i64 0, .int .i64 0, .slice none 0 0] 27)) := (Below.refl _ _).alloc (Nat.le_refl _) _
  have HB0 := Lib.hid (heap_lt ha)
  have HE0 := Lib.hid hE
  have HP := Lib.hid hP
  have HB := Lib.hid hB
  have HDZ := Lib.hid hd
  have TS := Lib.hid (sq_any qs n L lg lc b g C (W.alloc (.cells #[.int .i64 0, .string { data := #[] }, .string { data := #[] }, .string { data := #[] }, .bool false, .int .i64 0, .int .i64 0, .int .i64 0, .slice none 0 0] 27)) h0 (by omega) hL hq (keep_block ha hb0) (hv.below hb0) (hva.below hb0) hne (hE.below hb0) hP)
  have HG := Lib.hid (kept_below (b := b) hb0)
  have TG := Lib.hid (fun W' ge => fm_sign 0 W' (fits_int 0 (by decide)) ge)
  rw [fracV_is 0] at TG
  clear hb0 ha hv hva hE hd hL
  go_enter Tryz.func173, Tryz.ntmps173
  go_wp2_with fail
  refine TS.out.mono ?_
  rintro e w1 ⟨bm, gm, rfl, hm, hbm, hgm, hg⟩
  replace HG := Lib.hid (kept_trans HG.out hg)
  have hs : (W.alloc (.cells #[.int .i64 0, .string { data := #[] }, .string { data := #[] }, .string { data := #[] }, .bool false, .int .i64 0, .int .i64 0, .int .i64 0, .slice none 0 0] 27)).heap.size = W.heap.size + 1 := by simp
  have TE := Lib.hid (elim_any true n (matL qs n) dd a0 dm (W.heap.size + 1) bm n gm w1 h0 h4 hm (by omega) (fun r hr => by have := hgm r hr; omega) ok hdd hdm HB.out (HE0.out.kept HG.out HP.out) (HE0.out.past (Nat.le_succ _)))
  clear hm hbm hgm hg hs
  go_wp2_with fail
  refine TE.out.mono ?_
  rintro e w2 ⟨hret, hb⟩
  rcases hret with ⟨_, rfl⟩ | ⟨h1, _⟩
  · replace HG := Lib.hid (below_only HG.out (hb.mono (Nat.le_succ _)))
    obtain ⟨q, hqd⟩ : ∃ q, (0 : Rat) = q := ⟨_, rfl⟩
    rw [hqd] at TG ⊢
    have hb3 : Below w2.heap.size w2 (w2.alloc (.cells #[.string (numS q), .string (denS q)] 24)) := (Below.refl _ _).alloc (Nat.le_refl _) _
    have HQ := Lib.hid (heap_alloc_new w2 (.cells #[.string (numS q), .string (denS q)] 24))
    replace HG := Lib.hid (kept_trans HG.out (kept_below (b := b) hb3))
    have HE3 := Lib.hid (HE0.out.kept HG.out HP.out)
    obtain ⟨⟨y0, y1⟩, _⟩ := two_at HQ.out
    have HQD := Lib.hid (show cmpR q q = 0 from if_pos rfl)
    clear hb hb3 hqd
    go_wp2_with fail
    refine (TG.out _ HE3.out).mono ?_
    rintro e w3 ⟨rfl, hb⟩
    replace HG := Lib.hid (kept_trans HG.out (kept_below (b := b) hb))
    rw [HQD.out]
    clear hb y0 y1 HQ
    go_wp2_with fail
    refine (stop_code 5 _ (by decide)).mono ?_
    rintro e w4 ⟨rfl, rfl⟩
    exact ⟨rfl, rfl, HG.out⟩
  · exact absurd HDZ.out h1
end
end Go.Proofs.YtgponoogifeopaaGreatDoor.Num.Mt

/- The law's math at MDETERM, MINVERSE, MMULT and MUNIT. Conditions: the tables lie as they are laid; at most 4 rows (12 for MMULT); the numbers on the way fit. -/
namespace Go.Proofs.YtgponoogifeopaaGreatDoor.Num.Mt
open Go.RowKit Go.Lib Num

theorem check_one {w W : World} {n L lg lc : Nat} {qs : List Rat} (h0 : 1 ≤ n) (h9 : n ≤ 30) (hL : n * n = L) (hq : qs.length = L) (hqs : ∀ q ∈ qs, fits q = true) (hva : ValsAt w lg 0 (numVals qs)) (hE : Env w) (hb : Below w.heap.size w W) :
    Calls Tryz.prog 28 #[(arrVal' (n : Int) (n : Int) lg L lc).agg] W fun e w' => e = .returned (.int .i64 0) ∧ Below W.heap.size W w' := by
  have hl : L ≤ 900 := by rw [← hL]; exact Nat.mul_le_mul h9 h9
  have := check_arr qs (n : Int) (n : Int) lg lc W (by omega) (by omega) (by omega) (by omega) (by rw [hq, ← hL, Int.natCast_mul]) hqs (by omega) (hva.below hb) (hE.below hb)
  rw [hq] at this
  exact this
section
variable (qs : List Rat) (n L lg lc ab ao C : Nat) (dd : Rat) (a0 dm : Nat) (w : World) (h0 : 1 ≤ n) (h4 : n ≤ 4) (hL : n * n = L) (hq : qs.length = L) (hv : ValsAt w ab ao [arrVal' (n : Int) (n : Int) lg L lc]) (hva : ValsAt w lg 0 (numVals qs)) (hE : Env w) (hqs : ∀ q ∈ qs, fits q = true)
  (hdd : dd ≠ 0) (hdm : Sm dd dm 1) (hB : BdM n dd a0 1 (matL qs n)) (hfd : fits (detM n (matL qs n)) = true)
include h0 h4 hL hq hv hva hE hqs hdd hdm hB hfd
theorem m_MDETERM (ok : BndOk false a0 dm) :
    Calls Tryz.prog 7 #[.string { data := #[77, 68, 69, 84, 69, 82, 77] }, .slice (some ⟨ab, ao, none⟩) 1 C] w fun e w' => e = .returned (numVal (detM n (matL qs n))) ∧ Below w.heap.size w w' :=
  math_of { data := #[77, 68, 69, 84, 69, 82, 77] } (.slice (some ⟨ab, ao, none⟩) 1 C) (numVal' (detM n (matL qs n))) w ⟨_, _, _, rfl⟩ (fun W b hb hT =>
    run_a_val 34 ⟨{ data := #[77, 68, 69, 84, 69, 82, 77] }, 1, 1, { data := #[97] }, true, 170⟩ (by decide) rfl rfl (fr_of 34 (by decide) (by kernel_rfl)) [arrVal' (n : Int) (n : Int) lg L lc] b ab ao C (numVal' (detM n (matL qs n))) W (by simp) (by simp) (by simp) (by simp) (hv.below hb) (hE.below hb) hT ⟨rfl, rfl, rfl, rfl, rfl⟩ (fun W g => check_num _ W hfd g)
      (fun v hv' W' h => by
        rw [List.mem_singleton.1 hv']
        exact check_one h0 (by omega) hL hq hqs hva hE (hb.trans (h.mono hb.size)))
      (fun W' e g cap hbw hE' hfn hva' => entry1_val _ g cap e [arrVal' (n : Int) (n : Int) lg L lc] (detM n (matL qs n)) W' rfl hfn (enters_of Tryz.func170 (by kernel_rfl) rfl) hE' hva' hfd
        (fun W'' b' hb'' hE'' hP hlt ha hvv hne => det_any qs n L lg lc b' g cap dd a0 dm W'' h0 h4 hL hq ha hvv (((hva.below hb).below hbw).below hb'') hne hE'' hP hdd hdm hB ok) (by simp)))
theorem m_MINVERSE (ok : BndOk true a0 dm) (hd : detM n (matL qs n) ≠ 0) (hfi : ∀ q ∈ itemsL (invM n (matL qs n)) n L, fits q = true) :
    Calls Tryz.prog 7 #[.string { data := #[77, 73, 78, 86, 69, 82, 83, 69] }, .slice (some ⟨ab, ao, none⟩) 1 C] w fun e w' => ∃ lg cap, e = .returned (arrVal' (n : Int) (n : Int) lg L cap).agg ∧ ValsAt w' lg 0 (numVals (itemsL (invM n (matL qs n)) n L)) ∧ w.heap.size ≤ lg ∧ Below w.heap.size w w' :=
  math_arr { data := #[77, 73, 78, 86, 69, 82, 83, 69] } (.slice (some ⟨ab, ao, none⟩) 1 C) n L (itemsL (invM n (matL qs n)) n L) w ⟨_, _, _, rfl⟩ (fun W b hb hT =>
    run_a_arr 35 ⟨{ data := #[77, 73, 78, 86, 69, 82, 83, 69] }, 1, 1, { data := #[97] }, false, 173⟩ (by decide) rfl rfl (fr_of 35 (by decide) (by kernel_rfl)) [arrVal' (n : Int) (n : Int) lg L lc] b ab ao C n L (itemsL (invM n (matL qs n)) n L) h0 (by omega) hL (itemsL_len _ _ _) hfi W (by simp) (by simp) (by simp) (by simp) (hv.below hb) (hE.below hb) hT
      (fun v hv' W' h => by
        rw [List.mem_singleton.1 hv']
        exact check_one h0 (by omega) hL hq hqs hva hE (hb.trans (h.mono hb.size)))
      (fun W' e g cap hbw hE' hfn hva' => entry_arr _ g cap e [arrVal' (n : Int) (n : Int) lg L lc] n L (itemsL (invM n (matL qs n)) n L) W' rfl hfn (enters_of Tryz.func173 (by kernel_rfl) rfl) hE' hva'
        (fun W'' b' hb'' hE'' hP hlt ha hvv hne => inv_any qs n L lg lc b' g cap dd a0 dm W'' h0 h4 hL hq ha hvv (((hva.below hb).below hbw).below hb'') hne hE'' hP hdd hdm hB ok hd hfd) (by simp)))
omit hfd in
theorem m_MINVERSE0 (ok : BndOk true a0 dm) (hd : detM n (matL qs n) = 0) :
    Calls Tryz.prog 7 #[.string { data := #[77, 73, 78, 86, 69, 82, 83, 69] }, .slice (some ⟨ab, ao, none⟩) 1 C] w fun e w' => e = .returned (faultVal 5) ∧ Below w.heap.size w w' :=
  math_of { data := #[77, 73, 78, 86, 69, 82, 83, 69] } (.slice (some ⟨ab, ao, none⟩) 1 C) (faultVal' 5) w ⟨_, _, _, rfl⟩ (fun W b hb hT =>
    run_a_stop 35 ⟨{ data := #[77, 73, 78, 86, 69, 82, 83, 69] }, 1, 1, { data := #[97] }, false, 173⟩ (by decide) rfl rfl (fr_of 35 (by decide) (by kernel_rfl)) [arrVal' (n : Int) (n : Int) lg L lc] b ab ao C 5 W (by simp) (by simp) (by simp) (by simp) (hv.below hb) (hE.below hb) hT (by decide) (by decide)
      (fun v hv' W' h => by
        rw [List.mem_singleton.1 hv']
        exact check_one h0 (by omega) hL hq hqs hva hE (hb.trans (h.mono hb.size)))
      (fun W' e g cap hbw hE' hfn hva' => entry_stop _ g cap e [arrVal' (n : Int) (n : Int) lg L lc] 5 W' rfl hfn (enters_of Tryz.func173 (by kernel_rfl) rfl) hE' hva'
        (fun W'' b' hb'' hE'' hP hlt ha hvv hne => inv_zero qs n L lg lc b' g cap dd a0 dm W'' h0 h4 hL hq ha hvv (((hva.below hb).below hbw).below hb'') hne hE'' hP hdd hdm hB ok hd) (by simp)))
end
theorem m_MMULT (ps qs : List Rat) (n L lp cp lq cq ab ao C : Nat) (w : World) (h0 : 1 ≤ n) (h9 : n ≤ 12) (hL : n * n = L) (hp : ps.length = L) (hq : qs.length = L) (hv : ValsAt w ab ao [arrVal' (n : Int) (n : Int) lp L cp, arrVal' (n : Int) (n : Int) lq L cq]) (hvp : ValsAt w lp 0 (numVals ps)) (hvq : ValsAt w lq 0 (numVals qs)) (hE : Env w) (hps : ∀ q ∈ ps, fits q = true) (hqs : ∀ q ∈ qs, fits q = true)
    (hfp : ∀ r c, r < n → c < n → fits (matL ps n r c) = true) (hfq : ∀ r c, r < n → c < n → fits (matL qs n r c) = true) (hfm : ∀ r j c, r < n → j < n → c < n → fits (matL ps n r j * matL qs n j c) = true) (hfs : ∀ r c j, r < n → c < n → j ≤ n → fits (sumN (fun t => matL ps n r t * matL qs n t c) j) = true)
    (hfi : ∀ q ∈ itemsL (mulM n (matL ps n) (matL qs n)) n L, fits q = true) :
    Calls Tryz.prog 7 #[.string { data := #[77, 77, 85, 76, 84] }, .slice (some ⟨ab, ao, none⟩) 2 C] w fun e w' => ∃ lg cap, e = .returned (arrVal' (n : Int) (n : Int) lg L cap).agg ∧ ValsAt w' lg 0 (numVals (itemsL (mulM n (matL ps n) (matL qs n)) n L)) ∧ w.heap.size ≤ lg ∧ Below w.heap.size w w' :=
  math_arr { data := #[77, 77, 85, 76, 84] } (.slice (some ⟨ab, ao, none⟩) 2 C) n L (itemsL (mulM n (matL ps n) (matL qs n)) n L) w ⟨_, _, _, rfl⟩ (fun W b hb hT =>
    run_a_arr 33 ⟨{ data := #[77, 77, 85, 76, 84] }, 2, 2, { data := #[97] }, false, 169⟩ (by decide) rfl rfl (fr_of 33 (by decide) (by kernel_rfl)) [arrVal' (n : Int) (n : Int) lp L cp, arrVal' (n : Int) (n : Int) lq L cq] b ab ao C n L _ h0 (by omega) hL (itemsL_len _ _ _) hfi W (by simp) (by simp) (by simp) (by simp) (hv.below hb) (hE.below hb) hT
      (fun v hv' W' h => by
        rcases List.mem_cons.1 hv' with e | hv'
        · rw [e]; exact check_one h0 (by omega) hL hp hps hvp hE (hb.trans (h.mono hb.size))
        · rw [List.mem_singleton.1 hv']; exact check_one h0 (by omega) hL hq hqs hvq hE (hb.trans (h.mono hb.size)))
      (fun W' e g cap hbw hE' hfn hva' => entry_arr _ g cap e [arrVal' (n : Int) (n : Int) lp L cp, arrVal' (n : Int) (n : Int) lq L cq] n L _ W' rfl hfn (enters_of Tryz.func169 (by kernel_rfl) rfl) hE' hva'
        (fun W'' b' hb'' hE'' hP hlt ha hvv hne => mul_any ps qs n L lp cp lq cq b' g cap W'' h0 h9 hL hp hq ha hvv (((hvp.below hb).below hbw).below hb'') (((hvq.below hb).below hbw).below hb'') hne hE'' hP hfp hfq hfm hfs) (by simp)))
theorem m_MUNIT (n L ab ao C : Nat) (w : World) (h0 : 1 ≤ n) (h9 : n ≤ 30) (hL : n * n = L) (hv : ValsAt w ab ao (numVals [((n : Int) : Rat)])) (hE : Env w) :
    Calls Tryz.prog 7 #[.string { data := #[77, 85, 78, 73, 84] }, .slice (some ⟨ab, ao, none⟩) 1 C] w fun e w' => ∃ lg cap, e = .returned (arrVal' (n : Int) (n : Int) lg L cap).agg ∧ ValsAt w' lg 0 (numVals (itemsL unitM n L)) ∧ w.heap.size ≤ lg ∧ Below w.heap.size w w' := by
  have hq : fits ((n : Int) : Rat) = true := fits_int _ (by omega)
  have hfi : ∀ q ∈ itemsL unitM n L, fits q = true := by
    intro q hq
    obtain ⟨t, _, rfl⟩ := List.mem_map.1 hq
    by_cases e : t / n = t % n
    · rw [show unitM (t / n) (t % n) = ((1 : Int) : Rat) from if_pos e]; exact fits_int 1 (by decide)
    · rw [show unitM (t / n) (t % n) = ((0 : Int) : Rat) from if_neg e]; exact fits_int 0 (by decide)
  exact math_arr { data := #[77, 85, 78, 73, 84] } (.slice (some ⟨ab, ao, none⟩) 1 C) n L (itemsL unitM n L) w ⟨_, _, _, rfl⟩ (fun W b hb hT =>
    run_s_arr 32 ⟨{ data := #[77, 85, 78, 73, 84] }, 1, 1, { data := #[115] }, false, 166⟩ (by decide) rfl rfl (fr_of 32 (by decide) (by kernel_rfl)) (numVals [((n : Int) : Rat)]) b ab ao C n L _ h0 h9 hL (itemsL_len _ _ _) hfi W (by simp [numVals]) (by simp [numVals]) (by simp [numVals]) (by simp [numVals]) (kinds_num _) (hv.below hb) (hE.below hb) hT
      (fun v hv' W' h => check_nums (qs := [((n : Int) : Rat)]) (by simpa using hq) hE v hv' W' (hb.trans (h.mono hb.size)))
      (fun W' e g cap hbw hE' hfn hva' => entry_arr _ g cap e (numVals [((n : Int) : Rat)]) n L _ W' rfl hfn (enters_of Tryz.func166 (by kernel_rfl) rfl) hE' hva'
        (fun W'' b' hb'' hE'' hP hlt ha hvv hne => munit_any n L b' g cap W'' h0 h9 hL ha (allNums_of hvv 0 (by simp)) hne (cell_lt (hvv.at 0 (by simp [numVals])).1) hE'' hP) (by simp [numVals])))
end Go.Proofs.YtgponoogifeopaaGreatDoor.Num.Mt
