/- Numbers as texts of digits, fractions, values and the functions of fmath: contracts of the program's functions, joined from smaller texts. Conditions stand at each theorem. -/
import Derived.Test.YtgponoogifeopaaGreatDoorIvdA
import Derived.Test.YtgponoogifeopaaGreatDoorIvaA
import Derived.Test.YtgponoogifeopaaGreatDoorNumG
import Derived.Test.YtgponoogifeopaaGreatDoorIvaB
import Derived.Deep.RegionLaw
import Derived.Test.YtgponoogifeopaaGreatDoorNumE

/- package fmath: MMULT's function at two square arrays. Conditions: the tables lie as they are laid; at most 12 rows; the numbers on the way fit. -/
namespace Go.Proofs.YtgponoogifeopaaGreatDoor.Num.Mt
open Go.RowKit Go.Lib Num

/-- the sum in progress: block S holds s -/
structure MuJ (W : World) (b n i B k : Nat) (g : Nat → Nat) (m : Mx) (v : Value) (S : Nat) (s : Rat) (wx : World) : Prop where
  rd : RdR W b n n i B k g m v wx
  sb : wx.heap[S]? = some (.cells #[.string (numS s), .string (denS s)] 24 (0, 0))
  bs : B ≤ S
  vs : v.ownBlock ≠ some S
section
variable {W wx : World} {b n i B k S : Nat} {g : Nat → Nat} {m : Mx} {v : Value} {s : Rat}
theorem MuJ.step (h : MuJ W b n i B k g m v S s wx) {w' : World} (hb : Below wx.heap.size wx w') : MuJ W b n i B k g m v S s w' := ⟨h.rd.step hb, keep_block h.sb hb, h.bs, h.vs⟩
theorem MuJ.setS (h : MuJ W b n i B k g m v S s wx) (q : Rat) : MuJ W b n i B k g m v S q ((wx.setCell ⟨S, 0, none⟩ (.string (numS q))).setCell ⟨S, 1, none⟩ (.string (denS q))) := by
  have h1 := h.rd.rs.bl
  have h2 := h.rd.rs.ge
  have h3 := h.bs
  refine ⟨⟨h.rd.rs.kept (fun j hj => set2_other wx S (.string (numS q)) (.string (denS q)) (by omega)) (by simp [World.setCell]) (h.rd.rs.low.trans (put2_below (by omega) wx _ _)), ?_⟩, set2_at h.sb _ _, h.bs, h.vs⟩
  exact ownsRow_setCell_other (ownsRow_setCell_other h.rd.own (a := ⟨S, 0, none⟩) h.vs _) (a := ⟨S, 1, none⟩) h.vs _
theorem own_below {B n : Nat} {W : World} {v : Value} {e : TypeId} {s : Nat} {xs : List Value} (h : W.ownsRow B e s v n xs) : v.ownBlock ≠ some W.heap.size := by
  rcases h.2 with ⟨rfl, _⟩ | ⟨g, cap, cur, rfl, hb, hg, _⟩
  · simp [Value.ownBlock]
  · have := heap_lt hg
    simp only [Value.ownBlock, ne_eq, Option.some.injEq]
    omega
end
attribute [local irreducible] wpOp
set_option linter.unusedVariables false in
/-- what the operations of region 18 yield -/
def mul_anyKs18 (s x y xy sn : Rat) (n bq k j S b11 gj Cj : Nat) : List RK :=
  [.pure (.agg #[.string (numS s), .string (denS s)]),
   .pure (.agg #[.string (numS x), .string (denS x)]),
   .pure (.slice (some ⟨bq, 0, none⟩) n n),
   .pure (.int .i64 (j : Int)),
   .pure (.pointer (some ⟨bq, j, none⟩)),
   .pure (.slice (some ⟨gj, 0, none⟩) n Cj),
   .pure (.int .i64 (k : Int)),
   .pure (.pointer (some ⟨gj, k * 2, none⟩)),
   .pure (.agg #[.string (numS y), .string (denS y)]),
   .pure (.agg #[.string (numS xy), .string (denS xy)]),
   .pure (.agg #[.string (numS sn), .string (denS sn)]),
   .put 0]
set_option linter.unusedSimpArgs false in
set_option linter.unusedVariables false in
set_option maxHeartbeats 4000000 in
set_option maxRecDepth 100000 in
theorem mul_any (ps qs : List Rat) (n L lp cp lq cq b g C : Nat) (W : World) (h0 : 1 ≤ n) (h9 : n ≤ 12) (hL : n * n = L) (hp : ps.length = L) (hq : qs.length = L) (ha : ArgsAt W b (some ⟨g, 0, none⟩) 2 C 0) (hv : ValsAt W g 0 [arrVal' (n : Int) (n : Int) lp L cp, arrVal' (n : Int) (n : Int) lq L cq]) (hvp : ValsAt W lp 0 (numVals ps)) (hvq : ValsAt W lq 0 (numVals qs)) (hne : g ≠ b) (hE : Env W) (hP : Past b)
    (hfp : ∀ r c, r < n → c < n → fits (matL ps n r c) = true) (hfq : ∀ r c, r < n → c < n → fits (matL qs n r c) = true) (hfm : ∀ r j c, r < n → j < n → c < n → fits (matL ps n r j * matL qs n j c) = true) (hfs : ∀ r c j, r < n → c < n → j ≤ n → fits (sumN (fun t => matL ps n r t * matL qs n t c) j) = true) :
    Calls Tryz.prog 169 #[.pointer (some ⟨b, 0, none⟩)] W fun e w' => ∃ lg cap, e = .returned (.agg #[.int .i64 5, .string { data := #[] }, .string { data := #[] }, .string { data := #[] }, .bool false, .int .i64 0, .int .i64 (n : Int), .int .i64 (n : Int), .slice (some ⟨lg, 0, none⟩) L cap]) ∧ ValsAt w' lg 0 (numVals (itemsL (mulM n (matL ps n) (matL qs n)) n L)) ∧ W.heap.size ≤ lg ∧ W.grownBy w' (some b) := by
  have hl0 : 0 < L := by rw [← hL]; exact Nat.mul_pos h0 h0
  have hlpb : lp ≠ b := items_ne hvp (by omega) ha
  have hlqb : lq ≠ b := items_ne hvq (by omega) ha
  have hlp : lp < W.heap.size := items_lt hvp (by omega)
  have hlq : lq < W.heap.size := items_lt hvq (by omega)
  have hgl : g < W.heap.size := cell_lt (hv.at 0 (by simp)).1
  have hb0 : Below W.heap.size W (W.alloc (.cells #[.int .i64 0, .string { data := #[] }, .string { data := #[] }, .string { data := #[] }, .bool false, .int .i64 0, .int .i64 0, .int .i64 0, .slice none 0 0] 27)) := (Below.refl _ _).alloc (Nat.le_refl _) _
  have TF := Lib.hid (faults_any [arrVal' (n : Int) (n : Int) lp L cp, arrVal' (n : Int) (n : Int) lq L cq] g C (W.alloc (.cells #[.int .i64 0, .string { data := #[] }, .string { data := #[] }, .string { data := #[] }, .bool false, .int .i64 0, .int .i64 0, .int .i64 0, .slice none 0 0] 27)) (by simp) (hv.below hb0) (fun j hj => by
    have : j = 0 ∨ j = 1 := by simp at hj; omega
    rcases this with rfl | rfl
    · exact ⟨_, _, _, parg_arr h0 (by omega) hL hp (hvp.below hb0)⟩
    · exact ⟨_, _, _, parg_arr h0 (by omega) hL hq (hvq.below hb0)⟩) (hE.below hb0))
  have TV1 := Lib.hid (fun W' hA hc => value_any b g 0 2 C 0 5 { data := #[] } { data := #[] } { data := #[] } false 0 (n : Int) (n : Int) (some ⟨lp, 0, none⟩) L cp W' hA (by decide) (by decide) hne hc)
  have TV2 := Lib.hid (fun W' hA hc => value_any b g 0 2 C 1 5 { data := #[] } { data := #[] } { data := #[] } false 0 (n : Int) (n : Int) (some ⟨lq, 0, none⟩) L cq W' hA (by decide) (by decide) hne hc)
  have TR1 := Lib.hid (fun W' hva' ge => read_any ps n L cp lp W' h0 (by omega) hL hp hva' ge)
  have TR2 := Lib.hid (fun W' hva' ge => read_any qs n L cq lq W' h0 (by omega) hL hq hva' ge)
  obtain ⟨P, hPP⟩ : ∃ x, matL ps n = x := ⟨_, rfl⟩
  obtain ⟨Q, hQQ⟩ : ∃ x, matL qs n = x := ⟨_, rfl⟩
  rw [hPP] at TR1 hfp hfm hfs ⊢
  rw [hQQ] at TR2 hfq hfm hfs ⊢
  have HR := Lib.hid (heap_alloc_new W (.cells #[.int .i64 0, .string { data := #[] }, .string { data := #[] }, .string { data := #[] }, .bool false, .int .i64 0, .int .i64 0, .int .i64 0, .slice none 0 0] 27))
  have HA := Lib.hid (show ArgsAt (W.alloc (.cells #[.int .i64 0, .string { data := #[] }, .string { data := #[] }, .string { data := #[] }, .bool false, .int .i64 0, .int .i64 0, .int .i64 0, .slice none 0 0] 27)) b (some ⟨g, 0, none⟩) 2 C 0 from keep_block ha hb0)
  have HV := Lib.hid (hv.below hb0)
  have HVP := Lib.hid (hvp.below hb0)
  have HVQ := Lib.hid (hvq.below hb0)
  have HG := Lib.hid (kept_below (b := b) hb0)
  have HE0 := Lib.hid hE
  have HP := Lib.hid hP
  have HNE := Lib.hid hne
  have HLP := Lib.hid hlpb
  have HLQ := Lib.hid hlqb
  have HSP := Lib.hid hlp
  have HSQ := Lib.hid hlq
  have HSG := Lib.hid hgl
  have HB0 := Lib.hid (heap_lt ha)
  have HFP := Lib.hid hfp
  have HFQ := Lib.hid hfq
  have HFM := Lib.hid hfm
  have HFS := Lib.hid hfs
  have HLL := Lib.hid hL
  have T0 := (fun W (h : Env W) => of_any 0 W (by decide) (by decide) h.tab)
  obtain ⟨q0, hq0⟩ : ∃ q : Rat, ((0 : Int) : Rat) = q := ⟨_, rfl⟩
  rw [hq0, fracV_is q0] at T0
  replace T0 := Lib.hid T0
  have HQ0 := Lib.hid (show q0 = 0 from hq0.symm)
  have hmk1 := make_rows n (by omega)
  obtain ⟨i0, hi0', hz0, hz1, hz2⟩ := info_frac
  have HR0 := Lib.hid (show W.heap.size < (W.alloc (.cells #[.int .i64 0, .string { data := #[] }, .string { data := #[] }, .string { data := #[] }, .bool false, .int .i64 0, .int .i64 0, .int .i64 0, .slice none 0 0] 27)).heap.size by simp)
  obtain ⟨R, hR⟩ : ∃ R, W.heap.size = R := ⟨_, rfl⟩
  have HRR := Lib.hid hR
  obtain ⟨⟨x0, x1⟩, _⟩ := two_at HA.out
  clear ha hv hvp hvq hE hP hne hlpb hlqb hlp hlq hgl hb0 hPP hQQ hfp hfq hfm hfs hp hq hq0 hL hR
  go_enter Tryz.func169, Tryz.ntmps169
  go_wp2_with fail
  refine TF.out.mono ?_
  rintro e w1 ⟨rfl, hb⟩
  replace HA := Lib.hid (keep_block HA.out hb)
  replace HV := Lib.hid (HV.out.below hb)
  replace HVP := Lib.hid (HVP.out.below hb)
  replace HVQ := Lib.hid (HVQ.out.below hb)
  replace HR := Lib.hid (keep_block HR.out hb)
  replace HG := Lib.hid (kept_trans HG.out (kept_below (b := b) hb))
  clear hb x0 x1 TF
  go_wp2_with fail
  refine (TV1.out _ HA.out (cells_arr HV.out (i := 0) (by simp) rfl)).mono ?_
  rintro e w2 ⟨rfl, ha, hg⟩
  have hs := HG.out.size
  replace HA := Lib.hid (show ArgsAt w2 b (some ⟨g, 0, none⟩) 2 C 1 from ha)
  replace HV := Lib.hid (vals_kept HV.out hg HNE.out (Nat.lt_of_lt_of_le HSG.out hs))
  replace HVP := Lib.hid (vals_kept HVP.out hg HLP.out (Nat.lt_of_lt_of_le HSP.out hs))
  replace HVQ := Lib.hid (vals_kept HVQ.out hg HLQ.out (Nat.lt_of_lt_of_le HSQ.out hs))
  replace HR := Lib.hid (kept_block HR.out hg (by have := HB0.out; omega))
  replace HG := Lib.hid (kept_trans HG.out hg)
  clear ha hg hs
  go_wp2_with fail
  refine (TR1.out _ HVP.out (HE0.out.kept HG.out HP.out)).mono ?_
  rintro e w3 ⟨bp, gp, rfl, hmp, hbp, hgp, hb⟩
  have HBB := Lib.hid (show bp ≠ b ∧ ∀ r, r < n → gp r ≠ b from by
    have h1 := HB0.out
    have h2 := HG.out.size
    exact ⟨by omega, fun r hr => by have := hgp r hr; omega⟩)
  clear hbp hgp
  have HMP := Lib.hid hmp
  replace HA := Lib.hid (keep_block HA.out hb)
  replace HV := Lib.hid (HV.out.below hb)
  replace HVQ := Lib.hid (HVQ.out.below hb)
  replace HR := Lib.hid (keep_block HR.out hb)
  replace HG := Lib.hid (kept_trans HG.out (kept_below (b := b) hb))
  clear hb hmp HVP
  go_wp2_with fail
  refine (TV2.out _ HA.out (cells_arr HV.out (i := 1) (by simp) rfl)).mono ?_
  rintro e w4 ⟨rfl, ha, hg⟩
  have hs := HG.out.size
  replace HMP := Lib.hid (HMP.out.keep (hg.block _ HMP.out.hd.lt (fun e => HBB.out.1 (Option.some.inj e))) (fun r hr => hg.block _ (HMP.out.rows r hr).lt (fun e => HBB.out.2 r hr (Option.some.inj e))))
  replace HVQ := Lib.hid (vals_kept HVQ.out hg HLQ.out (Nat.lt_of_lt_of_le HSQ.out hs))
  replace HR := Lib.hid (kept_block HR.out hg (by have := HB0.out; omega))
  replace HG := Lib.hid (kept_trans HG.out hg)
  clear ha hg hs HA HV
  go_wp2_with fail
  refine (TR2.out _ HVQ.out (HE0.out.kept HG.out HP.out)).mono ?_
  rintro e w5 ⟨bq, gq, rfl, hmq, _, _, hb⟩
  have HMQ := Lib.hid hmq
  replace HMP := Lib.hid (HMP.out.below hb)
  replace HR := Lib.hid (keep_block HR.out hb)
  replace HG := Lib.hid (kept_trans HG.out (kept_below (b := b) hb))
  clear hb hmq HVQ
  obtain ⟨Cp, yp⟩ := HMP.out.hd.at (show 0 < n by omega)
  obtain ⟨Cq, yq⟩ := HMQ.out.hd.at (show 0 < n by omega)
  have hn1 : (0 : Int) < (n : Int) := by omega
  have e1 : ((n : Int) != (n : Int)) = false := by simp
  have hr0 : ((n : Int) = 0) = False := eq_false (by omega)
  have hr1 : (n = 0) = False := eq_false (by omega)
  have hr2 : decide (n = 0) = false := decide_eq_false (by omega)
  have hnn : n * n ≤ 144 := Nat.mul_le_mul h9 h9
  have hqb : 83333 ≤ (1000000 : Int) / (n : Int) := (Int.le_ediv_iff_mul_le (by omega)).2 (by omega)
  have hqb2 : (1000000 : Int) / (n : Int) ≤ 1000000 := Int.ediv_le_self _ (by omega)
  have hqt : (1000000 : Int).tdiv (n : Int) = (1000000 : Int) / (n : Int) := Int.tdiv_eq_ediv_of_nonneg (by omega)
  obtain ⟨q9, hqq⟩ : ∃ q, (1000000 : Int) / (n : Int) = q := ⟨_, rfl⟩
  rw [hqq] at hqb hqb2 hqt
  have hqw : IntKind.i64.wrap q9 = q9 := IntWalk.i64_in _ (by omega)
  obtain ⟨nn, hnv⟩ : ∃ x, n * n = x := ⟨_, rfl⟩
  rw [hnv] at hnn
  have hwm : IntKind.i64.wrap ((n : Int) * (n : Int)) = (nn : Int) := by rw [← Int.natCast_mul, hnv]; exact IntWalk.i64_in _ (by omega)
  have d3 : decide (q9 < (nn : Int)) = false := decide_eq_false (by omega)
  have hb3 : Below w5.heap.size w5 (w5.alloc (.cells (madeCells #[.slice none 0 0] n) 81)) := (Below.refl _ _).alloc (Nat.le_refl _) _
  have HI0 := Lib.hid (Rows.start (W := w5) w5.heap.size n n (fun _ => 0) (mulM n P Q) (heap_alloc_new w5 (.cells (madeCells #[.slice none 0 0] n) 81)) (size_madeCells _ _) (fun r hr => made_at _ _ _ hr) hb3 (Nat.le_refl _))
  have HBO := Lib.hid (show W.heap.size < w5.heap.size by have := heap_lt HR.out; omega)
  clear hb3 hqb hqb2 hqq hnv hnn
  go_wp2_with fail
  obtain ⟨bo, hbo⟩ : ∃ b, w5.heap.size = b := ⟨_, rfl⟩
  rw [hbo] at HI0 HBO ⊢
  clear hbo yp yq
  go_loopg [6, 7, 8, 9, 10, 11, 48] n (fun gh v6 v7 v8 v9 v10 v11 v48 wx => ∃ (i B : Nat) (g : Nat → Nat), v48 = .int .i64 (i : Int) ∧ i ≤ n ∧ gh = n - i ∧ Rows w5 bo n n i B g (mulM n P Q) (.slice none 0 0) wx)
  case atStart => exact ⟨0, _, _, rfl, Nat.zero_le _, rfl, HI0.out⟩
  case round =>
    clear HI0
    obtain ⟨i, B, g, rfl, hi, hgi, hI⟩ := hrel
    have HI := Lib.hid (show RdR w5 bo n n i B 0 g (mulM n P Q) (.slice none 0 0) _ from ⟨hI, World.ownsRow_nil _ _ _ _⟩)
    clear hI
    by_cases hlt : i < n
    · skip
      have hdd : decide ((i : Int) < (n : Int)) = true := decide_eq_true (by omega)
      have hdd2 : decide (i < n) = true := decide_eq_true hlt
      have hi0 : (0 : Int) ≤ (i : Int) := by omega
      have hi1 : (i : Int) < (n : Int) := by omega
      have hwk : IntKind.i64.wrap ((i : Int) + 1) = (i : Int) + 1 := IntWalk.i64_in _ (by omega)
      obtain ⟨Ci, y0⟩ := (HMP.out.below HI.out.rs.low).hd.at hlt
      obtain ⟨Cq, yq⟩ := (HMQ.out.below HI.out.rs.low).hd.at (show 0 < n by omega)
      obtain ⟨gi, hgp⟩ : ∃ x, gp i = x := ⟨_, rfl⟩
      rw [hgp] at y0
      have HGI := Lib.hid hgp
      clear hgp
      go_wp2_with fail
      clear y0 yq
      go_loopg [8, 9, 10, 11, 57] n (fun gh v8 v9 v10 v11 v57 wx => ∃ (k : Nat) (v : Value), v57 = .int .i64 (k : Int) ∧ k ≤ n ∧ gh = n - k ∧ RdR w5 bo n n i B k g (mulM n P Q) v wx)
      case atStart => exact ⟨0, _, rfl, Nat.zero_le _, rfl, HI.out⟩
      case round =>
        clear HI
        obtain ⟨k, v, rfl, hk, hgk, hJ⟩ := hrel
        have HI := Lib.hid hJ
        clear hJ
        by_cases hkt : k < n
        · skip
          have hke : decide ((k : Int) < (n : Int)) = true := decide_eq_true (by omega)
          have hke2 : decide (k < n) = true := decide_eq_true hkt
          have hk0 : (0 : Int) ≤ (k : Int) := by omega
          have hk1 : (k : Int) < (n : Int) := by omega
          have hkw : IntKind.i64.wrap ((k : Int) + 1) = (k : Int) + 1 := IntWalk.i64_in _ (by omega)
          obtain ⟨av, cv, hu⟩ := owns_form HI.out.own
          subst hu
          have HE := Lib.hid (HE0.out.kept (kept_trans HG.out (kept_below (b := b) HI.out.rs.low)) HP.out)
          go_wp2_with fail
          refine (T0.out _ HE.out).mono ?_
          rintro e w7 ⟨rfl, hb⟩
          have HI2 := Lib.hid (HI.out.step hb)
          have hb8 : Below w7.heap.size w7 (w7.alloc (.cells #[.string (numS q0), .string (denS q0)] 24)) := (Below.refl _ _).alloc (Nat.le_refl _) _
          have HJ0 := Lib.hid (show MuJ w5 bo n i B k g (mulM n P Q) (.slice av k cv) w7.heap.size (sumN (fun t => P i t * Q t k) 0) (w7.alloc (.cells #[.string (numS q0), .string (denS q0)] 24)) from ⟨HI2.out.step hb8, by rw [show sumN (fun t => P i t * Q t k) 0 = q0 from HQ0.out.symm]; exact heap_alloc_new w7 _, HI2.out.rs.bs, own_below HI2.out.own⟩)
          clear hb hb8 HI HI2 HE
          go_wp2_with fail
          obtain ⟨S, hS⟩ : ∃ b, w7.heap.size = b := ⟨_, rfl⟩
          rw [hS] at HJ0 ⊢
          clear hS
          go_loopg [10, 11, 63] n (fun gh v10 v11 v63 wx => ∃ j : Nat, v63 = .int .i64 (j : Int) ∧ j ≤ n ∧ gh = n - j ∧ MuJ w5 bo n i B k g (mulM n P Q) (.slice av k cv) S (sumN (fun t => P i t * Q t k) j) wx)
          case atStart => exact ⟨0, rfl, Nat.zero_le _, rfl, HJ0.out⟩
          case round =>
            clear HJ0
            obtain ⟨j, rfl, hj, hgj, hJ⟩ := hrel
            have HJ := Lib.hid hJ
            clear hJ
            by_cases hjt : j < n
            · skip
              have hje : decide ((j : Int) < (n : Int)) = true := decide_eq_true (by omega)
              have hje2 : decide (j < n) = true := decide_eq_true hjt
              have hj0 : (0 : Int) ≤ (j : Int) := by omega
              have hj1 : (j : Int) < (n : Int) := by omega
              have hjw : IntKind.i64.wrap ((j : Int) + 1) = (j : Int) + 1 := IntWalk.i64_in _ (by omega)
              have hfx := HFP.out i j hlt hjt
              have hfy := HFQ.out j k hjt hkt
              have hfm := HFM.out i j k hlt hjt hkt
              have hfs := HFS.out i k j hlt hkt (by omega)
              have hfs2 := HFS.out i k (j + 1) hlt hkt (by omega)
              have HPX := Lib.hid (HMP.out.below HJ.out.rd.rs.low)
              have HQX := Lib.hid (HMQ.out.below HJ.out.rd.rs.low)
              obtain ⟨c0, c1⟩ := (HPX.out.rows i hlt).item hjt
              obtain ⟨d0, d1⟩ := (HQX.out.rows j hjt).item hkt
              obtain ⟨Cj, yq⟩ := HQX.out.hd.at hjt
              obtain ⟨gj, hgq⟩ : ∃ x, gq j = x := ⟨_, rfl⟩
              rw [HGI.out] at c0 c1
              rw [hgq] at d0 d1 yq
              obtain ⟨x, hx⟩ : ∃ z, P i j = z := ⟨_, rfl⟩
              obtain ⟨y, hy⟩ : ∃ z, Q j k = z := ⟨_, rfl⟩
              obtain ⟨xy, hxy⟩ : ∃ z, x * y = z := ⟨_, rfl⟩
              obtain ⟨s, hs⟩ : ∃ z, sumN (fun t => P i t * Q t k) j = z := ⟨_, rfl⟩
              obtain ⟨sn, hsn⟩ : ∃ z, sumN (fun t => P i t * Q t k) (j + 1) = z := ⟨_, rfl⟩
              have hsum : s + xy = sn := by rw [← hsn, ← hs, ← hxy, ← hx, ← hy]; rfl
              rw [hx] at hfx hfm c0 c1
              rw [hy] at hfy hfm d0 d1
              rw [hxy] at hfm
              rw [hs] at hfs HJ
              rw [hsn] at hfs2
              have TM := (fun W' ge => fm_mul x y W' hfx hfy (by rw [hxy]; exact hfm) ge)
              have TA := (fun W' ge => fm_add s xy W' hfs hfm (by rw [hsum]; exact hfs2) ge)
              rw [hxy, fracV_is x, fracV_is y, fracV_is xy] at TM
              rw [hsum, fracV_is s, fracV_is xy, fracV_is sn] at TA
              replace TM := Lib.hid TM
              replace TA := Lib.hid TA
              have HS2 := Lib.hid hsn
              have HC0 := Lib.hid c0
              have HC1 := Lib.hid c1
              have HD0 := Lib.hid d0
              have HD1 := Lib.hid d1
              have HYQ := Lib.hid yq
              have HE := Lib.hid (HE0.out.kept (kept_trans HG.out (kept_below (b := b) HJ.out.rd.rs.low)) HP.out)
              have hb8 : Below wr.heap.size wr (wr.alloc (.cells #[.string (numS x), .string (denS x)] 24)) := (Below.refl _ _).alloc (Nat.le_refl _) _
              have HJ2 := Lib.hid (HJ.out.step hb8)
              have H11 := Lib.hid (heap_alloc_new wr (.cells #[.string (numS x), .string (denS x)] 24))
              have HE8 := Lib.hid (HE.out.below hb8)
              have HD02 := Lib.hid (cell_below HD0.out hb8)
              have HD12 := Lib.hid (cell_below HD1.out hb8)
              have HYQ2 := Lib.hid (cell_below HYQ.out hb8)
              clear d0 d1 yq hx hy hxy hs hsn hsum hfx hfy hfm hfs hfs2 hgq hb8 HPX HQX HD0 HD1 HYQ HE
              go_upto_region 18 with fail
              clear c0 c1 HJ HC0 HC1
              obtain ⟨b11, hb11⟩ : ∃ b, wr.heap.size = b := ⟨_, rfl⟩
              obtain ⟨w8, hw8⟩ : ∃ Z, wr.alloc (.cells #[.string (numS x), .string (denS x)] 24) = Z := ⟨_, rfl⟩
              rw [hb11] at H11 ⊢
              rw [hw8] at HJ2 H11 HE8 HD02 HD12 HYQ2 ⊢
              have H9 := Lib.hid HJ2.out.sb
              clear hb11 hw8
              go_wp2_with fail
              have hok : okB 12 (mul_anyKs18 s x y xy sn n bq k j S b11 gj Cj) = true := by kernel_rfl
              have hna := noAny_of (ks := (mul_anyKs18 s x y xy sn n bq k j S b11 gj Cj)) (by kernel_rfl)
              have hla := lasts_of hna
              refine wp_region_facts_abs (row := none) (w := w8) 11 1 12 [11] (mul_anyKs18 s x y xy sn n bq k j S b11 gj Cj) [some 68, some 69, some 70, some 71, some 72, some 73, some 74, some 75, some 76, some 77, some 78, none] [(9, .pointer (some ⟨S, 0, none⟩)), (11, .pointer (some ⟨b11, 0, none⟩)), (4, .slice (some ⟨bq, 0, none⟩) n n), (10, .int .i64 (j : Int)), (8, .int .i64 (k : Int))] 94 (by kernel_rfl) (by kernel_rfl) (by kernel_rfl) rfl rfl (by decide) rfl (by kernel_rfl) rfl (Nat.le_of_eq rfl) rfl ?ho [u68, u69, u70, u71, u72, u73, u74, u75, u76, u77, u78, undef] ?h00 (Fs.start rfl rfl) ?hs ?hd
              case ho =>
                intro k x hk
                match k, hk with
                | 0, hk => have hk := Option.some.inj hk; subst hk; rfl
                | 1, hk => have hk := Option.some.inj hk; subst hk; rfl
                | 2, hk => have hk := Option.some.inj hk; subst hk; rfl
                | 3, hk => have hk := Option.some.inj hk; subst hk; rfl
                | 4, hk => have hk := Option.some.inj hk; subst hk; rfl
                | _ + 5, hk => exact absurd hk (by simp)
              case h00 => simp only [putO, layL]
              case hs =>
                rintro A listed vs Wr hF hR i hi hun hpre
                obtain ⟨s0, s1, s2, s3, s4, s5, s6, s7, s8, s9, s10, s11, hvs⟩ := exl_of 12 vs (fun l => vs = l) hF.len rfl
                subst hvs
                have hge := Nat.zero_le i
                rcases Nat.lt_or_ge i 5 with hlt | hgt
                · replace hi := hlt
                  clear hlt
                  rcases Nat.lt_or_ge i 2 with hlt | hgt
                  · replace hi := hlt
                    clear hlt
                    rcases Nat.lt_or_ge i 1 with hlt | hgt
                    · replace hi := hlt
                      clear hlt
                      obtain rfl := eqi hi hge
                      have ro9 : A.tmps[9]? = some (.pointer (some ⟨S, 0, none⟩)) := hR.out 0 _ rfl
                      have hcc := (two_at (keep_block H9.out (below_none hF.low))).1
                      have cH90 := hcc.1
                      have cH91 := hcc.2
                      clear hcc
                      refine step_of ⟨some 68, _, _, _, _, _⟩ rfl (fun K' hK => ?_)
                      go_simp
                      exact hK.out _ _ ⟨_, hF.pure hok hla hpre rfl (Below.refl _ _), rfl⟩
                    · replace hge : 1 ≤ i := hgt
                      clear hgt
                      obtain rfl := eqi hi hge
                      have ro11 : A.tmps[11]? = some (.pointer (some ⟨b11, 0, none⟩)) := hR.out 1 _ rfl
                      have hcc := (two_at (keep_block H11.out (below_none hF.low))).1
                      have cH110 := hcc.1
                      have cH111 := hcc.2
                      clear hcc
                      refine step_of ⟨some 69, _, _, _, _, _⟩ rfl (fun K' hK => ?_)
                      go_simp
                      exact hK.out _ _ ⟨_, hF.pure hok hla hpre rfl (Below.refl _ _), rfl⟩
                  · replace hge : 2 ≤ i := hgt
                    clear hgt
                    rcases Nat.lt_or_ge i 3 with hlt | hgt
                    · replace hi := hlt
                      clear hlt
                      obtain rfl := eqi hi hge
                      have ro4 : A.tmps[4]? = some (.slice (some ⟨bq, 0, none⟩) n n) := hR.out 2 _ rfl
                      refine step_of ⟨some 70, _, _, _, _, _⟩ rfl (fun K' hK => ?_)
                      go_simp
                      exact hK.out _ _ ⟨_, hF.pure hok hla hpre rfl (Below.refl _ _), rfl⟩
                    · replace hge : 3 ≤ i := hgt
                      clear hgt
                      rcases Nat.lt_or_ge i 4 with hlt | hgt
                      · replace hi := hlt
                        clear hlt
                        obtain rfl := eqi hi hge
                        have ro10 : A.tmps[10]? = some (.int .i64 (j : Int)) := hR.out 3 _ rfl
                        refine step_of ⟨some 71, _, _, _, _, _⟩ rfl (fun K' hK => ?_)
                        go_simp
                        exact hK.out _ _ ⟨_, hF.pure hok hla hpre rfl (Below.refl _ _), rfl⟩
                      · replace hge : 4 ≤ i := hgt
                        clear hgt
                        obtain rfl := eqi hi hge
                        have p2 := hpre 2 (by kernel_rfl)
                        have e2 : s2 = .slice (some ⟨bq, 0, none⟩) n n := hF.get 2 _ rfl (.inr p2)
                        subst e2
                        have r2 : A.tmps[70]? = some (.slice (some ⟨bq, 0, none⟩) n n) := hR.own 2 _ _ rfl rfl
                        have p3 := hpre 3 (by kernel_rfl)
                        have e3 : s3 = .int .i64 (j : Int) := hF.get 3 _ rfl (.inr p3)
                        subst e3
                        have r3 : A.tmps[71]? = some (.int .i64 (j : Int)) := hR.own 3 _ _ rfl rfl
                        refine step_of ⟨some 72, _, _, _, _, _⟩ rfl (fun K' hK => ?_)
                        go_simp
                        exact hK.out _ _ ⟨_, hF.pure hok hla hpre rfl (Below.refl _ _), rfl⟩
                · replace hge : 5 ≤ i := hgt
                  clear hgt
                  rcases Nat.lt_or_ge i 8 with hlt | hgt
                  · replace hi := hlt
                    clear hlt
                    rcases Nat.lt_or_ge i 6 with hlt | hgt
                    · replace hi := hlt
                      clear hlt
                      obtain rfl := eqi hi hge
                      have p4 := hpre 4 (by kernel_rfl)
                      have e4 : s4 = .pointer (some ⟨bq, j, none⟩) := hF.get 4 _ rfl (.inr p4)
                      subst e4
                      have r4 : A.tmps[72]? = some (.pointer (some ⟨bq, j, none⟩)) := hR.own 4 _ _ rfl rfl
                      have y0 := cell_below HYQ2.out (below_none hF.low)
                      refine step_of ⟨some 73, _, _, _, _, _⟩ rfl (fun K' hK => ?_)
                      go_simp
                      exact hK.out _ _ ⟨_, hF.pure hok hla hpre rfl (Below.refl _ _), rfl⟩
                    · replace hge : 6 ≤ i := hgt
                      clear hgt
                      rcases Nat.lt_or_ge i 7 with hlt | hgt
                      · replace hi := hlt
                        clear hlt
                        obtain rfl := eqi hi hge
                        have ro8 : A.tmps[8]? = some (.int .i64 (k : Int)) := hR.out 4 _ rfl
                        refine step_of ⟨some 74, _, _, _, _, _⟩ rfl (fun K' hK => ?_)
                        go_simp
                        exact hK.out _ _ ⟨_, hF.pure hok hla hpre rfl (Below.refl _ _), rfl⟩
                      · replace hge : 7 ≤ i := hgt
                        clear hgt
                        obtain rfl := eqi hi hge
                        have p5 := hpre 5 (by kernel_rfl)
                        have e5 : s5 = .slice (some ⟨gj, 0, none⟩) n Cj := hF.get 5 _ rfl (.inr p5)
                        subst e5
                        have r5 : A.tmps[73]? = some (.slice (some ⟨gj, 0, none⟩) n Cj) := hR.own 5 _ _ rfl rfl
                        have p6 := hpre 6 (by kernel_rfl)
                        have e6 : s6 = .int .i64 (k : Int) := hF.get 6 _ rfl (.inr p6)
                        subst e6
                        have r6 : A.tmps[74]? = some (.int .i64 (k : Int)) := hR.own 6 _ _ rfl rfl
                        refine step_of ⟨some 75, _, _, _, _, _⟩ rfl (fun K' hK => ?_)
                        go_simp
                        exact hK.out _ _ ⟨_, hF.pure hok hla hpre rfl (Below.refl _ _), rfl⟩
                  · replace hge : 8 ≤ i := hgt
                    clear hgt
                    rcases Nat.lt_or_ge i 9 with hlt | hgt
                    · replace hi := hlt
                      clear hlt
                      obtain rfl := eqi hi hge
                      have p7 := hpre 7 (by kernel_rfl)
                      have e7 : s7 = .pointer (some ⟨gj, k * 2, none⟩) := hF.get 7 _ rfl (.inr p7)
                      subst e7
                      have r7 : A.tmps[75]? = some (.pointer (some ⟨gj, k * 2, none⟩)) := hR.own 7 _ _ rfl rfl
                      have c0 := cell_below HD02.out (below_none hF.low)
                      have c1 := cell_below HD12.out (below_none hF.low)
                      refine step_of ⟨some 76, _, _, _, _, _⟩ rfl (fun K' hK => ?_)
                      go_simp
                      exact hK.out _ _ ⟨_, hF.pure hok hla hpre rfl (Below.refl _ _), rfl⟩
                    · replace hge : 9 ≤ i := hgt
                      clear hgt
                      rcases Nat.lt_or_ge i 10 with hlt | hgt
                      · replace hi := hlt
                        clear hlt
                        obtain rfl := eqi hi hge
                        have p1 := hpre 1 (by kernel_rfl)
                        have e1 : s1 = .agg #[.string (numS x), .string (denS x)] := hF.get 1 _ rfl (.inr p1)
                        subst e1
                        have r1 : A.tmps[69]? = some (.agg #[.string (numS x), .string (denS x)]) := hR.own 1 _ _ rfl rfl
                        have p8 := hpre 8 (by kernel_rfl)
                        have e8 : s8 = .agg #[.string (numS y), .string (denS y)] := hF.get 8 _ rfl (.inr p8)
                        subst e8
                        have r8 : A.tmps[76]? = some (.agg #[.string (numS y), .string (denS y)]) := hR.own 8 _ _ rfl rfl
                        refine step_of ⟨some 77, _, _, _, _, _⟩ rfl (fun K' hK => ?_)
                        go_simp
                        go_at_call 132
                        (with_reducible refine (TM.out _ (HE8.out.below (below_none hF.low))).mono ?_)
                        rintro e Wq ⟨rfl, hq⟩
                        exact hK.out _ _ ⟨_, hF.pure hok hla hpre rfl hq, rfl⟩
                      · replace hge : 10 ≤ i := hgt
                        clear hgt
                        obtain rfl := eqi hi hge
                        have p0 := hpre 0 (by kernel_rfl)
                        have e0 : s0 = .agg #[.string (numS s), .string (denS s)] := hF.get 0 _ rfl (.inr p0)
                        subst e0
                        have r0 : A.tmps[68]? = some (.agg #[.string (numS s), .string (denS s)]) := hR.own 0 _ _ rfl rfl
                        have p9 := hpre 9 (by kernel_rfl)
                        have e9 : s9 = .agg #[.string (numS xy), .string (denS xy)] := hF.get 9 _ rfl (.inr p9)
                        subst e9
                        have r9 : A.tmps[77]? = some (.agg #[.string (numS xy), .string (denS xy)]) := hR.own 9 _ _ rfl rfl
                        refine step_of ⟨some 78, _, _, _, _, _⟩ rfl (fun K' hK => ?_)
                        go_simp
                        go_at_call 133
                        (with_reducible refine (TA.out _ (HE8.out.below (below_none hF.low))).mono ?_)
                        rintro e Wq ⟨rfl, hq⟩
                        exact hK.out _ _ ⟨_, hF.pure hok hla hpre rfl hq, rfl⟩
              case hd =>
                rintro listed vs WA hF hall
                obtain ⟨s0, s1, s2, s3, s4, s5, s6, s7, s8, s9, s10, s11, hvs⟩ := exl_of 12 vs (fun l => vs = l) hF.len rfl
                subst hvs
                have e10 : s10 = .agg #[.string (numS sn), .string (denS sn)] := hF.get 10 _ rfl (.inr (hall 10 (by decide)))
                subst e10
                have hq := below_none hF.low
                replace H9 := Lib.hid (keep_block H9.out hq)
                replace H11 := Lib.hid (keep_block H11.out hq)
                replace HJ2 := Lib.hid (HJ2.out.step hq)
                clear hq
                clear hF hall hok hna hla
                simp only [putO, layL]
                obtain ⟨⟨y0, y1⟩, z0, z1⟩ := two_at HJ2.out.sb
                refine rest_one 11 ⟨none, _, _, _, _, _⟩ rfl (by kernel_rfl) rfl (fun K' hK => ?_)
                go_simp
                refine hK.out _ _ ?_
                refine rest_end ?_
                clear y0 y1 z0 z1
                have HJ3 := Lib.hid (HJ2.out.setS sn)
                clear HJ2 H9 H11 TM TA HE8 HD02 HD12 HYQ2
                go_wp2
                go_roundg (n - (j + 1))
                case measure => omega
                case rel => exact ⟨j + 1, by go_num, by omega, by omega, by rw [HS2.out]; exact HJ3.out⟩
            · have hje : decide ((j : Int) < (n : Int)) = false := decide_eq_false (by omega)
              have hje2 : decide (j < n) = false := decide_eq_false hjt
              have hjn : j = n := by omega
              have HSM := Lib.hid (show mulM n P Q i k = sumN (fun t => P i t * Q t k) j by rw [hjn]; rfl)
              obtain ⟨q, hqs⟩ : ∃ z, sumN (fun t => P i t * Q t k) j = z := ⟨_, rfl⟩
              rw [hqs] at HSM HJ
              have H9 := Lib.hid HJ.out.sb
              have HI := Lib.hid HJ.out.rd
              have hml : k + 1 ≤ maxLen := by unfold maxLen; omega
              clear hjt hjn hqs HJ
              go_upto_region 20 with fail
              have HIA0 := Lib.hid (HI.out.step ((Below.refl wr.heap.size wr).alloc (Nat.le_refl _) (.cells #[.string (numS q), .string (denS q)] 24)))
              have HIA := Lib.hid (HIA0.out.step ((Below.refl (wr.alloc (.cells #[.string (numS q), .string (denS q)] 24)).heap.size (wr.alloc (.cells #[.string (numS q), .string (denS q)] 24))).drew))
              have HNW := Lib.hid (World.news_of_block (w := (wr.alloc (.cells #[.string (numS q), .string (denS q)] 24)).drew) (cs := #[.string (numS q), .string (denS q)]) (t := 24) (fr := (0, 0)) (heap_alloc_new wr (.cells #[.string (numS q), .string (denS q)] 24)))
              have HOW := Lib.hid HIA.out.own
              have HBS := Lib.hid HIA.out.rs.bs
              have y0 := HI.out.rs.cell hlt
              have y1 := HIA0.out.rs.cell hlt
              obtain ⟨⟨a0, a1⟩, _⟩ := two_at H9.out
              clear HI H9 HIA0
              go_region_law (first
                | (refine step_append_own rfl _ _ 81 rfl B 24 i0 _ 2 32 Tryz.underlying81 hi0' hz0 hz1 hz2 rfl (by decide) (.slice av k cv) k (fracCells (rowF (mulM n P Q i) k)) (by simp [Act.eval, Act.put]) HOW.out ⟨wr.heap.size, 0, none⟩ 1 1 [.string (numS q), .string (denS q)] (by simp [Act.eval, Act.put]) rfl HNW.out (by simp [Value.oneCell']) hml (by omega) HBS.out ?_;
                   intro v5 w9 hown5 hgrow5;
                   have HPU := Lib.hid (HIA.out.push (by rw [rowF_succ, HSM.out, fracCells_snoc]; exact hown5) hgrow5 hlt);
                   have y5 := (HIA.out.rs.grown hgrow5 (own_lt_row HIA.out.own)).cell hlt;
                   have z5 := (HIA.out.rs.grown hgrow5 (own_lt_row HIA.out.own)).free i;
                   obtain ⟨av5, c5, hu5⟩ := owns_form hown5;
                   subst hu5;
                   clear hown5 hgrow5)
                | fail)
              all_goals
                go_wp2
                go_roundg (n - (k + 1))
                case measure => omega
                case rel => exact ⟨k + 1, _, by go_num, by omega, by omega, HPU.out⟩
        · have hke : decide ((k : Int) < (n : Int)) = false := decide_eq_false (by omega)
          have hke2 : decide (k < n) = false := decide_eq_false hkt
          have hkn : n = k := by omega
          subst hkn
          clear hkt
          obtain ⟨g', B', hN⟩ := HI.out.next (by omega) hlt
          have HN := Lib.hid hN
          clear hN HI
          go_wp2
          go_roundg (n - (i + 1))
          case measure => omega
          case rel => exact ⟨i + 1, _, _, by go_num, by omega, by omega, HN.out⟩
    · have hdd : decide ((i : Int) < (n : Int)) = false := decide_eq_false (by omega)
      have hdd2 : decide (i < n) = false := decide_eq_false hlt
      have hin : i = n := by omega
      subst hin
      clear hlt
      have HM := Lib.hid HI.out.rs.done
      have HRX := Lib.hid (keep_block HR.out HI.out.rs.low)
      have HGX := Lib.hid (kept_trans HG.out (kept_below (b := b) HI.out.rs.low))
      have HEX := Lib.hid (HE0.out.kept HGX.out HP.out)
      have TV := Lib.hid (value_mx (mulM i P Q) i bo i g wr h0 (by omega) HM.out (fun r c hr hc => HFS.out r c i hr hc (Nat.le_refl _)) HEX.out)
      clear HI
      go_wp2_with fail
      refine TV.out.mono ?_
      rintro e w9 ⟨lg, cap, rfl, hvals, hlg, hb⟩
      rw [HLL.out] at hvals
      rw [HLL.out]
      have HVA := Lib.hid hvals
      have HLG := Lib.hid (show W.heap.size < lg by have := HGX.out.size; omega)
      have hres := keep_block HRX.out hb
      replace HGX := Lib.hid (kept_trans HGX.out (kept_below (b := b) hb))
      clear hb hlg hvals
      rw [HRR.out] at hres
      obtain ⟨⟨x0, x1, x2, x3, x4, x5, x6, x7, x8⟩, z0, z1, z2, z3, z4, z5, z6, z7, z8⟩ := nine_at hres
      have hset := set9_at hres (.int .i64 5) (.string { data := #[] }) (.string { data := #[] }) (.string { data := #[] }) (.bool false) (.int .i64 0) (.int .i64 (i : Int)) (.int .i64 (i : Int)) (.slice (some ⟨lg, 0, none⟩) L cap)
      obtain ⟨⟨r0, r1, r2, r3, r4, r5, r6, r7, r8⟩, _⟩ := nine_at hset
      have HVB := Lib.hid (vals_other HVA.out (set9_other w9 R (.int .i64 5) (.string { data := #[] }) (.string { data := #[] }) (.string { data := #[] }) (.bool false) (.int .i64 0) (.int .i64 (i : Int)) (.int .i64 (i : Int)) (.slice (some ⟨lg, 0, none⟩) L cap) (show lg ≠ R by have := HLG.out; have := HRR.out; omega)))
      have HL := Lib.hid (below_only HGX.out (put9_below (Nat.le_of_eq HRR.out) w9 (.int .i64 5) (.string { data := #[] }) (.string { data := #[] }) (.string { data := #[] }) (.bool false) (.int .i64 0) (.int .i64 (i : Int)) (.int .i64 (i : Int)) (.slice (some ⟨lg, 0, none⟩) L cap)))
      clear hset hres
      rw [HRR.out]
      go_wp2
      refine bodyPost_ret (v := .agg #[.int .i64 5, .string { data := #[] }, .string { data := #[] }, .string { data := #[] }, .bool false, .int .i64 0, .int .i64 (i : Int), .int .i64 (i : Int), .slice (some ⟨lg, 0, none⟩) L cap]) (by simp [results, Tryz.results169, go_sem, r0, r1, r2, r3, r4, r5, r6, r7, r8]) rfl ⟨lg, cap, rfl, HVB.out, by have := HLG.out; have := HRR.out; omega, HL.out⟩
end Go.Proofs.YtgponoogifeopaaGreatDoor.Num.Mt

/- package fmath: MUNIT's function. Conditions: the tables lie as they are laid; at most 30 rows. -/
namespace Go.Proofs.YtgponoogifeopaaGreatDoor.Num.Mt
open Go.RowKit Go.Lib Num

set_option maxHeartbeats 4000000 in
set_option maxRecDepth 100000 in
theorem munit_any (n L b g C : Nat) (W : World) (h0 : 1 ≤ n) (h9 : n ≤ 30) (hL : n * n = L) (ha : ArgsAt W b (some ⟨g, 0, none⟩) 1 C 0) (hc : NumCells W g (0 + 0 * 9) ((n : Int) : Rat)) (hne : g ≠ b) (_ : g < W.heap.size) (hE : Env W) (hP : Past b) :
    Calls Tryz.prog 166 #[.pointer (some ⟨b, 0, none⟩)] W fun e w' => ∃ lg cap, e = .returned (.agg #[.int .i64 5, .string { data := #[] }, .string { data := #[] }, .string { data := #[] }, .bool false, .int .i64 0, .int .i64 (n : Int), .int .i64 (n : Int), .slice (some ⟨lg, 0, none⟩) L cap]) ∧ ValsAt w' lg 0 (numVals (itemsL unitM n L)) ∧ W.heap.size ≤ lg ∧ W.grownBy w' (some b) := by
  have hb0 : Below W.heap.size W (W.alloc (.cells #[.int .i64 0, .string { data := #[] }, .string { data := #[] }, .string { data := #[] }, .bool false, .int .i64 0, .int .i64 0, .int .i64 0, .slice none 0 0] 27)) := (Below.refl _ _).alloc (Nat.le_refl _) _
  have hfl : (((n : Int) : Rat)).floor = (n : Int) := Rat.floor_intCast _
  have hq : fits ((n : Int) : Rat) = true := fits_int _ (by omega)
  have TW := argWhole_any b g 0 1 C 0 ((n : Int) : Rat) (W.alloc (.cells #[.int .i64 0, .string { data := #[] }, .string { data := #[] }, .string { data := #[] }, .bool false, .int .i64 0, .int .i64 0, .int .i64 0, .slice none 0 0] 27)) (keep_block ha hb0) (by decide) (by decide) hne (NumCells.below hc hb0) hq (by rw [hfl]; omega) (by rw [hfl]; omega) (hE.below hb0) hP
  rw [hfl] at TW
  replace TW := Lib.hid TW
  have HB0 := Lib.hid (heap_lt ha)
  have HR := Lib.hid (heap_alloc_new W (.cells #[.int .i64 0, .string { data := #[] }, .string { data := #[] }, .string { data := #[] }, .bool false, .int .i64 0, .int .i64 0, .int .i64 0, .slice none 0 0] 27))
  have HG := Lib.hid (kept_below (b := b) hb0)
  have HE0 := Lib.hid hE
  have HP := Lib.hid hP
  have HLL := Lib.hid hL
  have TU := Lib.hid (fun W' ge => unit_any n W' h0 (by omega) ge)
  have e1 : decide ((n : Int) < 1) = false := decide_eq_false (by omega)
  have e2 : decide ((300 : Int) < (n : Int)) = false := decide_eq_false (by omega)
  have e3 : decide (n < 1) = false := decide_eq_false (by omega)
  have e4 : decide (300 < n) = false := decide_eq_false (by omega)
  have e5 : decide (n = 0) = false := decide_eq_false (by omega)
  have e6 : (n = 0) = False := eq_false (by omega)
  clear hb0 ha hc hE hP hfl hq hL
  go_enter Tryz.func166, Tryz.ntmps166
  go_wp2_with fail
  refine TW.out.mono ?_
  rintro e w1 ⟨rfl, hret⟩
  have hg := hret.2
  replace HR := Lib.hid (kept_block HR.out hg (by have := HB0.out; omega))
  replace HG := Lib.hid (kept_trans HG.out hg)
  clear hret hg
  go_wp2_with fail
  refine (TU.out _ (HE0.out.kept HG.out HP.out)).mono ?_
  rintro e w2 ⟨bo, go, rfl, hm, hbo, hgo, hb⟩
  replace HR := Lib.hid (keep_block HR.out hb)
  replace HG := Lib.hid (kept_trans HG.out (kept_below (b := b) hb))
  have TV := Lib.hid (value_mx unitM n bo n go w2 h0 h9 hm (fun r c _ _ => by
    by_cases e : r = c
    · rw [show unitM r c = ((1 : Int) : Rat) from if_pos e]; exact fits_int 1 (by decide)
    · rw [show unitM r c = ((0 : Int) : Rat) from if_neg e]; exact fits_int 0 (by decide)) (HE0.out.kept HG.out HP.out))
  clear hb hm hbo hgo
  go_wp2_with fail
  refine TV.out.mono ?_
  rintro e w4 ⟨lg, cap, rfl, hvals, hlg, hb⟩
  rw [HLL.out] at hvals
  rw [HLL.out]
  have HVA := Lib.hid hvals
  have HLG := Lib.hid (show W.heap.size < lg by have := HG.out.size; omega)
  replace HR := Lib.hid (keep_block HR.out hb)
  replace HG := Lib.hid (kept_trans HG.out (kept_below (b := b) hb))
  clear hb hlg hvals
  obtain ⟨R, hR⟩ : ∃ R, W.heap.size = R := ⟨_, rfl⟩
  have HRR := Lib.hid hR
  have hres := HR.out
  rw [hR] at hres
  obtain ⟨⟨x0, x1, x2, x3, x4, x5, x6, x7, x8⟩, z0, z1, z2, z3, z4, z5, z6, z7, z8⟩ := nine_at hres
  have hset := set9_at hres (.int .i64 5) (.string { data := #[] }) (.string { data := #[] }) (.string { data := #[] }) (.bool false) (.int .i64 0) (.int .i64 (n : Int)) (.int .i64 (n : Int)) (.slice (some ⟨lg, 0, none⟩) L cap)
  obtain ⟨⟨r0, r1, r2, r3, r4, r5, r6, r7, r8⟩, _⟩ := nine_at hset
  have HVB := Lib.hid (vals_other HVA.out (set9_other w4 R (.int .i64 5) (.string { data := #[] }) (.string { data := #[] }) (.string { data := #[] }) (.bool false) (.int .i64 0) (.int .i64 (n : Int)) (.int .i64 (n : Int)) (.slice (some ⟨lg, 0, none⟩) L cap) (show lg ≠ R by have := HLG.out; omega)))
  have HL := Lib.hid (below_only HG.out (put9_below (Nat.le_of_eq HRR.out) w4 (.int .i64 5) (.string { data := #[] }) (.string { data := #[] }) (.string { data := #[] }) (.bool false) (.int .i64 0) (.int .i64 (n : Int)) (.int .i64 (n : Int)) (.slice (some ⟨lg, 0, none⟩) L cap)))
  clear hset hR hres
  rw [HRR.out]
  go_wp2
  refine bodyPost_ret (v := .agg #[.int .i64 5, .string { data := #[] }, .string { data := #[] }, .string { data := #[] }, .bool false, .int .i64 0, .int .i64 (n : Int), .int .i64 (n : Int), .slice (some ⟨lg, 0, none⟩) L cap]) (by simp [results, Tryz.results166, go_sem, r0, r1, r2, r3, r4, r5, r6, r7, r8]) rfl ⟨lg, cap, rfl, HVB.out, by have := HLG.out; have := HRR.out; omega, HL.out⟩
end Go.Proofs.YtgponoogifeopaaGreatDoor.Num.Mt
