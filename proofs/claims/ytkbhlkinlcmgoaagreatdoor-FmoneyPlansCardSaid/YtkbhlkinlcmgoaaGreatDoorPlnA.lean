/- Numbers as texts of digits, fractions, values and the functions of fmath: contracts of the program's functions, joined from smaller texts. Conditions stand at each theorem. -/
import Derived.Test.YtkbhlkinlcmgoaaGreatDoorPllA
import Derived.Test.YtkbhlkinlcmgoaaGreatDoorPliB
import Derived.Test.YtkbhlkinlcmgoaaGreatDoorPlkA
import Derived.Test.YtkbhlkinlcmgoaaGreatDoorLayA
import Derived.Test.YtkbhlkinlcmgoaaGreatDoorPlmA
import Derived.ChangeSame

set_option linter.unusedVariables false
set_option linter.unusedSimpArgs false

/- The law FmoneyPlans at any four ints. Conditions: the tables lie as they are laid. -/
namespace Go.Proofs.YtkbhlkinlcmgoaaGreatDoor.Num.Fy
open Go.RowKit Go.Lib Num

theorem itsL_get (As Is Cs Ws : Nat → Rat) (n i : Nat) (hi : i < n) : (itsL As Is Cs Ws n).getD (i * 5 + 3) 0 = Cs i := by
  obtain ⟨C, h⟩ := itsL_mid As Is Cs Ws n i hi
  rw [h, List.append_assoc, List.getD, List.getElem?_append_right (by rw [itsL_len]; omega), itsL_len, show i * 5 + 3 - i * 5 = 3 by omega]
  rfl
theorem colL_plan (As Is Cs Ws : Nat → Rat) (n : Nat) : Fl.colL (itsL As Is Cs Ws n) n 5 3 = (List.range n).map Cs := by
  unfold Fl.colL
  refine List.map_congr_left fun i hi => ?_
  rw [List.mem_range] at hi
  exact itsL_get As Is Cs Ws n i hi
section
variable {a n v k : Nat} (h : Plan a n v k)
include h
/-- the principals, one behind the other -/
theorem p_PLAN : PlC n ((v : Nat) : Rat) (mille a) ((n : Int) : Rat) ((k : Int) : Rat) (itsL (planA a n v k) (planI a n v k) (planC a n v k) (planW a n v k) n) := by
  intro W G hg hE
  refine (m_PLAN h G 0 4 W (vals_of_block hg rfl) hE).mono ?_
  rintro e w' ⟨lg, cap, rfl, hv, hl, hc, hb⟩
  exact ⟨lg, cap, rfl, ⟨hv, hl, hc⟩, trivial, hb⟩
theorem p_INDEX (h2 : 2 ≤ n) : IxC n ((0 : Int) : Rat) ((4 : Int) : Rat) (itsL (planA a n v k) (planI a n v k) (planC a n v k) (planW a n v k) n) ((List.range n).map (planC a n v k)) := by
  intro W G lg cap hg hv hE
  have h9 := h.n9
  have T := Fl.look_INDEX n 5 3 lg cap G 0 3 (itsL (planA a n v k) (planI a n v k) (planC a n v k) (planW a n v k) n) W h2 (by decide) (by decide) (by decide) (itsL_len _ _ _ _ n) (by omega) (planL_fits h) (vals_of_block hg rfl) hv hE.e
  refine T.mono ?_
  rintro e w' ⟨lg, cap, rfl, hv, _, hb⟩
  rw [colL_plan] at hv
  exact ⟨lg, cap, rfl, hv, trivial, hb⟩
theorem p_INDEX1 (h2 : n = 1) : IxC1 n ((0 : Int) : Rat) ((4 : Int) : Rat) (itsL (planA a n v k) (planI a n v k) (planC a n v k) (planW a n v k) n) (planC a n v k 0) := by
  intro W G lg cap hg hv hE
  have h9 := h.n9
  have T := Fl.look_INDEX1 n 5 3 lg cap G 0 3 (itsL (planA a n v k) (planI a n v k) (planC a n v k) (planW a n v k) n) W h2 (planC a n v k 0) (by rw [colL_plan, h2]; rfl) (by decide) (by decide) (by decide) (itsL_len _ _ _ _ n) (by omega) (planL_fits h) (vals_of_block hg rfl) hv hE.e
  exact T
theorem fits_C : ∀ q ∈ (List.range n).map (planC a n v k), fits q = true := by
  intro q hq
  obtain ⟨i, hi, rfl⟩ := List.mem_map.1 hq
  rw [List.mem_range] at hi
  exact (planC_sd h i (by have := h.n9; omega)).fits (by decide) (by decide)
omit h in
theorem sum_C (j : Nat) (hj : j ≤ n) : sumL (((List.range n).map (planC a n v k)).take j) = (List.range j).foldl (fun s i => s + planC a n v k i) 0 := by
  rw [← List.map_take, List.take_range, Nat.min_eq_left hj]
  unfold sumL
  rw [List.foldl_map]
theorem p_SUM : SmC n ((List.range n).map (planC a n v k)) ((v : Nat) : Rat) := by
  intro W G lg cap hg hv hE
  have h1 := h.n1
  have h9 := h.n9
  have hlen : ((List.range n).map (planC a n v k)).length = n := by simp
  have hs : sumL ((List.range n).map (planC a n v k)) = ((v : Nat) : Rat) := by
    have := sum_C (a := a) (n := n) (v := v) (k := k) n (Nat.le_refl _)
    rw [List.take_of_length_le (by rw [hlen]; exact Nat.le_refl _), planC_all h] at this
    exact this
  have hl : ([(List.range n).map (planC a n v k)] : List (List Rat)).flatten = (List.range n).map (planC a n v k) := by simp
  have T := m_SUM2 [arrVal' (n : Int) 1 lg n cap] [(List.range n).map (planC a n v k)] G 0 1 W (show 0 < 1 by decide) (show 1 ≤ 255 by decide)
    ⟨rfl, fun j h' h'' => by
      have h2 : j < 1 := h'
      obtain rfl : j = 0 := by omega
      exact .inr ⟨(n : Int), 1, lg, cap, by show arrVal' (n : Int) 1 lg n cap = arrVal' (n : Int) 1 lg ((List.range n).map (planC a n v k)).length cap; rw [hlen], by omega, by omega, by omega, by omega, by show (n : Int) * 1 = (((List.range n).map (planC a n v k)).length : Int); rw [hlen]; omega, by show 0 < ((List.range n).map (planC a n v k)).length; omega, by show ((List.range n).map (planC a n v k)).length ≤ 1000; omega, hv⟩⟩
    (by
      intro l hl' q hq
      simp only [List.mem_cons, List.not_mem_nil, or_false] at hl'
      subst hl'
      exact fits_C h q hq)
    (by rw [hl, hlen]; omega) (by rw [hl, hlen]; omega)
    (by
      intro j hj
      rw [hl] at hj ⊢
      rw [hlen] at hj
      rw [sum_C j hj]
      exact (planC_part h j hj).fits (by decide) (by decide))
    (vals_of_block hg rfl) hE.e
  rw [hl, hs] at T
  exact T
theorem p_SUM1 (h2 : n = 1) : SmC1 (planC a n v k 0) ((v : Nat) : Rat) := by
  intro W G hg hE
  have e0 : planC a n v k 0 = ((v : Nat) : Rat) := by unfold planC; rw [if_pos (by omega)]; rfl
  have f0 : fits ((v : Nat) : Rat) = true := (v_sd h).fits (by decide) (by decide)
  rw [e0] at hg
  have es : sumL [((v : Nat) : Rat)] = ((v : Nat) : Rat) := by show 0 + ((v : Nat) : Rat) = _; exact Rat.zero_add _
  have T := m_SUM [((v : Nat) : Rat)] G 0 1 W (show 0 < 1 by decide) (show 1 ≤ 255 by decide) (by intro q hq; simp only [List.mem_cons, List.not_mem_nil, or_false] at hq; subst hq; exact f0)
    (by
      intro j hj
      have hj1 : j ≤ 1 := hj
      rcases (show j = 0 ∨ j = 1 by omega) with rfl | rfl
      · exact fits_int 0 (by decide)
      · show fits (sumL [((v : Nat) : Rat)]) = true
        rw [es]; exact f0)
    (vals_of_block hg rfl) hE.e
  rw [es] at T
  exact T
theorem p_PRODUCT (i : Nat) (hi : i < n) : PrC (planC a n v k i) ((-1 : Int) : Rat) (-(planC a n v k i)) := by
  intro W G hg hE
  have f0 := (planC_sd h i (by have := h.n9; omega)).fits (by decide) (by decide)
  have f1 := (SD.neg (planC_sd h i (by have := h.n9; omega))).fits (by decide) (by decide)
  obtain ⟨c, hc⟩ : ∃ c, planC a n v k i = c := ⟨_, rfl⟩
  rw [hc] at hg f0 f1 ⊢
  have e1 : prodL [c] = c := by show 1 * c = c; exact Rat.one_mul _
  have e2 : prodL [c, ((-1 : Int) : Rat)] = -c := by
    show 1 * c * ((-1 : Int) : Rat) = -c
    rw [Rat.one_mul, show ((-1 : Int) : Rat) = -1 from rfl]; grind
  have T := m_PRODUCT [c, ((-1 : Int) : Rat)] G 0 2 W (show 0 < 2 by decide) (show 2 ≤ 255 by decide) (by intro q hq; simp only [List.mem_cons, List.not_mem_nil, or_false] at hq; rcases hq with rfl | rfl; exact f0; exact fits_int _ (by decide))
    (by
      intro j hj
      have hj1 : j ≤ 2 := hj
      rcases (show j = 0 ∨ j = 1 ∨ j = 2 by omega) with rfl | rfl | rfl
      · exact fits_int 1 (by decide)
      · show fits (prodL [c]) = true
        rw [e1]; exact f0
      · show fits (prodL [c, ((-1 : Int) : Rat)]) = true
        rw [e2]; exact f1)
    (vals_of_block hg rfl) hE.e
  rw [e2] at T
  exact T
end
theorem plans_any (v0 r0 n0 k0 : Int) (w : World) (hv0 : -9223372036854775808 ≤ v0) (hv1 : v0 ≤ 9223372036854775807) (hr0 : -9223372036854775808 ≤ r0) (hr1 : r0 ≤ 9223372036854775807) (hn0 : -9223372036854775808 ≤ n0) (hn1 : n0 ≤ 9223372036854775807) (hk0 : -9223372036854775808 ≤ k0) (hk1 : k0 ≤ 9223372036854775807) (hE : EnvY w) :
    Calls Tryz.prog 3 #[.int .i64 v0, .int .i64 r0, .int .i64 n0, .int .i64 k0] w fun e w' => e = .returned (.bool true) ∧ Below w.heap.size w w' := by
  obtain ⟨n, hn⟩ : ∃ n : Nat, (n : Int) = n0 % 40 + 1 := ⟨(n0 % 40 + 1).toNat, by omega⟩
  obtain ⟨k, hk⟩ : ∃ k : Nat, (k : Int) = k0 % 4 := ⟨(k0 % 4).toNat, by omega⟩
  obtain ⟨a, ha⟩ : ∃ a : Nat, (a : Int) = r0 % 20 := ⟨(r0 % 20).toNat, by omega⟩
  obtain ⟨v, hv⟩ : ∃ v : Nat, (v : Int) = v0 % 100000 := ⟨(v0 % 100000).toNat, by omega⟩
  have h : Plan a n v k := ⟨by omega, by omega, by omega, by omega, by omega⟩
  have h9 := h.n9
  have h1 := h.n1
  have fv : fits ((v : Nat) : Rat) = true := (v_sd h).fits (by decide) (by decide)
  have fr := g_rate h
  have hWh : ∀ z : Int, z.natAbs ≤ 1000000000 → Fun1 9 (.int .i64 z) (numVal ((z : Int) : Rat)) := fun z hz W g => kwhole_any z W (by omega) (by omega) g.e
  have oV : ∀ i, i < n → owedV a n v k i = planV a n v k i := fun i hi => by unfold owedV; rw [if_pos hi]
  have fV : ∀ i, i < n → fits (planV a n v k i) = true := fun i hi => (planV_sd h i (by omega)).fits (by decide) (by decide)
  have fC : ∀ i, i < n → fits (planC a n v k i) = true := fun i hi => (planC_sd h i (by omega)).fits (by decide) (by decide)
  have fN : ∀ i, i < n → fits (-(planC a n v k i)) = true := fun i hi => (SD.neg (planC_sd h i (by omega))).fits (by decide) (by decide)
  have fI : ∀ i, i < n → fits (planI a n v k i) = true := fun i hi => (planI_sd h i (by omega)).fits (by decide) (by decide)
  have fA : ∀ i, i < n → fits (planA a n v k i) = true := fun i hi => (planA_sd h i (by omega)).fits (by decide) (by decide)
  have fW : ∀ i, i < n → fits (planW a n v k i) = true := fun i hi => (planW_sd h i (by omega)).fits (by decide) (by decide)
  have fM : ∀ i, i < n → fits (planV a n v k i * mille a) = true := fun i hi => (planVr_sd h i (by omega)).fits (by decide) (by decide)
  have tR : Fun2 5 (.int .i64 (a : Int)) (.int .i64 1000) (.tuple #[fracV (mille a), .int .i64 0]) := fun W g => by
    have T := ratio_any (a : Int) 1000 W (by decide) (by omega) (by decide) g.e.tab
    rw [show (((a : Nat) : Int) : Rat) / ((1000 : Int) : Rat) = mille a by unfold mille; rw [Rat.intCast_natCast]; rfl, wroteV_ok fr] at T
    exact T
  have tO : Fun1 7 (.int .i64 (v : Int)) (fracV ((v : Nat) : Rat)) := by
    have := c_of (n := (v : Int)) (by have := h.v9; omega)
    rwa [Rat.intCast_natCast] at this
  have t0 := hWh 0 (by decide)
  have tN' : ∀ q : Rat, q = ((v : Nat) : Rat) ∨ q = mille a ∨ (∃ i, i < n ∧ q = planI a n v k i) → Fun1 6 (fracV q) (numVal q) := by
    intro q hq W g
    refine number_any q W ?_ g.e
    rcases hq with rfl | rfl | ⟨i, hi, rfl⟩
    · exact fv
    · exact fr
    · exact fI i hi
  have tA : ∀ i, i < n → Fun2 12 (numVal (planI a n v k i)) (numVal (planC a n v k i)) (numVal (planA a n v k i)) := fun i hi W g => by
    have es : planI a n v k i + planC a n v k i = planA a n v k i := by unfold planA; exact Rat.add_comm _ _
    have T := kplus_any (planI a n v k i) (planC a n v k i) W (fI i hi) (fC i hi) (by rw [es]; exact fA i hi) g.e
    rw [es] at T
    exact T
  have tB : ∀ i, i < n → Fun2 12 (numVal (owedV a n v k i)) (numVal (-(planC a n v k i))) (numVal (planW a n v k i)) := fun i hi W g => by
    have es : planV a n v k i + -(planC a n v k i) = planW a n v k i := by unfold planW; grind
    have T := kplus_any (planV a n v k i) (-(planC a n v k i)) W (fV i hi) (fN i hi) (by rw [es]; exact fW i hi) g.e
    rw [es] at T
    rw [oV i hi]
    exact T
  have tX : ∀ i, i < n → Fun2 13 (fracV (owedV a n v k i)) (fracV (mille a)) (.tuple #[fracV (planV a n v k i * mille a), .int .i64 0]) := fun i hi W g => by
    have T := mul_any (planV a n v k i) (mille a) W (fV i hi) fr g.e.tab
    rw [wroteV_ok (fM i hi)] at T
    rw [oV i hi]
    exact T
  have tY : ∀ i, i < n → Fun2 14 (fracV (planV a n v k i * mille a)) (.int .i64 (k : Int)) (.tuple #[fracV (planI a n v k i), .int .i64 0]) := fun i hi W g => by
    have T := round_any (planV a n v k i * mille a) (k : Int) W (fM i hi) (by have := h.k9; omega) g.e.tab
    rw [show roundR (planV a n v k i * mille a) (k : Int) = planI a n v k i from rfl, wroteV_ok (fI i hi)] at T
    exact T
  have tWn := hWh (n : Int) (by omega)
  have tWk := hWh (k : Int) (by have := h.k9; omega)
  have tWm := hWh (-1) (by decide)
  have tW4 := hWh 4 (by decide)
  have tWi : ∀ i : Nat, i < n → Fun1 9 (.int .i64 ((i : Int) + 1)) (numVal (((i + 1 : Nat) : Int) : Rat)) := fun i hi => hWh ((i : Int) + 1) (by omega)
  simp only [numVal_is, fracV_is] at tR tO t0 tN' tA tB tX tY tWn tWk tWm tW4 tWi
  refine plans_law v0 r0 n0 k0 v a n k ((v : Nat) : Rat) (mille a) ((n : Int) : Rat) ((k : Int) : Rat) ((-1 : Int) : Rat) ((0 : Int) : Rat) ((4 : Int) : Rat) (owedV a n v k) (fun i => planV a n v k i * mille a) (planI a n v k) (planC a n v k) (planW a n v k) (planA a n v k) (fun i => -(planC a n v k i)) ((List.range n).map (planC a n v k)) w hE
    h1 h9 ?_ ?_ ?_ ?_ tR tO tN' tWn tWk tWm t0 tW4 tWi (p_PLAN h) (p_PRODUCT h) tA tB tX tY (oV 0 (by omega)) ?_ ?_ ?_ (p_INDEX h) (fun _ => p_SUM h) (p_INDEX1 h) (p_SUM1 h)
  · intro W
    have T := kmod_any n0 40 hn0 hn1 (by decide) (by decide) W
    rw [show n0 % 40 = (n : Int) - 1 by omega] at T
    exact T
  · intro W
    have T := kmod_any k0 4 hk0 hk1 (by decide) (by decide) W
    rw [← hk] at T
    exact T
  · intro W
    have T := kmod_any r0 20 hr0 hr1 (by decide) (by decide) W
    rw [← ha] at T
    exact T
  · intro W
    have T := kmod_any v0 100000 hv0 hv1 (by decide) (by decide) W
    rw [← hv] at T
    exact T
  · intro i hi
    by_cases e : i + 1 < n
    · rw [planW_next e, oV _ e]
    · unfold owedV
      rw [if_neg e, planW_last (by omega)]
  · unfold owedV
    rw [if_neg (Nat.lt_irrefl n)]; rfl
  · intro i hi
    rw [planA_same hi, planA_same (by omega)]
end Go.Proofs.YtkbhlkinlcmgoaaGreatDoor.Num.Fy

/- From what a row lists to what the walks of fmoney ask of the world. No conditions. -/
namespace Go.Proofs.YtkbhlkinlcmgoaaGreatDoor.Num.Fy
open Go.ChangeShapes Go.RowKit Go.Lib Num

theorem one_data : (Rows.laid_chancery_fmoney_one : DataW Unit) = .agg [.lit (.string [49]), .lit (.string [49])] := by kernel_rfl
set_option maxRecDepth 100000 in
theorem one_of_reads {W : World} (h : Lib.VarReads Tryz.prog W "chancery/fmoney.one" Rows.laid_chancery_fmoney_one) (i : Nat) (hi : i < 2) : W.cell? ⟨0, i, none⟩ = some (.string { data := #[49] }) := by
  rw [one_data] at h
  obtain ⟨g, t, cs, fuel, p, hg, ht, hv, hd⟩ := h
  have hgl : Tryz.prog.globalNamed "chancery/fmoney.one" = some 0 := by kernel_rfl
  obtain rfl := Option.some.inj (hgl.symm.trans hg)
  obtain rfl := Option.some.inj ((show (Tryz.prog.globals[0]?).map (·.type) = some 24 by kernel_rfl).symm.trans ht)
  obtain ⟨y0, y1, m, ex, _, h0, h1⟩ := trod_struct2 Tryz.underlying24 hd
  have cS : Tryz.prog.cellsOf 9 = 1 := by kernel_rfl
  obtain ⟨s0, a0, b0, _⟩ := DataW.trod_string Tryz.underlying9 h0
  obtain ⟨s1, a1, b1, _⟩ := DataW.trod_string Tryz.underlying9 h1
  have e := DataW.agg.inj (Prod.mk.inj ex).1
  injection e with e0 e
  injection e with e1 _
  rw [b0] at e0
  rw [b1] at e1
  injection e0 with e0
  injection e0 with e0
  injection e1 with e1
  injection e1 with e1
  have v0 : s0 = ⟨([49] : List UInt8).toArray⟩ := by rw [e0]
  have v1 : s1 = ⟨([49] : List UInt8).toArray⟩ := by rw [e1]
  have hc : cs.toList[i]? = some (.string { data := #[49] }) := by
    have hi' : i = 0 ∨ i = 1 := by omega
    rcases hi' with rfl | rfl
    · have h0 : ((cs.toList.drop 0).take 1)[0]? = some (.string s0) := by
        have a0' : (cs.toList.drop 0).take 1 = [.string s0] := by rw [← a0, cS]
        rw [a0']; rfl
      rw [v0] at h0
      simpa using h0
    · have h0 : ((cs.toList.drop 1).take 1)[0]? = some (.string s1) := by
        have a1' : (cs.toList.drop 1).take 1 = [.string s1] := by rw [← a1, cS]
        rw [a1']; rfl
      rw [v1] at h0
      simpa using h0
  rw [World.var?_cell hgl hv i]
  simpa using hc
theorem envY_of_reads {W : World} (h : Lib.VarReads Tryz.prog W "internal/strconv.uint64pow10" Rows.laid_internal_strconv_uint64pow10) (k : Lib.VarReads Tryz.prog W "chancery/value.faults" Rows.laid_chancery_value_faults) (o : Lib.VarReads Tryz.prog W "chancery/fmoney.one" Rows.laid_chancery_fmoney_one) : EnvY W :=
  ⟨env_of_reads h k, one_of_reads o⟩
end Go.Proofs.YtkbhlkinlcmgoaaGreatDoor.Num.Fy
