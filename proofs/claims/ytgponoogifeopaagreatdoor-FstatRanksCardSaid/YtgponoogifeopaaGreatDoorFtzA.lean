/- Numbers as texts of digits, fractions, values and the functions of fmath: contracts of the program's functions, joined from smaller texts. Conditions stand at each theorem. -/
import Derived.Test.YtgponoogifeopaaGreatDoorFtxA
import Derived.Test.YtgponoogifeopaaGreatDoorFtqB
import Derived.Test.YtgponoogifeopaaGreatDoorFttB
import Derived.Test.YtgponoogifeopaaGreatDoorLayA
import Derived.Test.YtgponoogifeopaaGreatDoorFttA
import Derived.ChangeSame

/- The law FstatRanks at any ints and any int. Conditions: the tables and the package variable half lie as they are laid. -/
namespace Go.Proofs.YtgponoogifeopaaGreatDoor.Num.Ft
open Go.RowKit Go.Lib Num

section
variable {qs : List Rat} {ln : Nat} (hln : qs.length = ln) (h1 : 1 ≤ ln) (h9 : ln ≤ 30) (hs : ∀ q ∈ qs, Sm q 1000 1)
include hln h1 h9
theorem arr_arg {W : World} {g cap : Nat} (hv : ValsAt W g 0 (numVals qs)) : AArg W (arrVal' (ln : Int) 1 g qs.length cap) qs :=
  .inr ⟨(ln : Int), 1, g, cap, rfl, by omega, by omega, by omega, by omega, by rw [hln]; omega, by omega, by omega, hv⟩
include hs
theorem k_LARGE (k m : Nat) (hk : 1 ≤ k) (hkL : k ≤ ln) (hm : m + 1 = ln + 1 - k) : S2 { data := #[76, 65, 82, 71, 69] } ln ((k : Int) : Rat) qs (numVal ((sortL qs).getD m 0)) := by
  intro W G g cap hb hv hE
  have hA := arr_arg hln h1 h9 (cap := cap) hv
  subst hln
  exact s_LARGE (by omega) (by omega) hs hA hv hE.env k m hk hkL hm (vals_of_block hb rfl)
theorem k_SMALL (k m : Nat) (hk : 1 ≤ k) (hkL : k ≤ ln) (hm : m + 1 = k) : S2 { data := #[83, 77, 65, 76, 76] } ln ((k : Int) : Rat) qs (numVal ((sortL qs).getD m 0)) := by
  intro W G g cap hb hv hE
  have hA := arr_arg hln h1 h9 (cap := cap) hv
  subst hln
  exact s_SMALL (by omega) (by omega) hs hA hv hE.env k m hk hkL hm (vals_of_block hb rfl)
theorem k_RANK (x : Rat) (hx : x ∈ qs) : S3 { data := #[82, 65, 78, 75] } ln x qs (numVal (((1 + overN x qs qs.length : Nat) : Int) : Rat)) := by
  intro W G g cap hb hv hE
  have hA := arr_arg hln h1 h9 (cap := cap) hv
  subst hln
  exact s_RANK (by omega) (by omega) hs hA hv hE.env x hx (vals_of_block hb rfl)
theorem k_PCTL {x v : Rat} (hx : Sm x 1 2) (hQ : QuantF qs x v) (hf : fits v = true) : S2 { data := #[80, 69, 82, 67, 69, 78, 84, 73, 76, 69] } ln x qs (numVal v) := by
  intro W G g cap hb hv hE
  have hA := arr_arg hln h1 h9 (cap := cap) hv
  subst hln
  exact s_PCTL (by omega) (by omega) hs hA hv hE.env hx hQ hf (vals_of_block hb rfl)
theorem k_QUART : S2 { data := #[81, 85, 65, 82, 84, 73, 76, 69] } ln ((2 : Int) : Rat) qs (numVal (percR (sortL qs) halfR ((qs.length - 1) / 2))) := by
  intro W G g cap hb hv hE
  have hA := arr_arg hln h1 h9 (cap := cap) hv
  subst hln
  exact s_QUART (by omega) (by omega) hs hA hv hE.env (vals_of_block hb rfl)
theorem k_MIN : S1 { data := #[77, 73, 78] } ln qs (numVal ((sortL qs).getD 0 0)) := by
  intro W G g cap hb hv hE
  have hA := arr_arg hln h1 h9 (cap := cap) hv
  subst hln
  exact s_MIN (by omega) (by omega) hs hA hv hE.env (vals_of_block hb rfl)
theorem k_MAX : S1 { data := #[77, 65, 88] } ln qs (numVal ((sortL qs).getD (qs.length - 1) 0)) := by
  intro W G g cap hb hv hE
  have hA := arr_arg hln h1 h9 (cap := cap) hv
  subst hln
  exact s_MAX (by omega) (by omega) hs hA hv hE.env (vals_of_block hb rfl)
theorem k_COUNT : S1 { data := #[67, 79, 85, 78, 84] } ln qs (numVal ((ln : Int) : Rat)) := by
  intro W G g cap hb hv hE
  have hA := arr_arg hln h1 h9 (cap := cap) hv
  subst hln
  exact s_COUNT (by omega) (by omega) hs hA hv hE.env (vals_of_block hb rfl)
theorem k_MEDIAN : S1 { data := #[77, 69, 68, 73, 65, 78] } ln qs (numVal (percR (sortL qs) halfR ((qs.length - 1) / 2))) := by
  intro W G g cap hb hv hE
  have hA := arr_arg hln h1 h9 (cap := cap) hv
  subst hln
  exact s_MEDIAN (by omega) (by omega) hs hA hv hE.env hE.half (vals_of_block hb rfl)
theorem k_FREQ (x : Rat) (hfx : fits x = true) : FqC ln x qs [((ln - gtN x qs ln : Nat) : Int), ((gtN x qs ln : Nat) : Int)] := by
  intro W G g cap hb hv hE
  have hA := arr_arg hln h1 h9 (cap := cap) hv
  subst hln
  exact s_FREQ (by omega) (by omega) hs hA hv hE.env x hfx (vals_of_block hb rfl)
end
/-- the law's math at SUM of an array of two whole numbers -/
theorem k_SUM (x y : Int) (hx : x.natAbs ≤ 1000) (hy : y.natAbs ≤ 1000) : M1 { data := #[83, 85, 77] } [(x : Rat), (y : Rat)] (numVal ((x + y : Int) : Rat)) := by
  intro W G g cap hb hv hE
  have e2 : sumL [(x : Rat), (y : Rat)] = ((x + y : Int) : Rat) := by
    show 0 + (x : Rat) + (y : Rat) = _
    rw [Rat.zero_add, Rat.intCast_add]
  have e1 : sumL [(x : Rat)] = (x : Rat) := by
    show 0 + (x : Rat) = _
    exact Rat.zero_add _
  have hl : ([[(x : Rat), (y : Rat)]] : List (List Rat)).flatten = [(x : Rat), (y : Rat)] := rfl
  have T := m_SUM2 [arrVal' 2 1 g 2 cap] [[(x : Rat), (y : Rat)]] G 0 1 W (show 0 < 1 by decide) (show 1 ≤ 255 by decide)
    ⟨rfl, fun j h h' => by
      have h2 : j < 1 := h
      obtain rfl : j = 0 := by omega
      exact .inr ⟨2, 1, g, cap, rfl, by decide, by decide, by decide, by decide, rfl, show 0 < 2 by decide, show 2 ≤ 1000 by decide, hv⟩⟩
    (by
      intro l hl q hq
      simp only [List.mem_cons, List.not_mem_nil, or_false] at hl
      subst hl
      simp only [List.mem_cons, List.not_mem_nil, or_false] at hq
      rcases hq with rfl | rfl
      · exact fits_int _ (by omega)
      · exact fits_int _ (by omega))
    (by rw [hl]; exact (show 0 < 2 by decide)) (by rw [hl]; exact (show 2 ≤ 300000 by decide))
    (by
      rw [hl]
      intro j hj
      match j, hj with
      | 0, _ => show fits (0 : Rat) = true; decide +kernel
      | 1, _ => show fits (sumL [_]) = true; rw [e1]; exact fits_int _ (by omega)
      | 2, _ => show fits (sumL [_, _]) = true; rw [e2]; exact fits_int _ (by omega))
    (vals_of_block hb rfl) hE.env
  rw [hl, e2] at T
  exact T
theorem cmp_le {p q : Rat} (h : p ≤ q) : cmpR p q ≤ 0 ∧ -9 ≤ cmpR p q := by
  unfold cmpR
  by_cases e : p = q
  · rw [if_pos e]; decide
  · rw [if_neg e, if_pos (by grind)]; decide
theorem ranks_any (A : Option Addr) (L C : Nat) (zs : List Int) (z : Int) (w : World) (hi : IntsIn w A L C zs) (hz0 : -9223372036854775808 ≤ z) (hz1 : z ≤ 9223372036854775807) (hE : EnvK w) :
    Calls Tryz.prog 4 #[.slice A L C, .int .i64 z] w fun e w' => e = .returned (.bool true) ∧ Below w.heap.size w w' := by
  obtain ⟨hr1, hr9, _, _⟩ := rows_bounds L 1 (Nat.le_refl _) (by decide)
  have hxl := tabN_len zs 1
  have hxr := tabN_range zs 1 (Nat.le_refl _) (by decide)
  have htab := fun W (g : Env W) (hb : Below w.heap.size w W) => ktable_any A zs L C 1 W (Nat.le_refl _) (by decide) (hi.below hb) g
  rw [hi.len] at hxl
  obtain ⟨ln, hln⟩ : ∃ ln, rowsN L 1 = ln := ⟨_, rfl⟩
  rw [hln] at hr1 hr9 hxl htab
  rw [Nat.mul_one] at hxl htab
  obtain ⟨xs, hxs⟩ : ∃ xs, tabN zs 1 = xs := ⟨_, rfl⟩
  rw [hxs] at hxl hxr htab
  have hql : (over 1 xs).length = ln := by rw [over_len]; exact hxl
  have hsm : ∀ q ∈ over 1 xs, Sm q 1000 1 := by
    intro q hq
    rw [over_one] at hq
    obtain ⟨x, hx, rfl⟩ := List.mem_map.1 hq
    have := hxr x hx
    exact Sm.int x (by omega)
  obtain ⟨qs, hqs⟩ : ∃ qs, over 1 xs = qs := ⟨_, rfl⟩
  rw [hqs] at hql hsm htab
  have hmz : 0 ≤ z % (ln : Int) ∧ z % (ln : Int) < (ln : Int) := ⟨Int.emod_nonneg _ (by omega), Int.emod_lt_of_pos _ (by omega)⟩
  obtain ⟨k, hk⟩ : ∃ k : Nat, (k : Int) = 1 + z % (ln : Int) := ⟨(1 + z % (ln : Int)).toNat, by omega⟩
  have hk1 : 1 ≤ k := by omega
  have hk9 : k ≤ ln := by omega
  obtain ⟨m, hm⟩ : ∃ m, m + 1 = ln + 1 - k := ⟨ln - k, by omega⟩
  have hml : m < qs.length := by omega
  have hsl := sortL_len qs
  have ha : (sortL qs).getD m 0 ∈ qs := by
    rw [sortL_getD qs (by omega)]
    exact sortL_mem.1 (List.getElem_mem _)
  have hov := over_rank qs m hml
  have f1 : fits (1 : Rat) = true := one_sm.fits (by decide +kernel) (by decide +kernel)
  obtain ⟨o, ho⟩ : ∃ o, overN ((sortL qs).getD m 0) qs qs.length = o := ⟨_, rfl⟩
  have hgt := gtN_le ((sortL qs).getD m 0) qs ln
  have hcmp := cmp_le (p := ((((1 + o : Nat)) : Int) : Rat)) (q := ((k : Int) : Rat)) (by
    rw [ho] at hov
    exact Rat.intCast_le_intCast.2 (by omega))
  have fk : fits ((k : Int) : Rat) = true := fits_int _ (by omega)
  have fo : fits ((((1 + o : Nat)) : Int) : Rat) = true := fits_int _ (by rw [ho] at hov; omega)
  have W1 : ∀ n : Int, n.natAbs ≤ 1000 → Fun1 6 (.int .i64 n) (numVal ((n : Int) : Rat)) := fun n hn W g => kwhole_any n W (by omega) (by omega) g
  have rk := k_RANK hql hr1 hr9 hsm _ ha
  rw [ho] at rk
  have q0 := quant_0 (by omega) (by omega) hsm
  have q1 := quant_1 (by omega) (by omega) hsm
  have hsum := k_SUM ((ln - gtN ((sortL qs).getD m 0) qs ln : Nat) : Int) ((gtN ((sortL qs).getD m 0) qs ln : Nat) : Int) (by omega) (by omega)
  rw [show (((ln - gtN ((sortL qs).getD m 0) qs ln : Nat) : Int) + ((gtN ((sortL qs).getD m 0) qs ln : Nat) : Int)) = (ln : Int) by omega] at hsum
  have tO := c_of (n := 1) (by decide)
  rw [fracV_is] at tO
  have tN : Fun1 12 (.agg #[.string (numS ((1 : Int) : Rat)), .string (denS ((1 : Int) : Rat))]) (numVal ((1 : Int) : Rat)) := fun W g => by
    have := number_any ((1 : Int) : Rat) W f1 g
    rw [fracV_is] at this
    exact this
  refine ranks_walk A L C ln k z (cmpR ((((1 + o : Nat)) : Int) : Rat) ((k : Int) : Rat)) qs _ ((sortL qs).getD m 0) ((k : Int) : Rat) (((ln + 1 - k : Nat) : Int) : Rat) ((((1 + o : Nat)) : Int) : Rat) ((sortL qs).getD 0 0) ((sortL qs).getD (qs.length - 1) 0) ((1 : Int) : Rat) ((0 : Int) : Rat) ((2 : Int) : Rat) (percR (sortL qs) halfR ((qs.length - 1) / 2)) ((ln : Int) : Rat) w hE
    (fun W hb g => htab W g.env hb) hr1 hr9 hk1 hk9 hcmp.1 hcmp.2
    (fun W => by
      have := kmod_any z (ln : Int) hz0 hz1 (by omega) (by omega) W
      rw [show (k : Int) - 1 = z % (ln : Int) by omega]
      exact this)
    (W1 _ (by omega)) (by
      have := W1 ((ln + 1 - k : Nat) : Int) (by omega)
      rw [show (ln : Int) + 1 - (k : Int) = ((ln + 1 - k : Nat) : Int) by omega]
      exact this)
    (k_LARGE hql hr1 hr9 hsm k m hk1 hk9 hm) (k_SMALL hql hr1 hr9 hsm (ln + 1 - k) m (by omega) (by omega) (by omega)) rk
    (fun W g => compare_num _ _ W fo fk g)
    (k_MIN hql hr1 hr9 hsm) (k_MAX hql hr1 hr9 hsm) tO tN
    (k_FREQ hql hr1 hr9 hsm _ (each_fits hsm _ ha))
    (W1 0 (by decide)) (k_PCTL hql hr1 hr9 hsm zero_sm q0 (place_fits hsm (by omega))) (k_PCTL hql hr1 hr9 hsm one_sm q1 (place_fits hsm (by omega)))
    (W1 2 (by decide)) (k_QUART hql hr1 hr9 hsm) (k_MEDIAN hql hr1 hr9 hsm) hsum (W1 _ (by omega)) (k_COUNT hql hr1 hr9 hsm)
end Go.Proofs.YtgponoogifeopaaGreatDoor.Num.Ft

/- From what a row lists to what the walks of FstatRanks ask of the world. No conditions. -/
namespace Go.Proofs.YtgponoogifeopaaGreatDoor.Num.Ft
open Go.ChangeShapes Go.RowKit Go.Lib Num

theorem half_data : (Rows.laid_chancery_fstat_half : DataW Unit) = .agg [.lit (.string [49]), .lit (.string [50])] := by kernel_rfl
set_option maxRecDepth 100000 in
theorem half_of_reads {W : World} (h : Lib.VarReads Tryz.prog W "chancery/fstat.half" Rows.laid_chancery_fstat_half) : W.cell? ⟨0, 0, none⟩ = some (.string { data := #[49] }) ∧ W.cell? ⟨0, 1, none⟩ = some (.string { data := #[50] }) := by
  rw [half_data] at h
  obtain ⟨g, t, cs, fuel, p, hg, ht, hv, hd⟩ := h
  have hgl : Tryz.prog.globalNamed "chancery/fstat.half" = some 0 := by kernel_rfl
  obtain rfl := Option.some.inj (hgl.symm.trans hg)
  obtain rfl := Option.some.inj ((show (Tryz.prog.globals[0]?).map (·.type) = some 24 by kernel_rfl).symm.trans ht)
  obtain ⟨y0, y1, m, ex, _, h0, h1⟩ := trod_struct2 Tryz.underlying24 hd
  have cS : Tryz.prog.cellsOf 9 = 1 := by kernel_rfl
  obtain ⟨s0, a0, b0, _⟩ := DataW.trod_string Tryz.underlying9 h0
  obtain ⟨s1, a1, b1, _⟩ := DataW.trod_string Tryz.underlying9 h1
  have e := DataW.agg.inj (Prod.mk.inj ex).1
  injection e with e0 e
  injection e with e1 _
  rw [b0] at e0
  rw [b1] at e1
  injection e0 with e0
  injection e0 with e0
  injection e1 with e1
  injection e1 with e1
  have v0 : s0 = ⟨([49] : List UInt8).toArray⟩ := by rw [e0]
  have v1 : s1 = ⟨([50] : List UInt8).toArray⟩ := by rw [e1]
  have h0 : ((cs.toList.drop 0).take 1)[0]? = some (.string s0) := by
    have a0' : (cs.toList.drop 0).take 1 = [.string s0] := by rw [← a0, cS]
    rw [a0']; rfl
  have h1 : ((cs.toList.drop 1).take 1)[0]? = some (.string s1) := by
    have a1' : (cs.toList.drop 1).take 1 = [.string s1] := by rw [← a1, cS]
    rw [a1']; rfl
  rw [v0] at h0
  rw [v1] at h1
  rw [World.var?_cell hgl hv 0, World.var?_cell hgl hv 1]
  exact ⟨by simpa using h0, by simpa using h1⟩
theorem half_numS : numS halfR = { data := #[49] } := by decide +kernel
theorem half_denS : denS halfR = { data := #[50] } := by decide +kernel
theorem envK_of_reads {W : World} (h : Lib.VarReads Tryz.prog W "internal/strconv.uint64pow10" Rows.laid_internal_strconv_uint64pow10) (k : Lib.VarReads Tryz.prog W "chancery/value.faults" Rows.laid_chancery_value_faults) (o : Lib.VarReads Tryz.prog W "chancery/fstat.half" Rows.laid_chancery_fstat_half) : EnvK W :=
  ⟨env_of_reads h k, by rw [half_numS, half_denS]; exact half_of_reads o⟩
end Go.Proofs.YtgponoogifeopaaGreatDoor.Num.Ft
