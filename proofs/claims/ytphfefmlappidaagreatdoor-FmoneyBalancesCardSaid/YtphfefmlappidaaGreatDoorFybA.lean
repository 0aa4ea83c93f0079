/- Numbers as texts of digits, fractions, values and the functions of fmath: contracts of the program's functions, joined from smaller texts. Conditions stand at each theorem. -/
import Derived.Test.YtphfefmlappidaaGreatDoorFywA
import Derived.Test.YtphfefmlappidaaGreatDoorLayA
import Derived.Test.YtphfefmlappidaaGreatDoorFyaB
import Derived.ChangeSame

/- The law FmoneyBalances at any five ints. Conditions: the tables lie as they are laid. -/
namespace Go.Proofs.YtphfefmlappidaaGreatDoor.Num.Fy
open Go.RowKit Go.Lib Num

theorem bal_any (r n v u e : Int) (w : World) (hr0 : -9223372036854775808 ≤ r) (hr1 : r ≤ 9223372036854775807) (hn0 : -9223372036854775808 ≤ n) (hn1 : n ≤ 9223372036854775807) (hv0 : -9223372036854775808 ≤ v) (hv1 : v ≤ 9223372036854775807) (hu0 : -9223372036854775808 ≤ u) (hu1 : u ≤ 9223372036854775807) (he0 : -9223372036854775808 ≤ e) (he1 : e ≤ 9223372036854775807) (hE : EnvY w) :
    Calls Tryz.prog 3 #[.int .i64 r, .int .i64 n, .int .i64 v, .int .i64 u, .int .i64 e] w fun e w' => e = .returned (.bool true) ∧ Below w.heap.size w w' := by
  obtain ⟨m, hm⟩ : ∃ m, r % 40 = m := ⟨_, rfl⟩
  obtain ⟨t, ht⟩ : ∃ t, n % 24 = t := ⟨_, rfl⟩
  obtain ⟨z, hz⟩ : ∃ z, e % 2 = z := ⟨_, rfl⟩
  have hm0 : 0 ≤ m ∧ m ≤ 39 := by omega
  obtain ⟨k, hk⟩ : ∃ k : Nat, 1 + t = (k : Int) := ⟨(1 + t).toNat, by omega⟩
  have hk1 : 1 ≤ k := by omega
  have hk2 : k ≤ 24 := by omega
  have a0 : -9 ≤ m - 9 := by omega
  have a1 : m - 9 ≤ 30 := by omega
  have hV : (v % 2000001 - 1000000).natAbs ≤ 1000000 := by omega
  have hU : (u % 2000001 - 1000000).natAbs ≤ 1000000 := by omega
  obtain ⟨b, hb⟩ : ∃ b : Bool, (if b = true then (1 : Int) else 0) = z := ⟨decide (z = 1), by by_cases h : z = 1 <;> simp [h]; omega⟩
  have r0 := m_PMT a0 a1 hV hU b hk1 hk2
  have r1 := m_IPMT a0 a1 hV hU b hk1 hk2
  have r2 := m_PPMT a0 a1 hV hU b hk1 hk2
  have r3 := m_CUMPRINC a0 a1 hV hk1 hk2
  have r4 := m_FV a0 a1 hV hU b hk1 hk2
  have r5 := m_PV a0 a1 hV hU b hk1 hk2
  have hWh : ∀ z : Int, z.natAbs ≤ 1000000000 → Fun1 11 (.int .i64 z) (numVal ((z : Int) : Rat)) := fun z hz W g => kwhole_any z W (by omega) (by omega) g.e
  have h1 := hWh (1 + t) (by omega)
  have h2 := hWh z (by omega)
  rw [show (((1 + t : Int)) : Rat) = ((k : Int) : Rat) from congrArg _ hk] at h1
  rw [← hb] at h2
  have hP : Fun1 12 (.int .i64 v) (numVal (cents (v % 2000001 - 1000000))) := fun W g => knumber_any v hv0 hv1 W g.e
  have hQ : Fun1 12 (.int .i64 u) (numVal (cents (u % 2000001 - 1000000))) := fun W g => knumber_any u hu0 hu1 W g.e
  have hR : Fun2 8 (.int .i64 (m - 9)) (.int .i64 100) (.tuple #[fracV (rateR (m - 9)), .int .i64 0]) := fun W g => by
    have T := ratio_any (m - 9) 100 W (by decide) (by omega) (by decide) g.e.tab
    rw [show (((m - 9 : Int)) : Rat) / ((100 : Int) : Rat) = rateR (m - 9) from rfl, wroteV_ok (f_rate a0 a1)] at T
    exact T
  have hN : Fun1 10 (fracV (rateR (m - 9))) (numVal (rateR (m - 9))) := fun W g => number_any (rateR (m - 9)) W (f_rate a0 a1) g.e
  have hX : Fun2 15 (numVal (firstI (rateR (m - 9)) (cents (v % 2000001 - 1000000)) b)) (numVal (payR (rateR (m - 9)) k b (cents (v % 2000001 - 1000000)) (cents (u % 2000001 - 1000000)) - firstI (rateR (m - 9)) (cents (v % 2000001 - 1000000)) b)) (numVal (payR (rateR (m - 9)) k b (cents (v % 2000001 - 1000000)) (cents (u % 2000001 - 1000000)))) := fun W g => by
    have es : firstI (rateR (m - 9)) (cents (v % 2000001 - 1000000)) b + (payR (rateR (m - 9)) k b (cents (v % 2000001 - 1000000)) (cents (u % 2000001 - 1000000)) - firstI (rateR (m - 9)) (cents (v % 2000001 - 1000000)) b) = payR (rateR (m - 9)) k b (cents (v % 2000001 - 1000000)) (cents (u % 2000001 - 1000000)) := by grind
    have T := kplus_any (firstI (rateR (m - 9)) (cents (v % 2000001 - 1000000)) b) (payR (rateR (m - 9)) k b (cents (v % 2000001 - 1000000)) (cents (u % 2000001 - 1000000)) - firstI (rateR (m - 9)) (cents (v % 2000001 - 1000000)) b) W ((firstI_sd a0 a1 hV b).fits (by decide) (by decide)) ((firstP_sd a0 a1 hV hU b hk1 hk2).fits (by decide) (by decide)) (by rw [es]; exact f_pay a0 a1 hV hU b hk1 hk2) g.e
    rw [es] at T
    exact T
  have hS : Fun2 15 (numVal (prinsR (rateR (m - 9)) k (cents (v % 2000001 - 1000000)) k)) (numVal (cents (v % 2000001 - 1000000))) (numVal ((0 : Int) : Rat)) := fun W g => by
    have es : prinsR (rateR (m - 9)) k (cents (v % 2000001 - 1000000)) k + cents (v % 2000001 - 1000000) = ((0 : Int) : Rat) := prins_end _ _ _ (sum0_ne a0 hk1)
    have T := kplus_any (prinsR (rateR (m - 9)) k (cents (v % 2000001 - 1000000)) k) (cents (v % 2000001 - 1000000)) W ((prins_sd a0 a1 hV hk1 hk2 (k := k) (by omega)).fits (by decide) (by decide)) ((cents_sd hV).fits (by decide) (by decide)) (by rw [es]; exact fits_int 0 (by decide)) g.e
    rw [es] at T
    exact T
  rw [← hb] at hz
  subst hb
  exact bal_walk r n v u e m t _ _ _ _ _ _ _ _ _ _ _ _ w hE hr0 hr1 hn0 hn1 he0 he1 hm ht hz r0 r1 r2 r3 r4 r5 h1 h2 (hWh 1 (by decide)) (hWh 0 (by decide)) hP hQ hR hN hX hS
end Go.Proofs.YtphfefmlappidaaGreatDoor.Num.Fy

/- From what a row lists to what the walks of fmoney ask of the world. No conditions. -/
namespace Go.Proofs.YtphfefmlappidaaGreatDoor.Num.Fy
open Go.ChangeShapes Go.RowKit Go.Lib Num

theorem one_data : (Rows.laid_chancery_fmoney_one : DataW Unit) = .agg [.lit (.string [49]), .lit (.string [49])] := by kernel_rfl
set_option maxRecDepth 100000 in
theorem one_of_reads {W : World} (h : Lib.VarReads Tryz.prog W "chancery/fmoney.one" Rows.laid_chancery_fmoney_one) (i : Nat) (hi : i < 2) : W.cell? ⟨0, i, none⟩ = some (.string { data := #[49] }) := by
  rw [one_data] at h
  obtain ⟨g, t, cs, fuel, p, hg, ht, hv, hd⟩ := h
  have hgl : Tryz.prog.globalNamed "chancery/fmoney.one" = some 0 := by kernel_rfl
  obtain rfl := Option.some.inj (hgl.symm.trans hg)
  obtain rfl := Option.some.inj ((show (Tryz.prog.globals[0]?).map (·.type) = some 23 by kernel_rfl).symm.trans ht)
  obtain ⟨y0, y1, m, ex, _, h0, h1⟩ := trod_struct2 Tryz.underlying23 hd
  have cS : Tryz.prog.cellsOf 9 = 1 := by kernel_rfl
  obtain ⟨s0, a0, b0, _⟩ := DataW.trod_string Tryz.underlying9 h0
  obtain ⟨s1, a1, b1, _⟩ := DataW.trod_string Tryz.underlying9 h1
  have e := DataW.agg.inj (Prod.mk.inj ex).1
  injection e with e0 e
  injection e with e1 _
  rw [b0] at e0
  rw [b1] at e1
  injection e0 with e0
  injection e0 with e0
  injection e1 with e1
  injection e1 with e1
  have v0 : s0 = ⟨([49] : List UInt8).toArray⟩ := by rw [e0]
  have v1 : s1 = ⟨([49] : List UInt8).toArray⟩ := by rw [e1]
  have hc : cs.toList[i]? = some (.string { data := #[49] }) := by
    have hi' : i = 0 ∨ i = 1 := by omega
    rcases hi' with rfl | rfl
    · have h0 : ((cs.toList.drop 0).take 1)[0]? = some (.string s0) := by
        have a0' : (cs.toList.drop 0).take 1 = [.string s0] := by rw [← a0, cS]
        rw [a0']; rfl
      rw [v0] at h0
      simpa using h0
    · have h0 : ((cs.toList.drop 1).take 1)[0]? = some (.string s1) := by
        have a1' : (cs.toList.drop 1).take 1 = [.string s1] := by rw [← a1, cS]
        rw [a1']; rfl
      rw [v1] at h0
      simpa using h0
  rw [World.var?_cell hgl hv i]
  simpa using hc
theorem envY_of_reads {W : World} (h : Lib.VarReads Tryz.prog W "internal/strconv.uint64pow10" Rows.laid_internal_strconv_uint64pow10) (k : Lib.VarReads Tryz.prog W "chancery/value.faults" Rows.laid_chancery_value_faults) (o : Lib.VarReads Tryz.prog W "chancery/fmoney.one" Rows.laid_chancery_fmoney_one) : EnvY W :=
  ⟨env_of_reads h k, one_of_reads o⟩
end Go.Proofs.YtphfefmlappidaaGreatDoor.Num.Fy
