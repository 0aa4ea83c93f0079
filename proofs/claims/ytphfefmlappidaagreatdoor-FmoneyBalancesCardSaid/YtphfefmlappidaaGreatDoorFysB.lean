/- Numbers as texts of digits, fractions, values and the functions of fmath: contracts of the program's functions, joined from smaller texts. Conditions stand at each theorem. -/
import Derived.Test.YtphfefmlappidaaGreatDoorFysA
import Derived.Test.YtphfefmlappidaaGreatDoorFyaC

/- the law's money at FV, PV, PMT, IPMT, PPMT, CUMPRINC. Conditions: rates of -9 to 30 hundredths, at most 24 periods; the tables lie as they are laid. -/
namespace Go.Proofs.YtphfefmlappidaaGreatDoor.Num.Fy
open Go.RowKit Go.Lib Go.MapKept Num

theorem fr_of (i : Nat) (hi : i < allRows.length) (h : freshB allRows[i].name (allRows.take i) = true) : ∀ j (hj : j < i), (allRows[i].name == (allRows[j]'(by omega)).name) = false := by
  intro j hj
  have := fresh_of h (allRows[j]'(by omega)) (by
    rw [List.mem_take_iff_getElem]
    exact ⟨j, by omega, rfl⟩)
  exact this
/-- what money gives at values that lie in a block; at a row -/
def MoneyRow (nm : ByteArray) (cs : Array Value) (n : Nat) (v : Value) : Prop := ∀ (W : World) (G : Nat), W.heap[G]? = some (.cells cs 30 (0, 0)) → EnvY W → Calls Tryz.prog 13 #[.string nm, .slice (some ⟨G, 0, none⟩) n n] W fun e w' => e = .returned v ∧ Below W.heap.size W w'
theorem at_row {nm : ByteArray} {cs : Array Value} {n : Nat} {v : Value} (T : MoneyRow nm cs n v) (W : World) (g : EnvY W) :
    Calls Tryz.prog 13 #[.string nm, .slice (some ⟨W.heap.size, 0, none⟩) n n] (W.alloc (.cells cs 30)) fun e w' => e = .returned v ∧ Below W.heap.size W w' := by
  have hb : Below W.heap.size W (W.alloc (.cells cs 30)) := (Below.refl _ _).alloc (Nat.le_refl _) _
  refine (T _ _ (heap_alloc_new W _) (g.below hb)).mono ?_
  rintro e w' ⟨rfl, h⟩
  exact ⟨rfl, hb.trans (h.mono hb.size)⟩
def RowV (nm : ByteArray) (vs : List Val) (v : Value) : Prop := ∀ (W : World) (G : Nat), ValsAt W G 0 vs → EnvY W → Calls Tryz.prog 13 #[.string nm, .slice (some ⟨G, 0, none⟩) vs.length vs.length] W fun e w' => e = .returned v ∧ Below W.heap.size W w'
theorem RowV.row {nm : ByteArray} {vs : List Val} {v : Value} (h : RowV nm vs v) : MoneyRow nm (flat vs).toArray vs.length v := fun W G hb g => h W G (vals_of_block hb (by simp)) g
theorem fz {z : Int} (h : z.natAbs ≤ 1000000000000000000) : fits ((z : Int) : Rat) = true := fits_int z h
theorem flz (z : Int) : ((z : Int) : Rat).floor = z := Rat.floor_intCast z

section
variable {a V U : Int} {n : Nat} (a0 : -9 ≤ a) (a1 : a ≤ 30) (hV : V.natAbs ≤ 1000000) (hU : U.natAbs ≤ 1000000) (e : Bool) (hn : 1 ≤ n) (hk : n ≤ 24)
include a0 a1 hV hU hn hk
set_option linter.unusedSectionVars false in
theorem present_pay : presR (rateR a) n e (payR (rateR a) n e (cents V) (cents U)) (cents U) = cents V := pres_pay _ _ _ _ _ (sum_ne a0 hn) (grow_ne a0 n)
theorem m_PMT : RowV { data := #[80, 77, 84] } (numVals [rateR a, ((n : Int) : Rat), cents V, cents U, (((if e = true then (1 : Int) else 0) : Int) : Rat)]) (numVal (payR (rateR a) n e (cents V) (cents U))) := fun W G hv g =>
  call_nn 2 ⟨{ data := #[80, 77, 84] }, 3, 5, { data := #[115] }, true, 94⟩ (by decide) rfl rfl (fr_of 2 (by decide) (by kernel_rfl)) rfl (enters_of Tryz.func94 (by kernel_rfl) rfl) [rateR a, ((n : Int) : Rat), cents V, cents U, (((if e = true then (1 : Int) else 0) : Int) : Rat)] G 0 5 (payR (rateR a) n e (cents V) (cents U)) W (show 0 < 5 from by decide) (show 5 ≤ 300 from by decide) (show (3 : Int) ≤ 5 from by decide) (show (5 : Int) ≤ 5 from by decide) hv g
    (by
      intro x hx
      simp only [List.mem_cons, List.not_mem_nil, or_false] at hx
      rcases hx with rfl | rfl | rfl | rfl | rfl
      · exact (f_rate a0 a1)
      · exact (fz (z := (n : Int)) (by omega))
      · exact ((cents_sd hV).fits (by decide) (by decide))
      · exact ((cents_sd hU).fits (by decide) (by decide))
      · exact (fz (z := (if e = true then (1 : Int) else 0)) (by split <;> decide)))
    (f_pay a0 a1 hV hU e hn hk)
    (fun W b g cap hE hP hlt hgl ha hn' hne => fy_PMT (rateR a) _ (cents V) (cents U) _ (growR (rateR a) n) (sumR (rateR a) n e) (payR (rateR a) n e (cents V) (cents U)) (n : Int) (if e = true then (1 : Int) else 0) b g cap W (f_rate a0 a1) (fz (z := (n : Int)) (by omega)) (flz _) ((cents_sd hV).fits (by decide) (by decide)) ((cents_sd hU).fits (by decide) (by decide)) (fz (z := (if e = true then (1 : Int) else 0)) (by split <;> decide)) (flz _) (by omega) (by omega) (by split <;> decide) (by split <;> decide) (loan_any a0 a1 e hk) (payment_any a0 a1 hV hU e hn hk) ha hne (hn' 0 (show 0 < 5 by decide))
      (hn' 1 (show 1 < 5 by decide))
      (hn' 2 (show 2 < 5 by decide))
      (hn' 3 (show 3 < 5 by decide))
      (hn' 4 (show 4 < 5 by decide)) hE hP)
theorem m_FV : RowV { data := #[70, 86] } (numVals [rateR a, ((n : Int) : Rat), payR (rateR a) n e (cents V) (cents U), cents V, (((if e = true then (1 : Int) else 0) : Int) : Rat)]) (numVal (cents U)) := fun W G hv g =>
  call_nn 0 ⟨{ data := #[70, 86] }, 3, 5, { data := #[115] }, true, 82⟩ (by decide) rfl rfl (fr_of 0 (by decide) (by kernel_rfl)) rfl (enters_of Tryz.func82 (by kernel_rfl) rfl) [rateR a, ((n : Int) : Rat), payR (rateR a) n e (cents V) (cents U), cents V, (((if e = true then (1 : Int) else 0) : Int) : Rat)] G 0 5 (cents U) W (show 0 < 5 from by decide) (show 5 ≤ 300 from by decide) (show (3 : Int) ≤ 5 from by decide) (show (5 : Int) ≤ 5 from by decide) hv g
    (by
      intro x hx
      simp only [List.mem_cons, List.not_mem_nil, or_false] at hx
      rcases hx with rfl | rfl | rfl | rfl | rfl
      · exact (f_rate a0 a1)
      · exact (fz (z := (n : Int)) (by omega))
      · exact (f_pay a0 a1 hV hU e hn hk)
      · exact ((cents_sd hV).fits (by decide) (by decide))
      · exact (fz (z := (if e = true then (1 : Int) else 0)) (by split <;> decide)))
    (((cents_sd hU).fits (by decide) (by decide)))
    (fun W b g cap hE hP hlt hgl ha hn' hne => fy_FV (rateR a) _ (payR (rateR a) n e (cents V) (cents U)) (cents V) _ (growR (rateR a) n) (sumR (rateR a) n e) (cents U) (n : Int) (if e = true then (1 : Int) else 0) b g cap W (f_rate a0 a1) (fz (z := (n : Int)) (by omega)) (flz _) (f_pay a0 a1 hV hU e hn hk) ((cents_sd hV).fits (by decide) (by decide)) (fz (z := (if e = true then (1 : Int) else 0)) (by split <;> decide)) (flz _) (by omega) (by omega) (by split <;> decide) (by split <;> decide) (loan_any a0 a1 e hk) (future_pay a0 a1 hV hU e hn hk) ha hne (hn' 0 (show 0 < 5 by decide))
      (hn' 1 (show 1 < 5 by decide))
      (hn' 2 (show 2 < 5 by decide))
      (hn' 3 (show 3 < 5 by decide))
      (hn' 4 (show 4 < 5 by decide)) hE hP)
theorem m_PV : RowV { data := #[80, 86] } (numVals [rateR a, ((n : Int) : Rat), payR (rateR a) n e (cents V) (cents U), cents U, (((if e = true then (1 : Int) else 0) : Int) : Rat)]) (numVal (cents V)) := fun W G hv g =>
  call_nn 1 ⟨{ data := #[80, 86] }, 3, 5, { data := #[115] }, true, 89⟩ (by decide) rfl rfl (fr_of 1 (by decide) (by kernel_rfl)) rfl (enters_of Tryz.func89 (by kernel_rfl) rfl) [rateR a, ((n : Int) : Rat), payR (rateR a) n e (cents V) (cents U), cents U, (((if e = true then (1 : Int) else 0) : Int) : Rat)] G 0 5 (cents V) W (show 0 < 5 from by decide) (show 5 ≤ 300 from by decide) (show (3 : Int) ≤ 5 from by decide) (show (5 : Int) ≤ 5 from by decide) hv g
    (by
      intro x hx
      simp only [List.mem_cons, List.not_mem_nil, or_false] at hx
      rcases hx with rfl | rfl | rfl | rfl | rfl
      · exact (f_rate a0 a1)
      · exact (fz (z := (n : Int)) (by omega))
      · exact (f_pay a0 a1 hV hU e hn hk)
      · exact ((cents_sd hU).fits (by decide) (by decide))
      · exact (fz (z := (if e = true then (1 : Int) else 0)) (by split <;> decide)))
    (((cents_sd hV).fits (by decide) (by decide)))
    (fun W b g cap hE hP hlt hgl ha hn' hne => fy_PV (rateR a) _ (payR (rateR a) n e (cents V) (cents U)) (cents U) _ (growR (rateR a) n) (sumR (rateR a) n e) (cents V) ((payR (rateR a) n e (cents V) (cents U)) * sumR (rateR a) n e) (cents U + (payR (rateR a) n e (cents V) (cents U)) * sumR (rateR a) n e) ((cents U + (payR (rateR a) n e (cents V) (cents U)) * sumR (rateR a) n e) / growR (rateR a) n) (n : Int) (if e = true then (1 : Int) else 0) b g cap W (f_rate a0 a1) (fz (z := (n : Int)) (by omega)) (flz _) (f_pay a0 a1 hV hU e hn hk) ((cents_sd hU).fits (by decide) (by decide)) (fz (z := (if e = true then (1 : Int) else 0)) (by split <;> decide)) (flz _) (by omega) (by omega) (by split <;> decide) (by split <;> decide) (loan_any a0 a1 e hk) (c_mul (f_pay a0 a1 hV hU e hn hk) (f_sum a0 a1 e hk) ((paysum_sd a0 a1 hV hU hn hk).fits (by decide) (by decide)) rfl) (c_add ((cents_sd hU).fits (by decide) (by decide)) ((paysum_sd a0 a1 hV hU hn hk).fits (by decide) (by decide)) ((presum_sd a0 a1 hV hU hn hk).fits (by decide) (by decide)) rfl) (c_div ((presum_sd a0 a1 hV hU hn hk).fits (by decide) (by decide)) (f_grow a0 a1 hk) (grow_ne a0 n) ((pres_sd a0 a1 hV hU hn hk).fits (by decide) (by decide)) rfl) (c_neg ((pres_sd a0 a1 hV hU hn hk).fits (by decide) (by decide)) (present_pay a0 a1 hV hU e hn hk)) ha hne (hn' 0 (show 0 < 5 by decide))
      (hn' 1 (show 1 < 5 by decide))
      (hn' 2 (show 2 < 5 by decide))
      (hn' 3 (show 3 < 5 by decide))
      (hn' 4 (show 4 < 5 by decide)) hE hP)
theorem m_IPMT : RowV { data := #[73, 80, 77, 84] } (numVals [rateR a, ((1 : Int) : Rat), ((n : Int) : Rat), cents V, cents U, (((if e = true then (1 : Int) else 0) : Int) : Rat)]) (numVal (firstI (rateR a) (cents V) e)) := fun W G hv g =>
  call_nn 3 ⟨{ data := #[73, 80, 77, 84] }, 4, 6, { data := #[115] }, true, 96⟩ (by decide) rfl rfl (fr_of 3 (by decide) (by kernel_rfl)) rfl (enters_of Tryz.func96 (by kernel_rfl) rfl) [rateR a, ((1 : Int) : Rat), ((n : Int) : Rat), cents V, cents U, (((if e = true then (1 : Int) else 0) : Int) : Rat)] G 0 6 (firstI (rateR a) (cents V) e) W (show 0 < 6 from by decide) (show 6 ≤ 300 from by decide) (show (4 : Int) ≤ 6 from by decide) (show (6 : Int) ≤ 6 from by decide) hv g
    (by
      intro x hx
      simp only [List.mem_cons, List.not_mem_nil, or_false] at hx
      rcases hx with rfl | rfl | rfl | rfl | rfl | rfl
      · exact (f_rate a0 a1)
      · exact (fz (z := 1) (by decide))
      · exact (fz (z := (n : Int)) (by omega))
      · exact ((cents_sd hV).fits (by decide) (by decide))
      · exact ((cents_sd hU).fits (by decide) (by decide))
      · exact (fz (z := (if e = true then (1 : Int) else 0)) (by split <;> decide)))
    ((firstI_sd a0 a1 hV e).fits (by decide) (by decide))
    (fun W b g cap hE hP hlt hgl ha hn' hne => fy_IPMT (rateR a) _ _ (cents V) (cents U) _ (firstI (rateR a) (cents V) e) (payR (rateR a) n e (cents V) (cents U) - firstI (rateR a) (cents V) e) 1 (n : Int) (if e = true then (1 : Int) else 0) b g cap W (f_rate a0 a1) (fz (z := 1) (by decide)) (flz _) (fz (z := (n : Int)) (by omega)) (flz _) ((cents_sd hV).fits (by decide) (by decide)) ((cents_sd hU).fits (by decide) (by decide)) (fz (z := (if e = true then (1 : Int) else 0)) (by split <;> decide)) (flz _) (by decide) (by omega) (by omega) (by split <;> decide) (by split <;> decide) (part_first a0 a1 hV hU e hn hk) ha hne (hn' 0 (show 0 < 6 by decide))
      (hn' 1 (show 1 < 6 by decide))
      (hn' 2 (show 2 < 6 by decide))
      (hn' 3 (show 3 < 6 by decide))
      (hn' 4 (show 4 < 6 by decide))
      (hn' 5 (show 5 < 6 by decide)) hE hP)
theorem m_PPMT : RowV { data := #[80, 80, 77, 84] } (numVals [rateR a, ((1 : Int) : Rat), ((n : Int) : Rat), cents V, cents U, (((if e = true then (1 : Int) else 0) : Int) : Rat)]) (numVal (payR (rateR a) n e (cents V) (cents U) - firstI (rateR a) (cents V) e)) := fun W G hv g =>
  call_nn 4 ⟨{ data := #[80, 80, 77, 84] }, 4, 6, { data := #[115] }, true, 98⟩ (by decide) rfl rfl (fr_of 4 (by decide) (by kernel_rfl)) rfl (enters_of Tryz.func98 (by kernel_rfl) rfl) [rateR a, ((1 : Int) : Rat), ((n : Int) : Rat), cents V, cents U, (((if e = true then (1 : Int) else 0) : Int) : Rat)] G 0 6 (payR (rateR a) n e (cents V) (cents U) - firstI (rateR a) (cents V) e) W (show 0 < 6 from by decide) (show 6 ≤ 300 from by decide) (show (4 : Int) ≤ 6 from by decide) (show (6 : Int) ≤ 6 from by decide) hv g
    (by
      intro x hx
      simp only [List.mem_cons, List.not_mem_nil, or_false] at hx
      rcases hx with rfl | rfl | rfl | rfl | rfl | rfl
      · exact (f_rate a0 a1)
      · exact (fz (z := 1) (by decide))
      · exact (fz (z := (n : Int)) (by omega))
      · exact ((cents_sd hV).fits (by decide) (by decide))
      · exact ((cents_sd hU).fits (by decide) (by decide))
      · exact (fz (z := (if e = true then (1 : Int) else 0)) (by split <;> decide)))
    ((firstP_sd a0 a1 hV hU e hn hk).fits (by decide) (by decide))
    (fun W b g cap hE hP hlt hgl ha hn' hne => fy_PPMT (rateR a) _ _ (cents V) (cents U) _ (firstI (rateR a) (cents V) e) (payR (rateR a) n e (cents V) (cents U) - firstI (rateR a) (cents V) e) 1 (n : Int) (if e = true then (1 : Int) else 0) b g cap W (f_rate a0 a1) (fz (z := 1) (by decide)) (flz _) (fz (z := (n : Int)) (by omega)) (flz _) ((cents_sd hV).fits (by decide) (by decide)) ((cents_sd hU).fits (by decide) (by decide)) (fz (z := (if e = true then (1 : Int) else 0)) (by split <;> decide)) (flz _) (by decide) (by omega) (by omega) (by split <;> decide) (by split <;> decide) (part_first a0 a1 hV hU e hn hk) ha hne (hn' 0 (show 0 < 6 by decide))
      (hn' 1 (show 1 < 6 by decide))
      (hn' 2 (show 2 < 6 by decide))
      (hn' 3 (show 3 < 6 by decide))
      (hn' 4 (show 4 < 6 by decide))
      (hn' 5 (show 5 < 6 by decide)) hE hP)
omit hU
theorem m_CUMPRINC : RowV { data := #[67, 85, 77, 80, 82, 73, 78, 67] } (numVals [rateR a, ((n : Int) : Rat), cents V, ((1 : Int) : Rat), ((n : Int) : Rat), ((0 : Int) : Rat)]) (numVal (prinsR (rateR a) n (cents V) n)) := fun W G hv g =>
  call_nn 6 ⟨{ data := #[67, 85, 77, 80, 82, 73, 78, 67] }, 6, 6, { data := #[115] }, true, 101⟩ (by decide) rfl rfl (fr_of 6 (by decide) (by kernel_rfl)) rfl (enters_of Tryz.func101 (by kernel_rfl) rfl) [rateR a, ((n : Int) : Rat), cents V, ((1 : Int) : Rat), ((n : Int) : Rat), ((0 : Int) : Rat)] G 0 6 (prinsR (rateR a) n (cents V) n) W (show 0 < 6 from by decide) (show 6 ≤ 300 from by decide) (show (6 : Int) ≤ 6 from by decide) (show (6 : Int) ≤ 6 from by decide) hv g
    (by
      intro x hx
      simp only [List.mem_cons, List.not_mem_nil, or_false] at hx
      rcases hx with rfl | rfl | rfl | rfl | rfl | rfl
      · exact (f_rate a0 a1)
      · exact (fz (z := (n : Int)) (by omega))
      · exact ((cents_sd hV).fits (by decide) (by decide))
      · exact (fz (z := 1) (by decide))
      · exact (fz (z := (n : Int)) (by omega))
      · exact (fz (z := 0) (by decide)))
    ((prins_sd a0 a1 hV hn hk (k := n) (by omega)).fits (by decide) (by decide))
    (fun W b g cap hE hP hlt hgl ha hn' hne => fy_CUMPRINC (rateR a) _ (cents V) _ _ _ 0 (intsR (rateR a) n (cents V)) (prinsR (rateR a) n (cents V)) (fun k => intR (rateR a) k n false (cents V) 0) (fun k => payR (rateR a) n false (cents V) 0 - intR (rateR a) k n false (cents V) 0) n b g cap W (f_rate a0 a1) (fz (z := (n : Int)) (by omega)) (flz _) ((cents_sd hV).fits (by decide) (by decide)) (fz (z := 1) (by decide)) (flz _) (fz (z := (n : Int)) (by omega)) (flz _) (fz (z := 0) (by decide)) (flz _) hn (by omega) (c_of (n := 0) (by decide)) rfl rfl (fun k hkn => part_k a0 a1 hV hn hk (by omega)) (fun k hkn => c_add ((ints_sd a0 a1 hV hn hk (k := k) (by omega)).fits (by decide) (by decide)) ((inte_sd a0 a1 hV hn hk (k := k) (by omega)).fits (by decide) (by decide)) ((ints_sd a0 a1 hV hn hk (k := k + 1) (by omega)).fits (by decide) (by decide)) rfl) (fun k hkn => c_add ((prins_sd a0 a1 hV hn hk (k := k) (by omega)).fits (by decide) (by decide)) ((prin_sd a0 a1 hV hn hk (k := k) (by omega)).fits (by decide) (by decide)) ((prins_sd a0 a1 hV hn hk (k := k + 1) (by omega)).fits (by decide) (by decide)) rfl) ha hne (hn' 0 (show 0 < 6 by decide))
      (hn' 1 (show 1 < 6 by decide))
      (hn' 2 (show 2 < 6 by decide))
      (hn' 3 (show 3 < 6 by decide))
      (hn' 4 (show 4 < 6 by decide))
      (hn' 5 (show 5 < 6 by decide)) hE hP)
end
end Go.Proofs.YtphfefmlappidaaGreatDoor.Num.Fy
