/- Numbers as texts of digits, fractions, values and the functions of fmath: contracts of the program's functions, joined from smaller texts. Conditions stand at each theorem. -/
import Derived.Test.YtkghpiaoggljjaaGreatDoorSodB
import Derived.Deep.RegionWith
import Derived.Deep.DeepCutAuto
import Derived.Test.YtkghpiaoggljjaaGreatDoorNumG
import Derived.Test.YtkghpiaoggljjaaGreatDoorSohA
import Derived.Test.YtkghpiaoggljjaaGreatDoorSoiA
import Derived.Test.YtkghpiaoggljjaaGreatDoorSojA
set_option linter.unusedVariables false
set_option linter.unusedSimpArgs false

/- package fmath: SUMPRODUCT at numbers and arrays of one shape. Conditions: all numbers fit; the tables lie as they are laid. -/
namespace Go.Proofs.YtkghpiaoggljjaaGreatDoor.Num
open Go.RowKit Go.Lib

structure PrI (w : World) (b g C R : Nat) (vs : List Val) (qss : List (List Rat)) (r s : Int) (W : World) : Prop where
 args : ArgsAt W b (some ⟨g, 0, none⟩) vs.length C 0
 vals : ValsAt W g 0 vs
 parts : ∀ j (h : j < vs.length) (h' : j < qss.length), PArg W vs[j] r s qss[j]
 tiny : ∀ j (h : j < vs.length) gi, vs[j].A = some ⟨gi, 0, none⟩ → gi < w.heap.size
 res : W.heap[R]? = some (.cells #[.string { data := #[] }, .string { data := #[] }] 24 (0, 0))
 env : Env W
 low : Below w.heap.size w W
structure SumI (w : World) (b g C R : Nat) (vs : List Val) (qss : List (List Rat)) (r s : Int) (P : Nat) (sv : Rat) (W : World) : Prop where
 base : PrI w b g C R vs qss r s W
 sum : W.heap[P]? = some (.cells #[.string (numS sv), .string (denS sv)] 24 (0, 0))
structure ProdI (w : World) (b g C R : Nat) (vs : List Val) (qss : List (List Rat)) (r s : Int) (P : Nat) (sv : Rat) (Q : Nat) (pv : Rat) (W : World) : Prop where
 base : SumI w b g C R vs qss r s P sv W
 prod : W.heap[Q]? = some (.cells #[.string (numS pv), .string (denS pv)] 24 (0, 0))
end Go.Proofs.YtkghpiaoggljjaaGreatDoor.Num

/- package fmath: SUMXMY2 at two arguments of as many numbers. Conditions: all numbers fit; the tables lie as they are laid. -/
namespace Go.Proofs.YtkghpiaoggljjaaGreatDoor.Num
open Go.RowKit Go.Lib

/-- what stays while the pairs are summed: two rows of numbers, the sum (block P), the result's block R, all behind the base -/
structure PaI (wb : World) (ga gb P R : Nat) (qa qb : List Rat) (sv : Rat) (W : World) : Prop where
 rowa : ValsAt W ga 0 (numVals qa)
 rowb : ValsAt W gb 0 (numVals qb)
 sum : W.heap[P]? = some (.cells #[.string (numS sv), .string (denS sv)] 24 (0, 0))
 res : W.heap[R]? = some (.cells #[.string { data := #[] }, .string { data := #[] }] 24 (0, 0))
 env : Env W
 low : Below wb.heap.size wb W
end Go.Proofs.YtkghpiaoggljjaaGreatDoor.Num

/- the law's math at SUM, SUMSQ, SUMPRODUCT, SUMXMY2 of numbers and arrays. Conditions: all numbers fit; the tables lie as they are laid. -/
namespace Go.Proofs.YtkghpiaoggljjaaGreatDoor.Num
open Go.RowKit Go.Lib

/-- what else is known of the arguments is carried as Cc -/
theorem math_c_val (i : Nat) (r : Row) (hi : i < allRows.length) (hr : allRows[i] = r) (hkd : r.kinds = { data := #[97] }) (hfr : ∀ j (hj : j < i), (allRows[i].name == (allRows[j]'(by omega)).name) = false) (hnum : r.num = true) (eF : ∀ args w, (callFunc r.fn args).run Tryz.prog w = .ok (.enter r.fn args) w) (vs : List Val) (qss : List (List Rat)) (ab ao C : Nat) (q : Rat) (w : World) (h0 : 0 < vs.length) (h9 : vs.length ≤ 300) (hc1 : r.least ≤ vs.length) (hc2 : (vs.length : Int) ≤ r.most) (hv : ValsAt w ab ao vs) (hA : Args2 w vs qss) (hE : Env w) (hqs : ∀ qs ∈ qss, ∀ q ∈ qs, fits q = true) (hq : fits q = true)
  (Cc : World → Prop) (hC : Cc w) (hCb : ∀ W W', Cc W → Below W.heap.size W W' → Cc W')
  (hF : ∀ W b g cap, Env W → Past b → b < W.heap.size → g < W.heap.size → ArgsAt W b (some ⟨g, 0, none⟩) vs.length cap 0 → ValsAt W g 0 vs → Cc W → g ≠ b → Calls Tryz.prog r.fn #[.pointer (some ⟨b, 0, none⟩)] W fun e w' => e = .returned (fracV q) ∧ W.grownBy w' (some b)) :
  Calls Tryz.prog 10 #[.string r.name, .slice (some ⟨ab, ao, none⟩) vs.length C] w fun e w' => e = .returned (numVal q) ∧ Below w.heap.size w w' :=
 math_of r.name (.slice (some ⟨ab, ao, none⟩) vs.length C) (numVal' q) w ⟨_, _, _, rfl⟩ (fun W b hb hT =>
  run_a_val i r hi hr hkd hfr vs b ab ao C (numVal' q) W h0 h9 hc1 hc2 (hv.below hb) (hE.below hb) hT ⟨rfl, rfl, rfl, rfl, rfl⟩ (fun W g => check_num q W hq g)
   (fun v hv' W' h => by
    obtain ⟨j, hj, rfl⟩ := List.mem_iff_getElem.1 hv'
    have hj' : j < qss.length := by rw [hA.1]; exact hj
    exact ((hA.below (hb.trans (h.mono hb.size))).2 j hj hj').check (hqs _ (List.getElem_mem hj')) ((hE.below hb).below h))
   (fun W' e g cap hb' hE' hfn hva => entry1_val r g cap e vs q W' hnum hfn eF hE' hva hq (fun W'' b' hb'' hE'' hP hlt ha hva' hne => hF W'' b' g cap hE'' hP hlt (cell_lt (hva'.at 0 h0).1) ha hva' (hCb _ _ (hCb _ _ (hCb _ _ hC hb) hb') hb'') hne) h0))

theorem take_all {xs : List Rat} {f : List Rat → Rat} (h : ∀ k, k ≤ xs.length → fits (f (xs.take k)) = true) : fits (f xs) = true := by
 have := h xs.length (Nat.le_refl _)
 rwa [List.take_length] at this

theorem m_SUM2 (vs : List Val) (qss : List (List Rat)) (ab ao C : Nat) (w : World) (h0 : 0 < vs.length) (h9 : vs.length ≤ 255) (hA : Args2 w vs qss) (hq : ∀ qs ∈ qss, ∀ q ∈ qs, fits q = true) (h00 : 0 < qss.flatten.length) (h99 : qss.flatten.length ≤ 300000) (hf : ∀ k, k ≤ qss.flatten.length → fits (sumL (qss.flatten.take k)) = true) (hv : ValsAt w ab ao vs) (hE : Env w) :
  Calls Tryz.prog 10 #[.string { data := #[83, 85, 77] }, .slice (some ⟨ab, ao, none⟩) vs.length C] w fun e w' => e = .returned (numVal (sumL qss.flatten)) ∧ Below w.heap.size w w' :=
 math_c_val 17 ⟨{ data := #[83, 85, 77] }, 1, 255, { data := #[97] }, true, 174⟩ (by decide) rfl rfl (fr_of 17 (by decide) (by kernel_rfl)) rfl (enters_of Tryz.func174 (by kernel_rfl) rfl) vs qss ab ao C (sumL qss.flatten) w h0 (by omega) (by show (1 : Int) ≤ _; omega) (by show _ ≤ (255 : Int); omega) hv hA hE hq (take_all (f := sumL) hf)
  (fun W => Args2 W vs qss) (hA) (fun W W' h hb => h.below hb)
  (fun W b g cap hE' hP hlt hgl ha hn hcc hne => fn_sum_mix vs qss b g cap W (by omega) hcc hq h00 h99 hf ha hn hne hgl hE' hP)

end Go.Proofs.YtkghpiaoggljjaaGreatDoor.Num

/- The law FlookSortsAll is true at every input. Conditions: the ints lie in memory; the tables lie as they are laid. -/
namespace Go.Proofs.YtkghpiaoggljjaaGreatDoor.Num.Fl
open Go.RowKit Go.Lib Num

/-- whole numbers from 0 to 6 -/
def SmallL (l : List Rat) : Prop := ∀ q ∈ l, ∃ n : Int, q = (n : Rat) ∧ 0 ≤ n ∧ n ≤ 6
theorem SmallL.sum : ∀ {l : List Rat}, SmallL l → ∃ m : Int, sumL l = (m : Rat) ∧ 0 ≤ m ∧ m ≤ 6 * l.length
 | [], _ => ⟨0, by simp [sumL], by omega, by simp⟩
 | q :: l, h => by
  obtain ⟨m, e, h1, h2⟩ := SmallL.sum (l := l) (fun x hx => h x (by simp [hx]))
  obtain ⟨n, e2, h3, h4⟩ := h q (by simp)
  refine ⟨n + m, ?_, by omega, by simp only [List.length_cons]; omega⟩
  rw [sumL_cons, e, e2, Rat.intCast_add]
theorem SmallL.fit {l : List Rat} (h : SmallL l) : ∀ q ∈ l, fits q = true := fun q hq => by
 obtain ⟨n, rfl, h1, h2⟩ := h q hq
 exact fits_int n (by omega)
theorem SmallL.fits_take {l : List Rat} (h : SmallL l) (h9 : l.length ≤ 1000) (k : Nat) : fits (sumL (l.take k)) = true := by
 obtain ⟨m, e, h1, h2⟩ := SmallL.sum (l := l.take k) (fun q hq => h q (List.mem_of_mem_take hq))
 rw [e]
 have : (l.take k).length ≤ l.length := by rw [List.length_take]; omega
 exact fits_int m (by omega)
theorem sumL_perm {a b : List Rat} (h : a.Perm b) : sumL a = sumL b := by
 induction h with
 | nil => rfl
 | cons x _ ih => rw [sumL_cons, sumL_cons, ih]
 | swap x y l => rw [sumL_cons, sumL_cons, sumL_cons, sumL_cons]; grind
 | trans _ _ h1 h2 => exact h1.trans h2
theorem sm_of {r s L : Nat} {qs : List Rat} (h1 : 1 ≤ r) (hr9 : r ≤ 1000) (h2 : 1 ≤ s) (hs9 : s ≤ 1000) (hL : r * s = L) (hq : qs.length = L) (h9 : L ≤ 1000) (hs : SmallL qs) : SmC r s L qs (sumL qs) := by
 intro W G lg cap hg hv hE
 have h0 : 0 < qs.length := by rw [hq, ← hL]; exact Nat.mul_pos h1 h2
 have hA : AArg W (arrVal' (r : Int) (s : Int) lg L cap) qs := by
  subst hq
  exact .inr ⟨(r : Int), (s : Int), lg, cap, rfl, by omega, by omega, by omega, by omega, by rw [← hL, Int.natCast_mul], h0, h9, hv⟩
 have h := m_SUM2 [arrVal' (r : Int) (s : Int) lg L cap] [qs] G 0 1 W (by simp) (by simp) ⟨rfl, fun j h h' => by
   have : j = 0 := by simpa using h
   subst this
   exact hA⟩ (fun l hl q hqq => by
   have : l = qs := by simpa using hl
   subst this
   exact hs.fit q hqq) (by simpa using h0) (by simp; omega) (fun k _ => by
   have : [qs].flatten = qs := by simp
   rw [this]
   exact hs.fits_take (by omega) k) (fun j u hj => World.news_of_block hg j u hj) hE
 have e : [qs].flatten = qs := by simp
 rw [e, numVal_is] at h
 exact h
theorem funE_whole (n : Int) (h : n.natAbs ≤ 1000) : FunE 7 (.int .i64 n) (.agg #[.int .i64 1, .string (numS (n : Rat)), .string (denS (n : Rat)), .string { data := #[] }, .bool false, .int .i64 0, .int .i64 0, .int .i64 0, .slice none 0 0]) := by
 intro W g
 have h := kwhole_any n W (by omega) (by omega) g
 rw [numVal_is] at h
 exact h
theorem so_of {r s c L : Nat} {k : Int} {qs : List Rat} (hk : k = 1 ∨ k = -1) (h1 : 1 ≤ r) (h30 : r ≤ 30) (h2 : 1 ≤ s) (hs9 : s ≤ 100) (hc : c < s) (hL : r * s = L) (hq : qs.length = L) (h9 : L ≤ 1000) (hs : SmallL qs) : SoC r s L (((c + 1 : Nat) : Int) : Rat) ((k : Int) : Rat) qs (rowsL qs s (sortL (Mt.cfS qs s c k) r)) := by
 intro W G lg cap hg hv hcap hE
 refine (look_SORT r s c lg cap G 0 3 L k qs W hk h1 h30 h2 hs9 hc hL hq h9 hcap hs.fit (fun j u hj => World.news_of_block hg j u hj) hv hE).mono ?_
 rintro e w' ⟨lg, cap, rfl, a, b, c, d⟩
 exact ⟨lg, cap, rfl, ⟨a, b, c⟩, trivial, d⟩
theorem sb_of {r s c L : Nat} {k : Int} {qs : List Rat} (hk : k = 1 ∨ k = -1) (h1 : 1 ≤ r) (h30 : r ≤ 30) (h2 : 1 ≤ s) (hs9 : s ≤ 100) (hc : c < s) (hL : r * s = L) (hq : qs.length = L) (h9 : L ≤ 1000) (hs : SmallL qs) : SbC r s L ((k : Int) : Rat) qs (colL qs r s c) (rowsL qs s (sortL (Mt.cfS qs s c k) r)) := by
 intro W G lg cap gk ck hg hv hkv hcap hE
 refine (look_SORTBY r s c lg cap gk ck G 0 3 L k qs (colL qs r s c) W hk h1 h30 h2 hs9 hL hq (colL_len qs r s c) h9 hcap hs.fit (colL_fits hc (by rw [hq, hL]) hs.fit) (fun x y => by rw [colL_getD hL hq, colL_getD hL hq]; rfl) (fun j u hj => World.news_of_block hg j u hj) hv hkv hE).mono ?_
 rintro e w' ⟨lg, cap, rfl, a, b, d⟩
 exact ⟨lg, cap, rfl, a, trivial, d⟩
theorem ix_of {r s c : Nat} {qs : List Rat} (h1 : 2 ≤ r) (h2 : 1 ≤ s) (hs9 : s ≤ 100) (hc : c < s) (hq : qs.length = r * s) (h9 : r * s ≤ 1000) (hs : SmallL qs) : IxC r s (r * s) ((0 : Int) : Rat) (((c + 1 : Nat) : Int) : Rat) qs (colL qs r s c) := by
 intro W G lg cap hg hv hE
 refine (look_INDEX r s c lg cap G 0 3 qs W h1 h2 hs9 hc hq h9 hs.fit (fun j u hj => World.news_of_block hg j u hj) hv hE).mono ?_
 rintro e w' ⟨lg, cap, rfl, a, b, d⟩
 exact ⟨lg, cap, rfl, ⟨a, b⟩, trivial, d⟩
theorem ix1_of {r s c : Nat} {qs : List Rat} {x : Rat} (h1 : r = 1) (hx : colL qs r s c = [x]) (h2 : 1 ≤ s) (hs9 : s ≤ 100) (hc : c < s) (hq : qs.length = r * s) (h9 : r * s ≤ 1000) (hs : SmallL qs) : IxC1 r s (r * s) ((0 : Int) : Rat) (((c + 1 : Nat) : Int) : Rat) qs x := by
 intro W G lg cap hg hv hE
 exact look_INDEX1 r s c lg cap G 0 3 qs W h1 x hx h2 hs9 hc hq h9 hs.fit (fun j u hj => World.news_of_block hg j u hj) hv hE
theorem sorts_any (A : Option Addr) (ns : List Int) (M C : Nat) (c0 n0 k0 : Int) (w : World) (hi : IntsIn w A M C ns) (hc0 : -9223372036854775808 ≤ c0 ∧ c0 ≤ 9223372036854775807) (hn0 : -9223372036854775808 ≤ n0 ∧ n0 ≤ 9223372036854775807) (hk0 : -9223372036854775808 ≤ k0 ∧ k0 ≤ 9223372036854775807) (hE : Env w) :
  Calls Tryz.prog 3 #[.slice A M C, .int .i64 c0, .int .i64 n0, .int .i64 k0] w fun e w' => e = .returned (.bool true) ∧ Below w.heap.size w w' := by
 obtain ⟨s, hs⟩ : ∃ s : Nat, (s : Int) = c0 % 4 + 1 := ⟨(c0 % 4 + 1).toNat, by omega⟩
 have hs1 : 1 ≤ s := by omega
 have hs4 : s ≤ 4 := by omega
 obtain ⟨c, hc⟩ : ∃ c : Nat, (c : Int) = n0 % (s : Int) := ⟨(n0 % (s : Int)).toNat, by have := Int.emod_nonneg n0 (show (s : Int) ≠ 0 by omega); omega⟩
 have hcs : c < s := by have := Int.emod_lt_of_pos n0 (show (0 : Int) < (s : Int) by omega); omega
 obtain ⟨k, hk⟩ : ∃ k : Int, k = 1 - 2 * (k0 % 2) := ⟨_, rfl⟩
 have hk1 : k = 1 ∨ k = -1 := by omega
 have hb2 : k0 % 2 = 0 ∧ k = 1 ∨ k0 % 2 = 1 ∧ k = -1 := by omega
 obtain ⟨r1, r30, rL, _⟩ := rows_bounds M s hs1 (by omega)
 have hlen := hi.len
 have htab := ktable_cap A ns M C s w hs1 (by omega) hi hE
 have hql : (over 1 (tabN ns s)).length = rowsN M s * s := by rw [← hlen]; simp [over, tabN_len]
 have hsm : SmallL (over 1 (tabN ns s)) := by
  intro q hq
  obtain ⟨x, hx, rfl⟩ := List.mem_map.1 hq
  have := tabN_range ns s hs1 (by omega) x hx
  exact ⟨x, by simp [Rat.div_def]; grind, this.1, this.2⟩
 generalize over 1 (tabN ns s) = qs at htab hql hsm
 generalize rowsN M s = r at htab hql r1 r30 rL
 have hp := sorted_perm (cf := Mt.cfS qs s c k) (r := r) rfl hql
 have hil := sorted_len (cf := Mt.cfS qs s c k) (r := r) rfl hql
 have hsi : SmallL (rowsL qs s (sortL (Mt.cfS qs s c k) r)) := fun q hq => hsm q (rowsL_mem hq)
 have hag := so_of (c := c) hk1 r1 r30 hs1 (by omega) hcs rfl hil (by omega) hsi
 rw [sorted_again hk1 rfl hql hcs] at hag
 have hsum := sm_of r1 (by omega) hs1 (by omega) rfl hil (by omega) hsi
 rw [sumL_perm hp] at hsum
 have hmc : ∀ W, Calls Tryz.prog 5 #[.int .i64 c0, .int .i64 4] W fun e w' => e = .returned (.int .i64 ((s : Int) - 1)) ∧ w' = W := fun W => by
  have := kmod_any c0 4 hc0.1 hc0.2 (by decide) (by decide) W
  rw [show (s : Int) - 1 = c0 % 4 by omega]
  exact this
 have hmn : ∀ W, Calls Tryz.prog 5 #[.int .i64 n0, .int .i64 (s : Int)] W fun e w' => e = .returned (.int .i64 (c : Int)) ∧ w' = W := fun W => by
  rw [hc]
  exact kmod_any n0 (s : Int) hn0.1 hn0.2 (by omega) (by omega) W
 have hmk : ∀ W, Calls Tryz.prog 5 #[.int .i64 k0, .int .i64 2] W fun e w' => e = .returned (.int .i64 (k0 % 2)) ∧ w' = W := fun W => kmod_any k0 2 hk0.1 hk0.2 (by decide) (by decide) W
 have hord : ∀ i, i + 1 < r → cmpR ((rowsL qs s (sortL (Mt.cfS qs s c k) r)).getD (i * s + c) 0) ((rowsL qs s (sortL (Mt.cfS qs s c k) r)).getD ((i + 1) * s + c) 0) * k ≤ 0 := fun i h => sorted_lt hk1 rfl hql hcs (Nat.lt_succ_self i) h
 have hka : k.natAbs ≤ 1 := by omega
 by_cases h2 : 2 ≤ r
 ·exact sorts_law (.slice A M C) c0 n0 k0 (k0 % 2) k r s c (c + 1) (r * s) qs _ (colL qs r s c) _ _ _ _ w hE r1 hs1 hs4 r30 hcs rfl rfl (by omega) hql hil hsi.fit hmc htab hmn hmk hb2 (funE_whole _ (by omega)) (funE_whole _ (by omega)) (funE_whole _ (by decide)) (so_of hk1 r1 r30 hs1 (by omega) hcs rfl hql (by omega) hsm) hag (sb_of hk1 r1 r30 hs1 (by omega) hcs rfl hql (by omega) hsm) (ix_of h2 hs1 (by omega) hcs hql (by omega) hsm) (sm_of r1 (by omega) hs1 (by omega) rfl hql (by omega) hsm) hsum hord (colL_len qs r s c)
 ·have hr1 : r = 1 := by omega
  have hx : colL qs r s c = [qs.getD (0 * s + c) 0] := by rw [hr1]; simp [colL]
  exact sorts_law1 (.slice A M C) c0 n0 k0 (k0 % 2) k r s c (c + 1) (r * s) qs _ (colL qs r s c) _ _ _ _ (qs.getD (0 * s + c) 0) w hE hr1 hs1 hs4 r30 hcs rfl rfl (by omega) hql hil hsi.fit hmc htab hmn hmk hb2 (funE_whole _ (by omega)) (funE_whole _ (by omega)) (funE_whole _ (by decide)) (so_of hk1 r1 r30 hs1 (by omega) hcs rfl hql (by omega) hsm) hag (sb_of hk1 r1 r30 hs1 (by omega) hcs rfl hql (by omega) hsm) (ix1_of hr1 hx hs1 (by omega) hcs hql (by omega) hsm) (sm_of r1 (by omega) hs1 (by omega) rfl hql (by omega) hsm) hsum hord hx
theorem sorts_any2 (A : Option Addr) (M C : Nat) (ns : List Int) (c0 n0 k0 : Int) (w : World) (hi : IntsIn w A M C ns) (h1 : -9223372036854775808 ≤ c0) (h2 : c0 ≤ 9223372036854775807) (h3 : -9223372036854775808 ≤ n0) (h4 : n0 ≤ 9223372036854775807) (h5 : -9223372036854775808 ≤ k0) (h6 : k0 ≤ 9223372036854775807) (hE : Env w) :
  Calls Tryz.prog 3 #[.slice A M C, .int .i64 c0, .int .i64 n0, .int .i64 k0] w fun e w' => e = .returned (.bool true) ∧ Below w.heap.size w w' := sorts_any A ns M C c0 n0 k0 w hi ⟨h1, h2⟩ ⟨h3, h4⟩ ⟨h5, h6⟩ hE
end Go.Proofs.YtkghpiaoggljjaaGreatDoor.Num.Fl
