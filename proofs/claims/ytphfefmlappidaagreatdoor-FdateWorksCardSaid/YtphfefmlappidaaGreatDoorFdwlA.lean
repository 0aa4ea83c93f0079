/- Numbers as texts of digits, fractions, values and the functions of fmath: contracts of the program's functions, joined from smaller texts. Conditions stand at each theorem. -/
import Derived.Test.YtphfefmlappidaaGreatDoorFdwwA
import Derived.ProofKit
import Derived.OpenShut
import Derived.Test.YtphfefmlappidaaGreatDoorLayA

/- The law FdateWorks at any two ints and any ints. Conditions: the tables lie as they are laid. -/
namespace Go.Proofs.YtphfefmlappidaaGreatDoor.Num.Fd
open Go.RowKit Go.Lib Num

theorem cmp_lt {p q : Int} (h : p < q) : cmpR ((p : Int) : Rat) ((q : Int) : Rat) < 0 := by
  unfold cmpR
  rw [if_neg (fun e => by rw [Rat.intCast_inj] at e; omega), if_pos (Rat.intCast_lt_intCast.2 h)]
  decide

theorem works_any (n j : Int) (A : Option Addr) (L C : Nat) (zs : List Int) (w : World) (hn0 : -9223372036854775808 ≤ n) (hn1 : n ≤ 9223372036854775807) (hs0 : -9223372036854775808 ≤ j) (hs1 : j ≤ 9223372036854775807) (hL : zs.length = L) (hLm : L ≤ 9223372036854775807) (hLC : L ≤ C) (hA : 0 < L → ∃ A', A = some A' ∧ CameI w A' zs) (hzs : ∀ z ∈ zs, -9223372036854775808 ≤ z ∧ z ≤ 9223372036854775807) (hE : Env w) :
    Calls Tryz.prog 7 #[.int .i64 n, .int .i64 j, .slice A L C] w fun e w' => e = .returned (.bool true) ∧ Below w.heap.size w w' := by
  obtain ⟨m, hm⟩ : ∃ m, n % 100000 = m := ⟨_, rfl⟩
  obtain ⟨t, ht⟩ : ∃ t, j % 60 = t := ⟨_, rfl⟩
  have hm0 : 0 ≤ m ∧ m ≤ 99999 := by omega
  have ht0 : 0 ≤ t ∧ t ≤ 59 := by omega
  have hl : (freeDays (10000 + m) zs).length ≤ 21 := by
    rw [freeDays_len, List.length_take]; omega
  have hl0 : 0 < (freeDays (10000 + m) zs).length := by rw [freeDays_len]; omega
  have hms : ∀ x ∈ freeDays (10000 + m) zs, 1 ≤ x ∧ x ≤ 2958464 := fun x hx => by have := freeDays_in hx; omega
  have hF := hols_free (freeDays (10000 + m) zs)
  obtain ⟨d, hd1, hd2, hw1, hw2⟩ := work_exists (l := holsR (freeDays (10000 + m) zs)) (Nat.le_trans (hols_len _) (by omega)) (n := 10000 + m) (k := 1 + t) (by omega) (by omega) (by omega) (by omega)
  obtain ⟨e1, e2, -, w0, w6⟩ := work_day hF (by omega) hw1 hw2
  have fi : ∀ z : Int, z.natAbs ≤ 1000000000000000000 → fits ((z : Int) : Rat) = true := fun z h => fits_int z h
  have fl : ∀ z : Int, ((z : Int) : Rat).floor = z := fun z => Rat.floor_intCast z
  have fN : fits ((10000 + m : Int) : Rat) = true := fi _ (by omega)
  have fP : fits ((10000 + m + 1 : Int) : Rat) = true := fi _ (by omega)
  have fK : fits ((1 + t : Int) : Rat) = true := fi _ (by omega)
  have fD : fits ((d : Int) : Rat) = true := fi _ (by omega)
  obtain ⟨ms, hmse⟩ : ∃ ms, freeDays (10000 + m) zs = ms := ⟨_, rfl⟩
  rw [hmse] at hl hl0 hms hF hw1 hw2 e1 e2
  have r0 : Date3 _ ((10000 + m : Int) : Rat) ((1 + t : Int) : Rat) ms _ := fun W G g cap h hv e =>
    d_WORKDAY G 0 3 W ((10000 + m : Int) : Rat) ((1 + t : Int) : Rat) (10000 + m) (1 + t) g cap ms d (by omega) (by omega) (by omega) (by omega) (by omega) (by omega) hw1 hw2 fN (fl _) fK (fl _) hl0 (by omega) hms hv (vals_of_block h rfl) e
  have rUp : ∀ (p q : Int), p ≤ q → 1 ≤ p → q ≤ 2958464 → Date3 _ ((p : Int) : Rat) ((q : Int) : Rat) ms _ := fun p q hpq h1 h2 W G g cap h hv e =>
    d_NETUP G 0 3 W ((p : Int) : Rat) ((q : Int) : Rat) p q g cap ms hpq h1 h2 (fi _ (by omega)) (fl _) (fi _ (by omega)) (fl _) hl0 (by omega) hms hv (vals_of_block h rfl) e
  have rDown : ∀ (p q : Int), q < p → 1 ≤ q → p ≤ 2958464 → Date3 _ ((p : Int) : Rat) ((q : Int) : Rat) ms _ := fun p q hpq h1 h2 W G g cap h hv e =>
    d_NETDOWN G 0 3 W ((p : Int) : Rat) ((q : Int) : Rat) p q g cap ms hpq h1 h2 (fi _ (by omega)) (fl _) (fi _ (by omega)) (fl _) hl0 (by omega) hms hv (vals_of_block h rfl) e
  have rW : RowV _ (numVals [((d : Int) : Rat), ((3 : Int) : Rat)]) _ := fun W G h g => d_WEEKDAY3 G 0 2 W ((d : Int) : Rat) ((3 : Int) : Rat) d (by omega) (by omega) fD (fl _) (fi 3 (by decide)) (fl _) h g
  have hWh : ∀ z : Int, z.natAbs ≤ 1000000000 → Fun1 11 (.int .i64 z) (numVal ((z : Int) : Rat)) := fun z hz W g => kwhole_any z W (by omega) (by omega) g
  have ep : ((d : Int) : Rat) + ((-1 : Int) : Rat) = ((d - 1 : Int) : Rat) := by rw [← Rat.intCast_add, Int.sub_eq_add_neg]
  have rP : Fun2 15 (numVal ((d : Int) : Rat)) (numVal ((-1 : Int) : Rat)) (numVal ((d - 1 : Int) : Rat)) := fun W g => by
    have T := kplus_any ((d : Int) : Rat) ((-1 : Int) : Rat) W fD (fi (-1) (by decide)) (by rw [ep]; exact fi _ (by omega)) g
    rw [ep] at T
    exact T
  have fWk : fits (((d + 6) % 7 : Int) : Rat) = true := fi _ (by omega)
  have rC : Fun2 17 (numVal (((d + 6) % 7 : Int) : Rat)) (numVal ((5 : Int) : Rat)) (.tuple #[.int .i64 (cmpR (((d + 6) % 7 : Int) : Rat) ((5 : Int) : Rat)), .int .i64 0]) := fun W g => compare_num (((d + 6) % 7 : Int) : Rat) ((5 : Int) : Rat) W fWk (fi 5 (by decide)) g
  have hc := cmp_lt (show (d + 6) % 7 < 5 by omega)
  subst hmse
  by_cases hdn : d = 10000 + m + 1
  · have htz : t = 0 := by
      have e3 : d - 1 = 10000 + m := by omega
      rw [e3] at e2
      omega
    have eK : ((1 : Int) : Rat) = ((1 + t : Int) : Rat) := congrArg _ (by omega)
    have hr : countR (holsR (freeDays (10000 + m) zs)) d - countR (holsR (freeDays (10000 + m) zs)) (d - 1) = 1 + t := by omega
    have r1 := rUp d d (Int.le_refl _) (by omega) (by omega)
    rw [hr] at r1
    have h1 := hWh 1 (by decide)
    rw [eK] at h1
    have h5 := hWh (10000 + m + 1) (by omega)
    rw [← hdn] at h5
    exact works_next n j m t _ A L C zs _ _ _ _ _ _ _ _ w hE hn0 hn1 hs0 hs1 hm ht hc rfl hL hLm hLC hA hzs
      r0 r1 rW.row (hWh (10000 + m) (by omega)) (hWh (1 + t) (by omega)) (hWh (-1) (by decide)) (hWh 3 (by decide)) (hWh 5 (by decide)) (by rw [hdn] at h5 ⊢; exact h5) h1 rP rC
  · have hr1 : countR (holsR (freeDays (10000 + m) zs)) d - countR (holsR (freeDays (10000 + m) zs)) (10000 + m + 1 - 1) = 1 + t := by
      rw [show (10000 + m + 1 - 1 : Int) = 10000 + m by omega]; omega
    have hr2 : countR (holsR (freeDays (10000 + m) zs)) d - countR (holsR (freeDays (10000 + m) zs)) (d - 1) = 1 := by omega
    have r1 := rUp (10000 + m + 1) d (by omega) (by omega) (by omega)
    rw [hr1] at r1
    have r2 := rUp d d (Int.le_refl _) (by omega) (by omega)
    rw [hr2] at r2
    have r3 := rDown d (10000 + m + 1) (by omega) (by omega) (by omega)
    rw [hr1] at r3
    have hS : Fun2 14 (numVal ((d : Int) : Rat)) (numVal ((10000 + m + 1 : Int) : Rat)) (.bool false) := fun W g => by
      have T := same_num ((d : Int) : Rat) ((10000 + m + 1 : Int) : Rat) W
      rw [decide_eq_false (fun e => by rw [Rat.intCast_inj] at e; omega)] at T
      exact T
    exact works_far n j m t _ A L C zs _ _ _ _ _ _ _ _ _ _ _ w hE hn0 hn1 hs0 hs1 hm ht hc rfl hL hLm hLC hA hzs
      r0 r1 r2 r3 rW.row (hWh (10000 + m) (by omega)) (hWh (1 + t) (by omega)) (hWh (-1) (by decide)) (hWh 3 (by decide)) (hWh 5 (by decide)) (hWh (10000 + m + 1) (by omega)) (hWh 1 (by decide)) (hWh (-(1 + t)) (by omega)) rP rC hS
end Go.Proofs.YtphfefmlappidaaGreatDoor.Num.Fd

/- FdateWorks: a slice of whole numbers that came in. No conditions. -/
namespace Go.Proofs.YtphfefmlappidaaGreatDoor.Num.Fd
open Go.ChangeShapes Go.WideShapes Go.ChangeAt Go.RowKit Go.Lib Num

set_option maxRecDepth 100000 in
theorem days_arg {H : Type} {enc : TypeId × Value → H} {W : World} {base base2 : Nat} {held : Bool} {v : Value} {d : DataW H} {p : List MemPlace} (hok : Value.okWide Tryz.prog W .any base2 37 v) (h : DataW.Trod enc Tryz.prog W base (fun _ => true) held 37 v d p) :
    ∃ A L C zs, v = .slice A L C ∧ zs.length = L ∧ L ≤ 9223372036854775807 ∧ L ≤ C ∧ (0 < L → ∃ A', A = some A' ∧ CameI W A' zs) ∧ (∀ z ∈ zs, -9223372036854775808 ≤ z ∧ z ≤ 9223372036854775807) ∧ ∀ W', Below W.heap.size W W' → DataW.Trod enc Tryz.prog W' base (fun b => decide (b < W.heap.size)) held 37 v d p := by
  obtain ⟨a, len, cap, rfl⟩ := okWide_slice Tryz.underlying37 hok
  obtain ⟨fuel, hf⟩ := h
  rcases open_ints Tryz.underlying37 Tryz.underlying3 (by kernel_rfl) hf with ⟨hcs, hx⟩ | ⟨a', len', cap', zs, hcs, hb, hl, hm, hz, hx, hcell, hwz⟩
  · have hcs' : (Value.slice a len cap) = .slice none 0 0 := by simpa [Value.cells] using hcs
    injection hcs' with h1 h2 h3
    subst h1; subst h2; subst h3
    injection hx with h1 h2
    subst h1; subst h2
    exact ⟨none, 0, 0, [], rfl, rfl, by decide, Nat.le_refl _, fun h => absurd h (by decide), fun z h => (by cases h), fun W' _ => shut_slice_nil Tryz.underlying37⟩
  · have hcs' : (Value.slice a len cap) = .slice (some a') len' cap' := by simpa [Value.cells] using hcs
    injection hcs' with h1 h2 h3
    subst h1; subst h2; subst h3
    injection hx with h1 h2
    subst h1; subst h2
    have hz0 : zs.length = cap := by simpa using hz
    have hzl : len ≤ zs.length := by omega
    have hz2 : zs.length = (if decide (a'.block < W.heap.size) then cap else len) := by
      by_cases hc : 0 < cap
      · have h1 : (a'.add 0).block < W.heap.size := cell_lt (hcell 0 (by omega))
        rw [block_add] at h1
        rw [if_pos (decide_eq_true h1)]; exact hz0
      · split <;> omega
    refine ⟨some a', len, cap, zs.take len, rfl, by rw [List.length_take]; omega, by unfold maxLen at hm; omega, hl, fun _ => ⟨a', rfl, ?_⟩, fun n hn => i64_range (hwz n (List.mem_of_mem_take hn)), fun W' hb' => ⟨2, shut_ints 0 Tryz.underlying37 Tryz.underlying3 (by kernel_rfl) hb hl hm hz2 (fun i hi => cell_below (hcell i hi) hb') hwz⟩⟩
    intro i hi
    have hi' : i < zs.length := by rw [List.length_take] at hi; omega
    have := hcell i hi'
    rw [List.getD_eq_getElem?_getD, List.getElem?_eq_getElem hi', Option.getD_some] at this
    rw [this, List.getElem_take]
end Go.Proofs.YtphfefmlappidaaGreatDoor.Num.Fd
