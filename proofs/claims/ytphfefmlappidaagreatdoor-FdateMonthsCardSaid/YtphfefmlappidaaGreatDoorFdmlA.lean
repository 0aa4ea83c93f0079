/- Numbers as texts of digits, fractions, values and the functions of fmath: contracts of the program's functions, joined from smaller texts. Conditions stand at each theorem. -/
import Derived.Test.YtphfefmlappidaaGreatDoorFdmwA
import Derived.Test.YtphfefmlappidaaGreatDoorFdmA

/- The law FdateMonths at any two ints. Conditions: the tables lie as they are laid. -/
namespace Go.Proofs.YtphfefmlappidaaGreatDoor.Num.Fd
open Go.RowKit Go.Lib Num

theorem cmp_np {p q : Int} (h : p ≤ q) : cmpR ((p : Int) : Rat) ((q : Int) : Rat) ≤ 0 := by
  unfold cmpR
  by_cases e : ((p : Int) : Rat) = ((q : Int) : Rat)
  · rw [if_pos e]; decide
  · rw [if_neg e, if_pos (by
      have hne : p ≠ q := fun h' => e (by rw [h'])
      exact Rat.intCast_lt_intCast.2 (by omega))]
    decide

theorem months_any (n j : Int) (w : World) (hn0 : -9223372036854775808 ≤ n) (hn1 : n ≤ 9223372036854775807) (hs0 : -9223372036854775808 ≤ j) (hs1 : j ≤ 9223372036854775807) (hE : Env w) :
    Calls Tryz.prog 6 #[.int .i64 n, .int .i64 j] w fun e w' => e = .returned (.bool true) ∧ Below w.heap.size w w' := by
  obtain ⟨m, hm⟩ : ∃ m, n % 2900000 = m := ⟨_, rfl⟩
  obtain ⟨t, ht⟩ : ∃ t, j % 400 = t := ⟨_, rfl⟩
  have hm0 : 0 ≤ m ∧ m ≤ 2899999 := by omega
  have ht0 : 0 ≤ t ∧ t ≤ 399 := by omega
  obtain ⟨y, kk, d, hd0⟩ := date_exists (1 + m) (by omega) (by omega)
  obtain ⟨k, rfl⟩ : ∃ k : Nat, kk = (k : Int) := ⟨kk.toNat, by have := hd0.k0; omega⟩
  have hd := hd0
  clear hd0
  have d0 := hd.d0
  have k0 := hd.k0
  have k1 := hd.k1
  have R0 := hd.in_range (by omega) t ht0.1 (by omega)
  have R1 := hd.in_range (by omega) (t + 1) (by omega) (by omega)
  obtain ⟨M, hM⟩ : ∃ M, 12 * y + (k : Int) + t = M := ⟨_, rfl⟩
  have hM1 : 12 * y + (k : Int) + (t + 1) = M + 1 := by omega
  rw [hM] at R0
  rw [hM1] at R1
  obtain ⟨l, hl⟩ : ∃ l : Nat, M % 12 = (l : Int) := ⟨(M % 12).toNat, by omega⟩
  obtain ⟨z, hz⟩ : ∃ z, M / 12 = z := ⟨_, rfl⟩
  obtain ⟨l', hl'⟩ : ∃ l : Nat, (M + 1) % 12 = (l : Int) := ⟨((M + 1) % 12).toNat, by omega⟩
  obtain ⟨z', hz'⟩ : ∃ z, (M + 1) / 12 = z := ⟨_, rfl⟩
  have iO := edate_is R0.1 R0.2 d0
  have iE := eom_is R0.1 R0.2
  have iF := first_is R1.1 R1.2
  rw [hl, hz] at iO iE
  rw [hl', hz'] at iF
  have hF : eomNo M + 1 = firstDay (M + 1) := eom_succ M
  have bO := iO.range
  have bE := iE.range
  have bF := iF.range
  have bX := (eom_is R1.1 R1.2).range
  have hNE : 1 + m ≤ eomNo M := Int.le_trans hd.eom (eom_mono (by omega))
  have hzl : 12 * z + (l : Int) = M := by omega
  have hzl' : 12 * z' + (l' : Int) + 0 = M + 1 := by omega
  have fi : ∀ z : Int, z.natAbs ≤ 1000000000000000000 → fits ((z : Int) : Rat) = true := fun z h => fits_int z h
  have fl : ∀ z : Int, ((z : Int) : Rat).floor = z := fun z => Rat.floor_intCast z
  have fD : fits ((1 + m : Int) : Rat) = true := fi _ (by omega)
  have ft : fits ((t : Int) : Rat) = true := fi _ (by omega)
  have ft1 : fits ((t + 1 : Int) : Rat) = true := fi _ (by omega)
  have fE : fits ((eomNo M : Int) : Rat) = true := fi _ (by omega)
  have fO : fits ((edateNo M d : Int) : Rat) = true := fi _ (by omega)
  have fF : fits ((firstDay (M + 1) : Int) : Rat) = true := fi _ (by omega)
  have rO : RowV _ (numVals [((1 + m : Int) : Rat), ((t : Int) : Rat)]) _ := fun W G h g => d_EDATE G 0 2 W ((1 + m : Int) : Rat) ((t : Int) : Rat) (1 + m) y d M t k hd hM R0.1 R0.2 fD (fl _) ft (fl _) h g
  have rE : RowV _ (numVals [((1 + m : Int) : Rat), ((t : Int) : Rat)]) _ := fun W G h g => d_EOMONTH G 0 2 W ((1 + m : Int) : Rat) ((t : Int) : Rat) (1 + m) y d M t k hd hM R0.1 R0.2 fD (fl _) ft (fl _) h g
  have rX : RowV _ (numVals [((1 + m : Int) : Rat), ((t + 1 : Int) : Rat)]) _ := fun W G h g => d_EOMONTH G 0 2 W ((1 + m : Int) : Rat) ((t + 1 : Int) : Rat) (1 + m) y d (M + 1) (t + 1) k hd hM1 R1.1 R1.2 fD (fl _) ft1 (fl _) h g
  have rDay : RowV _ (numVals [((firstDay (M + 1) : Int) : Rat)]) _ := fun W G h g => d_DAY G 0 1 W ((firstDay (M + 1) : Int) : Rat) (firstDay (M + 1)) z' 1 l' iF fF (fl _) h g
  have rX2 : RowV _ (numVals [((firstDay (M + 1) : Int) : Rat), ((0 : Int) : Rat)]) _ := fun W G h g => d_EOMONTH G 0 2 W ((firstDay (M + 1) : Int) : Rat) ((0 : Int) : Rat) (firstDay (M + 1)) z' 1 (M + 1) 0 l' iF hzl' R1.1 R1.2 fF (fl _) (fi 0 (by decide)) (fl _) h g
  have rMO : RowV _ (numVals [((edateNo M d : Int) : Rat)]) _ := fun W G h g => d_MONTH G 0 1 W ((edateNo M d : Int) : Rat) (edateNo M d) z _ l iO fO (fl _) h g
  have rME : RowV _ (numVals [((eomNo M : Int) : Rat)]) _ := fun W G h g => d_MONTH G 0 1 W ((eomNo M : Int) : Rat) (eomNo M) z _ l iE fE (fl _) h g
  have rDif : RowV _ ([numVal' ((1 + m : Int) : Rat), numVal' ((eomNo M : Int) : Rat), valD]) _ := fun W G h g => d_DATEDIF G 0 3 W ((1 + m : Int) : Rat) ((eomNo M : Int) : Rat) (1 + m) (eomNo M) y d z _ k l hd iE hNE (by rw [hzl]; exact edate_le_eom M d) fD (fl _) fE (fl _) h g
  have e0 : ((((eomNo M : Int) : Rat).floor : Int) : Rat) - ((((1 + m : Int) : Rat).floor : Int) : Rat) = ((eomNo M - (1 + m) : Int) : Rat) := by
    rw [fl, fl, Rat.intCast_sub]
  have rDays : RowV _ (numVals [((eomNo M : Int) : Rat), ((1 + m : Int) : Rat)]) _ := fun W G h g => d_DAYS G 0 2 W ((eomNo M : Int) : Rat) ((1 + m : Int) : Rat) (by rw [fl]; exact fE) (by rw [fl]; exact fD) (by rw [e0]; exact fi _ (by omega)) fE fD h g
  rw [e0] at rDays
  have hWh : ∀ z : Int, z.natAbs ≤ 1000000000 → Fun1 11 (.int .i64 z) (numVal ((z : Int) : Rat)) := fun z hz W g => kwhole_any z W (by omega) (by omega) g
  have ep : ((eomNo M : Int) : Rat) + ((1 : Int) : Rat) = ((firstDay (M + 1) : Int) : Rat) := by rw [← Rat.intCast_add, hF]
  have rP : Fun2 15 (numVal ((eomNo M : Int) : Rat)) (numVal ((1 : Int) : Rat)) (numVal ((firstDay (M + 1) : Int) : Rat)) := fun W g => by
    have T := kplus_any ((eomNo M : Int) : Rat) ((1 : Int) : Rat) W fE (fi 1 (by decide)) (by rw [ep]; exact fF) g
    rw [ep] at T
    exact T
  exact months_walk n j m t (cmpR ((edateNo M d : Int) : Rat) ((eomNo M : Int) : Rat)) _ _ _ _ _ _ _ _ _ _ _ w hE hn0 hn1 hs0 hs1 hm ht (cmp_np (edate_le_eom M d))
    rO.row rE.row rX.row rDay.row rX2.row rMO.row rME.row rDif.row rDays.row
    (hWh (1 + m) (by omega)) (hWh t (by omega)) (hWh (t + 1) (by omega)) (hWh 1 (by decide)) (hWh 0 (by decide)) (fun W g => textV_D W g) rP
    (fun W g => compare_num ((edateNo M d : Int) : Rat) ((eomNo M : Int) : Rat) W fO fE g)
end Go.Proofs.YtphfefmlappidaaGreatDoor.Num.Fd
