/- Numbers as texts of digits, fractions, values and the functions of fmath: contracts of the program's functions, joined from smaller texts. Conditions stand at each theorem. -/
import Derived.Test.YtphfefmlappidaaGreatDoorFdbwA
import Derived.Test.YtphfefmlappidaaGreatDoorFdbA

/- The law FdateBack at any two ints. Conditions: the tables lie as they are laid. -/
namespace Go.Proofs.YtphfefmlappidaaGreatDoor.Num.Fd
open Go.RowKit Go.Lib Num

theorem back_any (n s : Int) (w : World) (hn0 : -9223372036854775808 ≤ n) (hn1 : n ≤ 9223372036854775807) (hs0 : -9223372036854775808 ≤ s) (hs1 : s ≤ 9223372036854775807) (hE : Env w) :
    Calls Tryz.prog 5 #[.int .i64 n, .int .i64 s] w fun e w' => e = .returned (.bool true) ∧ Below w.heap.size w w' := by
  obtain ⟨m, hm⟩ : ∃ m, n % 2958464 = m := ⟨_, rfl⟩
  obtain ⟨t, ht⟩ : ∃ t, s % 86400 = t := ⟨_, rfl⟩
  have hm0 : 0 ≤ m ∧ m ≤ 2958463 := by omega
  have ht0 : 0 ≤ t ∧ t ≤ 86399 := by omega
  obtain ⟨y, kk, d, hd0⟩ := date_exists (1 + m) (by omega) (by omega)
  obtain ⟨k, rfl⟩ : ∃ k : Nat, kk = (k : Int) := ⟨kk.toNat, by have := hd0.k0; omega⟩
  have hd := hd0
  clear hd0
  have y0 := hd.y0; have y1 := hd.y1; have k0 := hd.k0; have k1 := hd.k1; have d0 := hd.d0
  have d1 : d ≤ 31 := by have := hd.d1; have := mlen_bounds y k; omega
  have hfirst : firstDay (12 * y + (k : Int)) + d - 1 = 1 + m := hd.first
  have fi : ∀ z : Int, z.natAbs ≤ 1000000000000000000 → fits ((z : Int) : Rat) = true := fun z h => fits_int z h
  have fl : ∀ z : Int, ((z : Int) : Rat).floor = z := fun z => Rat.floor_intCast z
  have fD : fits ((1 + m : Int) : Rat) = true := fi _ (by omega)
  have fT : fits (timeR t) = true := (time_sm ht0.1 (by omega)).fits (by decide +kernel) (by decide +kernel)
  have fB : fits (((1 + m : Int) : Rat) + timeR t) = true := (both_sm (n := 1 + m) (by omega) (by omega) ht0.1 (by omega)).fits (by decide +kernel) (by decide +kernel)
  have bf : (((1 + m : Int) : Rat) + timeR t).floor = 1 + m := both_floor (1 + m) ht0.1 (by omega)
  have bq : (((((1 + m : Int) : Rat) + timeR t).floor : Int) : Rat) = ((1 + m : Int) : Rat) := by rw [bf]
  have br : ((1 + m : Int) : Rat) + timeR t - ((1 + m : Int) : Rat) = timeR t := both_rest (1 + m) t
  obtain ⟨c, hcc, hix⟩ := num_first (1 + m) (by omega)
  have ftw := fi 2 (by decide)
  have rWeek : RowV _ (numVals [((1 + m : Int) : Rat), ((2 : Int) : Rat)]) _ := fun W G h g => d_WEEKDAY2 G 0 2 W ((1 + m : Int) : Rat) ((2 : Int) : Rat) (1 + m) (by omega) (by omega) fD (fl _) ftw (fl 2) h g
  have rYear : RowV _ (numVals [((1 + m : Int) : Rat)]) _ := fun W G h g => d_YEAR G 0 1 W ((1 + m : Int) : Rat) (1 + m) y d k hd fD (fl _) h g
  have rMonth : RowV _ (numVals [((1 + m : Int) : Rat)]) _ := fun W G h g => d_MONTH G 0 1 W ((1 + m : Int) : Rat) (1 + m) y d k hd fD (fl _) h g
  have rDay : RowV _ (numVals [((1 + m : Int) : Rat)]) _ := fun W G h g => d_DAY G 0 1 W ((1 + m : Int) : Rat) (1 + m) y d k hd fD (fl _) h g
  have rDate : RowV _ (numVals [((y : Int) : Rat), (((k : Int) + 1 : Int) : Rat), ((d : Int) : Rat)]) _ := fun W G h g => d_DATE G 0 3 W ((y : Int) : Rat) (((k : Int) + 1 : Int) : Rat) ((d : Int) : Rat) y ((k : Int) + 1) d (12 * y + (k : Int)) (by omega) (by omega) (by omega) (by omega) (by omega) (by omega) (by omega) (by omega) (by omega) (by omega) (by omega) (fi _ (by omega)) (fl _) (fi _ (by omega)) (fl _) (fi _ (by omega)) (fl _) h g
  rw [hfirst] at rDate
  have rHour : RowV _ (numVals [(((1 + m : Int) : Rat) + timeR t)]) _ := fun W G h g => d_HOUR G 0 1 W (((1 + m : Int) : Rat) + timeR t) ((1 + m : Int) : Rat) (timeR t) t c (by rw [bq]; exact fD) bq br fT (time_mul t) ht0.1 (by omega) hcc hix fB h g
  have rMin : RowV _ (numVals [(((1 + m : Int) : Rat) + timeR t)]) _ := fun W G h g => d_MINUTE G 0 1 W (((1 + m : Int) : Rat) + timeR t) ((1 + m : Int) : Rat) (timeR t) t c (by rw [bq]; exact fD) bq br fT (time_mul t) ht0.1 (by omega) hcc hix fB h g
  have rSec : RowV _ (numVals [(((1 + m : Int) : Rat) + timeR t)]) _ := fun W G h g => d_SECOND G 0 1 W (((1 + m : Int) : Rat) + timeR t) ((1 + m : Int) : Rat) (timeR t) t c (by rw [bq]; exact fD) bq br fT (time_mul t) ht0.1 (by omega) hcc hix fB h g
  have et : (3600 * (t / 3600) + 60 * (t / 60 % 60) + t % 60) % 86400 = t := by omega
  have rTime : RowV _ (numVals [((t / 3600 : Int) : Rat), ((t / 60 % 60 : Int) : Rat), ((t % 60 : Int) : Rat)]) _ := fun W G h g => d_TIME G 0 3 W ((t / 3600 : Int) : Rat) ((t / 60 % 60 : Int) : Rat) ((t % 60 : Int) : Rat) (t / 3600) (t / 60 % 60) (t % 60) (by omega) (by omega) (by omega) (by omega) (by omega) (by omega) (by rw [et]; exact fT) (fi _ (by omega)) (fl _) (fi _ (by omega)) (fl _) (fi _ (by omega)) (fl _) h g
  rw [et] at rTime
  have e0 : (((((1 + m : Int) : Rat) + timeR t).floor : Int) : Rat) - ((((1 + m : Int) : Rat).floor : Int) : Rat) = ((0 : Int) : Rat) := by
    rw [bq, fl]
    have h0 : ((0 : Int) : Rat) = 0 := rfl
    rw [h0]; grind
  have rDays : RowV _ (numVals [(((1 + m : Int) : Rat) + timeR t), ((1 + m : Int) : Rat)]) _ := fun W G h g => d_DAYS G 0 2 W (((1 + m : Int) : Rat) + timeR t) ((1 + m : Int) : Rat) (by rw [bq]; exact fD) (by rw [fl]; exact fD) (by rw [e0]; exact fi 0 (by decide)) fB fD h g
  rw [e0] at rDays
  obtain ⟨u, hu⟩ : ∃ u, max 1 (1 + m - 7) = u := ⟨_, rfl⟩
  have hu0 : 1 ≤ u ∧ u ≤ 2958464 := by omega
  have rW2 : RowV _ (numVals [((u : Int) : Rat), ((2 : Int) : Rat)]) _ := fun W G h g => d_WEEKDAY2 G 0 2 W ((u : Int) : Rat) ((2 : Int) : Rat) u hu0.1 hu0.2 (fi _ (by omega)) (fl _) ftw (fl 2) h g
  have hR : Fun2 8 (.int .i64 t) (.int .i64 86400) (.tuple #[.agg #[.string (numS (timeR t)), .string (denS (timeR t))], .int .i64 0]) := fun W g => by
    have T := ratio_any t 86400 W (by decide) (by omega) (by decide) g.tab
    have e : (t : Rat) / ((86400 : Int) : Rat) = timeR t := rfl
    rw [e, wroteV_ok fT] at T
    exact T
  have hWh : ∀ z : Int, z.natAbs ≤ 1000000000 → Fun1 11 (.int .i64 z) (numVal ((z : Int) : Rat)) := fun z hz W g => kwhole_any z W (by omega) (by omega) g
  by_cases h7 : 7 < 1 + m
  · have e7 : (u + 6) % 7 + 1 = (1 + m + 6) % 7 + 1 := by omega
    rw [e7] at rW2
    exact back_high n s m t u _ _ _ _ _ _ _ _ _ _ _ _ _ w hE hn0 hn1 hs0 hs1 hm ht hu h7 rWeek.row rYear.row rMonth.row rDay.row rDate.row rHour.row rMin.row rSec.row rTime.row rDays.row rW2.row
      (hWh (1 + m) (by omega)) (hWh 2 (by decide)) (hWh 0 (by decide)) (hWh u (by omega)) hR (fun W g => number_any (timeR t) W fT g) (fun W g => kplus_any _ _ W fD fT fB g)
  · have hS : decide (((((u + 6) % 7 + 1 : Int)) : Rat) = (((1 + m + 6) % 7 + 1 : Int) : Rat)) = decide (1 + m = 1) := by
      rw [decide_eq_decide, Rat.intCast_inj]
      omega
    exact back_low n s m t u _ _ _ _ _ _ _ _ _ _ _ _ _ _ w hE hn0 hn1 hs0 hs1 hm ht hu (decide (1 + m = 1)) (by omega) rfl rWeek.row rYear.row rMonth.row rDay.row rDate.row rHour.row rMin.row rSec.row rTime.row rDays.row rW2.row
      (hWh (1 + m) (by omega)) (hWh 2 (by decide)) (hWh 0 (by decide)) (hWh u (by omega)) hR (fun W g => number_any (timeR t) W fT g) (fun W g => kplus_any _ _ W fD fT fB g)
      (fun W g => by
        have T := same_num ((((u + 6) % 7 + 1 : Int)) : Rat) (((1 + m + 6) % 7 + 1 : Int) : Rat) W
        rw [hS] at T
        exact T)
end Go.Proofs.YtphfefmlappidaaGreatDoor.Num.Fd
