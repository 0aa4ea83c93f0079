/- Numbers as texts of digits, fractions, values and the functions of fmath: contracts of the program's functions, joined from smaller texts. Conditions stand at each theorem. -/
import Derived.Test.YtcgglmoeneiokaaGreatDoorRnwA

/- The law FmathRoundsNear at any two ints. Conditions: the tables lie as they are laid. -/
namespace Go.Proofs.YtcgglmoeneiokaaGreatDoor.Num
open Go.RowKit Go.Lib

theorem Sm.signed {v : Rat} (q : Rat) {A B : Nat} (h : Sm v A B) : Sm (signedR v q) A B := by
  unfold signedR
  split
  · exact h.neg
  · exact h
theorem Sm.absR' {q : Rat} {A B : Nat} (h : Sm q A B) : Sm (Num.absR q) A B := Sm.abs h
theorem Sm.tenR {p : Int} (h : p.natAbs ≤ 2) : Sm (Num.tenR p) 100 100 := by
  refine ⟨(tenUp p : Int), tenDn p, Nat.pos_iff_ne_zero.1 (tenDn_pos p), by unfold Num.tenR; rw [Rat.intCast_natCast], ?_, ?_⟩
  · rw [Int.natAbs_natCast]
    exact Nat.le_trans (Nat.pow_le_pow_right (by decide) (show p.toNat ≤ 2 by omega)) (by decide)
  · exact Nat.le_trans (Nat.pow_le_pow_right (by decide) (show (-p).toNat ≤ 2 by omega)) (by decide)
theorem Sm.half : Sm ((1 : Rat) / 2) 1 2 := ⟨1, 2, by decide, rfl, by decide, by decide⟩
theorem Sm.one : Sm (1 : Rat) 1 1 := Sm.int 1 (by decide)
theorem tenR_ne (p : Int) : Num.tenR p ≠ 0 := rat_ne (tenR_pos p)
theorem Sm.cut {q : Rat} (u : Bool) {p : Int} (hp : p.natAbs ≤ 2) (h : Sm q 1000000 100) : Sm (cutR u q p) 100000000100 100 := by
  unfold cutR
  refine Sm.signed q ?_
  have hy := (h.absR'.mul (Sm.tenR hp)).floor
  split
  · exact ((hy.add Sm.one).div (Sm.tenR hp) (tenR_ne p)).mono (by decide) (by decide)
  · exact (hy.div (Sm.tenR hp) (tenR_ne p)).mono (by decide) (by decide)
theorem Sm.round {q : Rat} {p : Int} (hp : p.natAbs ≤ 2) (h : Sm q 1000000 100) : Sm (roundR q p) 100000000000 100 := by
  rw [roundR_of]
  refine Sm.signed q ?_
  have hy := ((h.absR'.mul (Sm.tenR hp)).add Sm.half).floor
  exact (hy.div (Sm.tenR hp) (tenR_ne p)).mono (by decide) (by decide)
theorem Sm.lim {q y : Rat} (hy : Sm y 1 2) (h0 : y ≠ 0) (h : Sm q 1000000 100) : Sm (q / y) 2000000 100 ∧ Sm (((q / y).floor : Int) : Rat) 2000000 1 ∧ Sm (y * (((q / y).floor : Int) : Rat)) 2000000 2 := by
  have h1 := h.div hy h0
  exact ⟨h1.mono (by decide) (by decide), h1.floor.mono (by decide) (by decide), (hy.mul h1.floor).mono (by decide) (by decide)⟩

theorem two_fits {p q : Rat} (hp : fits p = true) (hq : fits q = true) : ∀ z ∈ [p, q], fits z = true := by
  intro z hz
  simp only [List.mem_cons, List.not_mem_nil, or_false] at hz
  rcases hz with rfl | rfl
  · exact hp
  · exact hq
theorem half_of : hundredths 1000050 = 1 / 2 := by
  unfold hundredths
  rw [show (1000050 % 2000001 - 1000000 : Int) = 50 by decide]
  have h1 : ((50 : Int) : Rat) = 50 := rfl
  have h2 : ((100 : Int) : Rat) = 100 := rfl
  rw [h1, h2]; grind

set_option maxHeartbeats 4000000 in
theorem rounds_any (x y : Int) (w : World) (hx0 : -9223372036854775808 ≤ x) (hx1 : x ≤ 9223372036854775807) (hy0 : -9223372036854775808 ≤ y) (hy1 : y ≤ 9223372036854775807) (hE : Env w) :
    Calls Tryz.prog 8 #[.int .i64 x, .int .i64 y] w fun e w' => e = .returned (.bool true) ∧ Below w.heap.size w w' := by
  obtain ⟨m, hm⟩ : ∃ m, y % 5 = m := ⟨_, rfl⟩
  have hm0 : 0 ≤ m ∧ m ≤ 4 := by omega
  have TX := fun W g => knumber_any x hx0 hx1 W g
  have TH := fun W g => knumber_any 1000050 (by decide) (by decide) W g
  rw [half_of] at TH
  have sA := Sm.hundredths x
  obtain ⟨A, hA⟩ : ∃ p, hundredths x = p := ⟨_, rfl⟩
  rw [hA] at TX sA
  have fA : fits A = true := sA.fits (by decide +kernel) (by decide +kernel)
  obtain ⟨K, hK⟩ : ∃ K : Rat, ((m - 2 : Int) : Rat) = K := ⟨_, rfl⟩
  have hKf : K.floor = m - 2 := by rw [← hK, Rat.floor_intCast]
  have fK : fits K = true := by rw [← hK]; exact fits_int _ (by omega)
  have hp : K.floor.natAbs ≤ 2 := by rw [hKf]; omega
  have k0 : -100 ≤ K.floor := by rw [hKf]; omega
  have k1 : K.floor ≤ 100 := by rw [hKf]; omega
  have sT := Sm.tenR hp
  have sT0 : Sm (tenR 0) 100 100 := Sm.tenR (by decide)
  have sY := sA.absR'.mul sT
  have sY0 := sA.absR'.mul sT0
  have sR := Sm.round hp sA
  have sU := Sm.cut true hp sA
  have sD := Sm.cut false hp sA
  have sTr := Sm.cut (p := 0) false (by decide) sA
  have hH0 : (0 : Rat) < 1 / 2 := by decide +kernel
  have sL := Sm.lim Sm.half (rat_ne hH0) sA
  have sC := Sm.lim Sm.half (rat_ne hH0) sA.neg
  have fR : fits (roundR A K.floor) = true := sR.fits (by decide +kernel) (by decide +kernel)
  have fU : fits (cutR true A K.floor) = true := sU.fits (by decide +kernel) (by decide +kernel)
  have fD : fits (cutR false A K.floor) = true := sD.fits (by decide +kernel) (by decide +kernel)
  have fTr : fits (cutR false A 0) = true := sTr.fits (by decide +kernel) (by decide +kernel)
  have fH : fits (1 / 2 : Rat) = true := Sm.half.fits (by decide +kernel) (by decide +kernel)
  have fI : fits ((A.floor : Int) : Rat) = true := sA.floor.fits (by decide +kernel) (by decide +kernel)
  have fT : fits (tenR K.floor) = true := sT.fits (by decide +kernel) (by decide +kernel)
  have fT0 : fits (tenR 0) = true := sT0.fits (by decide +kernel) (by decide +kernel)
  have fY : fits (absR A * tenR K.floor) = true := sY.fits (by decide +kernel) (by decide +kernel)
  have fY0 : fits (absR A * tenR 0) = true := sY0.fits (by decide +kernel) (by decide +kernel)
  have fZ : fits (((absR A * tenR K.floor).floor : Int) : Rat) = true := sY.floor.fits (by decide +kernel) (by decide +kernel)
  have fZ0 : fits (((absR A * tenR 0).floor : Int) : Rat) = true := sY0.floor.fits (by decide +kernel) (by decide +kernel)
  have fZ1 : fits ((((absR A * tenR K.floor).floor : Int) : Rat) + 1) = true := (sY.floor.add Sm.one).fits (by decide +kernel) (by decide +kernel)
  have fd : fits ((((absR A * tenR K.floor).floor : Int) : Rat) / tenR K.floor) = true := (sY.floor.div sT (tenR_ne _)).fits (by decide +kernel) (by decide +kernel)
  have fd0 : fits ((((absR A * tenR 0).floor : Int) : Rat) / tenR 0) = true := (sY0.floor.div sT0 (tenR_ne _)).fits (by decide +kernel) (by decide +kernel)
  have fd1 : fits (((((absR A * tenR K.floor).floor : Int) : Rat) + 1) / tenR K.floor) = true := ((sY.floor.add Sm.one).div sT (tenR_ne _)).fits (by decide +kernel) (by decide +kernel)
  have fL1 : fits (A / (1 / 2)) = true := sL.1.fits (by decide +kernel) (by decide +kernel)
  have fL2 : fits (((A / (1 / 2)).floor : Int) : Rat) = true := sL.2.1.fits (by decide +kernel) (by decide +kernel)
  have fL3 : fits ((1 / 2) * (((A / (1 / 2)).floor : Int) : Rat)) = true := sL.2.2.fits (by decide +kernel) (by decide +kernel)
  have fC1 : fits ((-A) / (1 / 2)) = true := sC.1.fits (by decide +kernel) (by decide +kernel)
  have fC2 : fits ((((-A) / (1 / 2)).floor : Int) : Rat) = true := sC.2.1.fits (by decide +kernel) (by decide +kernel)
  have fC3 : fits ((1 / 2) * ((((-A) / (1 / 2)).floor : Int) : Rat)) = true := sC.2.2.fits (by decide +kernel) (by decide +kernel)
  have f1 : fits ((1 : Int) : Rat) = true := fits_int 1 (by decide)
  have fm1 : fits ((-1 : Int) : Rat) = true := fits_int (-1) (by decide)
  have e1 : ((1 : Int) : Rat) = 1 := rfl
  have em1 : ((-1 : Int) : Rat) = -1 := rfl
  have hdiv : A / ((1 : Int) : Rat) = A := by rw [e1]; grind
  have hM : A - ((1 : Int) : Rat) * (((A / ((1 : Int) : Rat)).floor : Int) : Rat) = A - ((A.floor : Int) : Rat) := by rw [hdiv, e1]; grind
  have sM := sA.sub sA.floor
  have fM : fits (A - ((A.floor : Int) : Rat)) = true := sM.fits (by decide +kernel) (by decide +kernel)
  have hP : prodL [((A.floor : Int) : Rat), ((-1 : Int) : Rat)] = -((A.floor : Int) : Rat) := by
    show 1 * ((A.floor : Int) : Rat) * ((-1 : Int) : Rat) = _
    rw [em1]; grind
  have fP : fits (-((A.floor : Int) : Rat)) = true := by rw [fits_neg]; exact fI
  have hS : sumL [A, -((A.floor : Int) : Rat)] = A - ((A.floor : Int) : Rat) := by
    show 0 + A + -((A.floor : Int) : Rat) = _
    grind
  have hRR : roundR (roundR A K.floor) K.floor = roundR A K.floor := round_again A K.floor
  have ab : ∀ p : Rat, fits p = true → MathRow { data := #[65, 66, 83] } #[.int .i64 1, .string (numS p), .string (denS p), .string { data := #[] }, .bool false, .int .i64 0, .int .i64 0, .int .i64 0, .slice none 0 0] 1 (numVal (absR p)) := fun p hp W G h g => m_ABS p G 0 1 W hp (vals_of_block h rfl) g
  have fa : ∀ {p : Rat}, fits p = true → fits (absR p) = true := fun h => by rw [fits_absR]; exact h
  refine rounds_walk x y m A K (roundR A K.floor) (cutR true A K.floor) (cutR false A K.floor) (-((1 / 2) * ((((-A) / (1 / 2)).floor : Int) : Rat))) ((1 / 2) * (((A / (1 / 2)).floor : Int) : Rat)) (1 / 2) ((A.floor : Int) : Rat) (cutR false A 0) (A - ((A.floor : Int) : Rat)) (-((A.floor : Int) : Rat))
    (absR A) (absR (cutR false A K.floor)) (absR (cutR true A K.floor)) (absR (roundR A K.floor)) (absR (cutR false A 0)) ((1 : Int) : Rat) ((-1 : Int) : Rat) w hE hy0 hy1 hm
    (fun W G h g => m_ROUND A K G 0 2 W fA fK k0 k1 fR (vals_of_block h rfl) g)
    (fun W G h g => m_ROUNDUP A K G 0 2 W fA fK k0 k1 fT fY fZ fZ1 fd fd1 fU (vals_of_block h rfl) g)
    (fun W G h g => m_ROUNDDOWN A K G 0 2 W fA fK k0 k1 fT fY fZ fd fD (vals_of_block h rfl) g)
    (fun W G h g => m_CEILING A (1 / 2) G 0 2 W fA fH hH0 fC1 fC2 fC3 (vals_of_block h rfl) g)
    (fun W G h g => m_FLOOR A (1 / 2) G 0 2 W fA fH hH0 fL1 fL2 fL3 (vals_of_block h rfl) g)
    (fun W G h g => m_INT A G 0 1 W fA fI (vals_of_block h rfl) g)
    (fun W G h g => m_TRUNC A G 0 1 W fA fT0 fY0 fZ0 fd0 fTr (vals_of_block h rfl) g)
    (ab A fA)
    (fun W G h g => by
      have T := m_ROUND (roundR A K.floor) K G 0 2 W fR fK k0 k1 (by rw [hRR]; exact fR) (vals_of_block h rfl) g
      rw [hRR] at T
      exact T)
    (fun W G h g => by
      have T := m_MOD A ((1 : Int) : Rat) G 0 2 W fA f1 (by decide +kernel) (by rw [hdiv]; exact fA) (by rw [hdiv]; exact fI) (by rw [hdiv, e1, Rat.one_mul]; exact fI) (by rw [hM]; exact fM) (vals_of_block h rfl) g
      rw [hM] at T
      exact T)
    (fun W G h g => by
      have T := m_PRODUCT [((A.floor : Int) : Rat), ((-1 : Int) : Rat)] G 0 2 W (by simp) (by simp) (two_fits fI fm1) (by
        intro k hk
        match k, hk with
        | 0, _ => exact f1
        | 1, _ => simp only [List.take, prodL, List.foldl]; rw [Rat.one_mul]; exact fI
        | 2, _ => show fits (prodL [((A.floor : Int) : Rat), ((-1 : Int) : Rat)]) = true; rw [hP]; exact fP
        | k + 3, hk => simp at hk) (vals_of_block h rfl) g
      rw [hP] at T
      exact T)
    (fun W G h g => by
      have T := m_SUM [A, -((A.floor : Int) : Rat)] G 0 2 W (by simp) (by simp) (two_fits fA fP) (by
        intro k hk
        match k, hk with
        | 0, _ => exact fits_zero
        | 1, _ => show fits (0 + A) = true; rw [Rat.zero_add]; exact fA
        | 2, _ => show fits (sumL [A, -((A.floor : Int) : Rat)]) = true; rw [hS]; exact fM
        | k + 3, hk => simp at hk) (vals_of_block h rfl) g
      rw [hS] at T
      exact T)
    (fun W g => TX W g) (fun W g => TH W g)
    (fun W g => by rw [← hK]; exact kwhole_any (m - 2) W (by omega) (by omega) g)
    (fun W g => kwhole_any 1 W (by decide) (by decide) g) (fun W g => kwhole_any (-1) W (by decide) (by decide) g)
    (abs_clos _ _ (ab A fA)) (abs_clos _ _ (ab _ fD)) (abs_clos _ _ (ab _ fU)) (abs_clos _ _ (ab _ fR)) (abs_clos _ _ (ab _ fTr))
    (le_true _ _ (down_le A _) (fa fD) (fa fA)) (le_true _ _ (le_up A _) (fa fA) (fa fU)) (le_true _ _ (down_le_round A _) (fa fD) (fa fR)) (le_true _ _ (round_le_up A _) (fa fR) (fa fU))
    (le_true _ _ (limit_down A (1 / 2) hH0) fL3 fA) (le_true _ _ (limit_up A (1 / 2) hH0) fA (by rw [fits_neg]; exact fC3)) (le_true _ _ (Rat.floor_le A) fI fA) (le_true _ _ (down_le A 0) (fa fTr) (fa fA))
end Go.Proofs.YtcgglmoeneiokaaGreatDoor.Num
