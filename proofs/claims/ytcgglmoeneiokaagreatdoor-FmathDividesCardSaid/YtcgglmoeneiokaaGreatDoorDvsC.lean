/- Numbers as texts of digits, fractions, values and the functions of fmath: contracts of the program's functions, joined from smaller texts. Conditions stand at each theorem. -/
import Derived.Test.YtcgglmoeneiokaaGreatDoorDvsB

/- The law FmathDivides: its two cases joined. Conditions: the tables lie as they are laid. -/
namespace Go.Proofs.YtcgglmoeneiokaaGreatDoor.Num
open Go.RowKit Go.Lib

theorem numS0 : numS 0 = { data := #[48] } := by
  have h := numS_int 0
  rw [show ((0 : Int) : Rat) = 0 from rfl] at h
  rw [h, show Lib.itoa 0 = [48] by decide +kernel]
theorem num_zero {q : Rat} (h : (numS q).toList = [48]) : q = 0 := by
  have e0 : (numS 0).toList = [48] := by rw [Lib.toList_data, numS0]
  have e1 : numText q = numText 0 := by
    rw [← e0, Lib.toList_data, Lib.toList_data] at h
    exact h
  have hu : up q = up 0 := by
    apply decDigits_inj
    rw [← num_rest, ← num_rest, e1]
  exact (up_zero q).1 (by rw [hu]; rfl)
theorem num_is_zero : ((numS 0).toList == [48]) = true := by rw [Lib.toList_data, numS0]; rfl
theorem num_not_zero {q : Rat} (h : q ≠ 0) : ((numS q).toList == [48]) = false := by
  cases hb : ((numS q).toList == [48]) with
  | false => rfl
  | true => exact absurd (num_zero (by simpa using hb)) h
theorem toward_int (q : Rat) : ∃ n : Int, towardR q = (n : Rat) := by
  unfold towardR signedR
  split
  · exact ⟨-(absR q).floor, by rw [Rat.intCast_neg]⟩
  · exact ⟨(absR q).floor, rfl⟩
theorem Sm.absR {q : Rat} {A B : Nat} (h : Sm q A B) : Sm (Num.absR q) A B := Sm.abs h

theorem divides_walk (x y : Int) (w : World) (hx0 : -9223372036854775808 ≤ x) (hx1 : x ≤ 9223372036854775807) (hy0 : -9223372036854775808 ≤ y) (hy1 : y ≤ 9223372036854775807) (hE : Env w) :
    Calls Tryz.prog 6 #[.int .i64 x, .int .i64 y] w fun e w' => e = .returned (.bool true) ∧ Below w.heap.size w w' := by
  have TX := fun W g => knumber_any x hx0 hx1 W g
  have TY := fun W g => knumber_any y hy0 hy1 W g
  have sp := Sm.hundredths x
  have sq := Sm.hundredths y
  obtain ⟨p, hp⟩ : ∃ p, hundredths x = p := ⟨_, rfl⟩
  obtain ⟨q, hq⟩ : ∃ q, hundredths y = q := ⟨_, rfl⟩
  rw [hp] at TX sp
  rw [hq] at TY sq
  have fp : fits p = true := sp.fits (by decide +kernel) (by decide +kernel)
  have fq : fits q = true := sq.fits (by decide +kernel) (by decide +kernel)
  by_cases h0 : q = 0
  · subst h0
    exact divides_zero p 0 x y w hE num_is_zero TX TY (fun W B C hv g => m_QUOTIENT0 p B 0 C W fp hv g) (fun W B C hv g => m_MOD0 p B 0 C W fp hv g)
  · have sr : Sm (p / q) (1000000 * 100) (100 * 1000000) := sp.div sq h0
    have sf := sr.floor
    have sfa := sr.absR.floor
    have sqf := sq.mul sf
    have sfq := sf.mul sq
    have sm := sp.sub sqf
    have fr : fits (p / q) = true := sr.fits (by decide +kernel) (by decide +kernel)
    have ff : fits (((p / q).floor : Int) : Rat) = true := sf.fits (by decide +kernel) (by decide +kernel)
    have ffa : fits (((absR (p / q)).floor : Int) : Rat) = true := sfa.fits (by decide +kernel) (by decide +kernel)
    have fqf : fits (q * (((p / q).floor : Int) : Rat)) = true := sqf.fits (by decide +kernel) (by decide +kernel)
    have ffq : fits ((((p / q).floor : Int) : Rat) * q) = true := sfq.fits (by decide +kernel) (by decide +kernel)
    have fm : fits (p - q * (((p / q).floor : Int) : Rat)) = true := sm.fits (by decide +kernel) (by decide +kernel)
    have hsum : (((p / q).floor : Int) : Rat) * q + (p - q * (((p / q).floor : Int) : Rat)) = p := by grind
    obtain ⟨n, hn⟩ := toward_int (p / q)
    have hden : denS (towardR (p / q)) = { data := #[49] } := by rw [hn]; exact denS_int n
    refine divides_some p q (towardR (p / q)) (p - q * (((p / q).floor : Int) : Rat)) (((p / q).floor : Int) : Rat) (p / q) ((((p / q).floor : Int) : Rat) * q) x y w hE (num_not_zero h0) TX TY ?_ ?_ ?_ ?_ ?_ ?_ ?_
    · intro W B C hv g
      refine (m_QUOTIENT p q B 0 C W fp fq h0 fr ffa hv g).mono ?_
      rintro e w' ⟨rfl, hb⟩
      exact ⟨by rw [numVal_is, hden], hb⟩
    · exact fun W B C hv g => m_MOD p q B 0 C W fp fq h0 fr ff fqf fm hv g
    · intro W g
      have T := div_any p q W fp fq h0 g.tab
      rw [wroteV_ok fr] at T
      exact T
    · intro W g
      have T := floor_any (p / q) W fr g.tab
      rw [wroteV_ok ff] at T
      exact T
    · exact fun W g => number_any _ W ff g
    · intro W B C hv g
      have T := m_PRODUCT [(((p / q).floor : Int) : Rat), q] B 0 C W (by simp) (by simp) (by
        intro z hz
        simp only [List.mem_cons, List.not_mem_nil, or_false] at hz
        rcases hz with rfl | rfl
        · exact ff
        · exact fq) (by
        intro k hk
        match k, hk with
        | 0, _ => exact fits_int 1 (by decide)
        | 1, _ => simp only [List.take, prodL, List.foldl]; rw [Rat.one_mul]; exact ff
        | 2, _ => simp only [List.take, prodL, List.foldl]; rw [Rat.one_mul]; exact ffq
        | k + 3, hk => simp at hk) hv g
      rw [prod_ab] at T
      exact T
    · intro W g
      have T := kplus_any ((((p / q).floor : Int) : Rat) * q) (p - q * (((p / q).floor : Int) : Rat)) W ffq fm (by rw [hsum]; exact fp) g
      rw [hsum] at T
      exact T
end Go.Proofs.YtcgglmoeneiokaaGreatDoor.Num
