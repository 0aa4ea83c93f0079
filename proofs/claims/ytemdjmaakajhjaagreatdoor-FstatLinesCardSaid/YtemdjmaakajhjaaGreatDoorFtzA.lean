/- Numbers as texts of digits, fractions, values and the functions of fmath: contracts of the program's functions, joined from smaller texts. Conditions stand at each theorem. -/
import Derived.Test.YtemdjmaakajhjaaGreatDoorFttA
import Derived.SizedLaws
import Derived.Test.YtemdjmaakajhjaaGreatDoorFtxA
import Derived.Test.YtemdjmaakajhjaaGreatDoorFtyA
import Derived.Test.YtemdjmaakajhjaaGreatDoorFtkB

/- How long a slice of whole numbers that came in may be. No conditions. -/
namespace Go.Proofs.YtemdjmaakajhjaaGreatDoor.Num
open Go.ChangeShapes Go.WideShapes Go.ChangeAt Go.RowKit Go.Lib

theorem ints_weigh {H : Type} {enc : TypeId × Value → H} {W : World} {base : Nat} {held : Bool} {A : Option Addr} {L C : Nat} {d : DataW H} {p : List MemPlace} (h : DataW.Trod enc Tryz.prog W base (fun _ => true) held 22 (.slice A L C) d p) : L = 0 ∨ ∃ el sp, d = .slice el sp ∧ el.length = L := by
  obtain ⟨fuel, hf⟩ := h
  rcases open_ints Tryz.underlying22 Tryz.underlying3 (by kernel_rfl) hf with ⟨hcs, hx⟩ | ⟨a', len', cap', zs, hcs, hb, hl, hm, hz, hx, hcell, hwz⟩
  · have hcs' : (Value.slice A L C) = .slice none 0 0 := by simpa [Value.cells] using hcs
    injection hcs' with h1 h2 h3
    exact .inl h2
  · have hcs' : (Value.slice A L C) = .slice (some a') len' cap' := by simpa [Value.cells] using hcs
    injection hcs' with h1 h2 h3
    subst h2
    injection hx with h1 h2
    have hz0 : zs.length = cap' := by simpa using hz
    exact .inr ⟨_, _, h1, by simp only [lits, List.length_map, List.length_take]; omega⟩
/-- a slice of ints that came in: at most as many as fit into what can be reached -/
theorem ints_reach {H : Type} {enc : TypeId × Value → H} {W : World} {base : Nat} {held : Bool} {A : Option Addr} {L C j : Nat} {d : DataW H} {p : List MemPlace} {ts : List TypeId} {ds : List (DataW H)} (h : DataW.Trod enc Tryz.prog W base (fun _ => true) held 22 (.slice A L C) d p)
    (hs : (DataW.weightsEach Tryz.prog ts ds).all (· ≤ reachBytes) = true) (ht : ts[j]? = some 22) (hd : ds[j]? = some d) : L * 8 ≤ 140737488351232 := by
  rcases ints_weigh h with rfl | ⟨el, sp, rfl, hl⟩
  · decide
  · have hq := sized_slice hs ht hd Tryz.underlying22
    rw [show Tryz.prog.bytesOf 3 = 8 by kernel_rfl] at hq
    unfold reachBytes at hq
    have : L * 8 ≤ (el.length + sp.length) * 8 := Nat.mul_le_mul (by omega) (Nat.le_refl _)
    omega
end Go.Proofs.YtemdjmaakajhjaaGreatDoor.Num

/- The law FstatLines at any ints and any two ints. Conditions: at most 2^44 - 512 ints; the tables lie as they are laid. -/
namespace Go.Proofs.YtemdjmaakajhjaaGreatDoor.Num.Ft
open Go.RowKit Go.Lib Num

theorem numS_0 : numS 0 = { data := #[48] } := by
  have h := numS_int 0
  rw [show ((0 : Int) : Rat) = 0 from rfl] at h
  rw [h, show Lib.itoa 0 = [48] by decide +kernel]
theorem num_0 {q : Rat} (h : (numS q).toList = [48]) : q = 0 := by
  have e0 : (numS 0).toList = [48] := by rw [Lib.toList_data, numS_0]
  have e1 : numText q = numText 0 := by
    rw [← e0, Lib.toList_data, Lib.toList_data] at h
    exact h
  have hu : up q = up 0 := by
    apply decDigits_inj
    rw [← num_rest, ← num_rest, e1]
  exact (up_zero q).1 (by rw [hu]; rfl)
theorem over_get (c : Nat) (xs : List Int) (i : Nat) (h : i < (over c xs).length) (h' : i < xs.length) : (over c xs)[i] = (xs[i] : Rat) / ((c : Nat) : Rat) := List.getElem_map _
theorem line_get (K B : Int) (xs : List Int) (i : Nat) (h : i < (lineI K B xs).length) (h' : i < xs.length) : (lineI K B xs)[i] = K * xs[i] + B * 1 := List.getElem_map _
/-- the law's math at PRODUCT of two numbers -/
theorem p2_of {x k : Rat} (hx : fits x = true) (hk : fits k = true) (hxk : fits (x * k) = true) : P2 { data := #[80, 82, 79, 68, 85, 67, 84] } x k (x * k) := by
  intro W G hb hE
  have e2 : prodL [x, k] = x * k := by
    show 1 * x * k = _
    rw [Rat.one_mul]
  have e1 : prodL [x] = x := by
    show 1 * x = _
    exact Rat.one_mul _
  have T := m_PRODUCT [x, k] G 0 2 W (show 0 < 2 by decide) (show 2 ≤ 255 by decide)
    (by intro q hq; simp only [List.mem_cons, List.not_mem_nil, or_false] at hq; rcases hq with rfl | rfl; exact hx; exact hk)
    (by
      intro j hj
      match j, hj with
      | 0, _ => show fits (1 : Rat) = true; decide +kernel
      | 1, _ => show fits (prodL [_]) = true; rw [e1]; exact hx
      | 2, _ => show fits (prodL [_, _]) = true; rw [e2]; exact hxk)
    (vals_of_block hb rfl) hE
  rw [e2] at T
  exact T
/-- the points' first coordinates -/
def linI (L : Nat) (zs : List Int) : List Int := tabI (if L = 0 then [0, 1, 3] else 0 :: 1 :: zs)
theorem lin_row (L : Nat) (zs : List Int) : 2 ≤ (linI L zs).length ∧ (linI L zs).length ≤ 30 ∧ Row12 1 6 (linI L zs) ∧ (0 : Int) ∈ linI L zs ∧ (1 : Int) ∈ linI L zs := by
  have h30 : (linI L zs).length ≤ 30 := by unfold linI tabI; rw [List.length_map, List.length_take]; omega
  have h2 : 2 ≤ (linI L zs).length := by
    unfold linI tabI
    rw [List.length_map, List.length_take]
    split
    · decide
    · simp only [List.length_cons]; omega
  refine ⟨h2, h30, ⟨by decide, by decide, by omega, h30, ?_, by decide⟩, ?_, ?_⟩
  · intro x hx
    obtain ⟨y, _, rfl⟩ := List.mem_map.1 hx
    show (y % 7).natAbs ≤ 6
    omega
  · unfold linI tabI
    split
    · decide
    · simp
  · unfold linI tabI
    split
    · decide
    · simp
section
variable {xs : List Int} (h : Row12 1 6 xs) (K B : Int) (hK : K.natAbs ≤ 1000000) (hB : B.natAbs ≤ 1000000) (n : Nat) (hn : xs.length = n)
include h hK hB hn
theorem l2_SLOPE (hs : crossR (over 1 xs) (over 1 xs) ≠ 0) : L2 { data := #[83, 76, 79, 80, 69] } n (over 100 (lineI K B xs)) (over 1 xs) (numVal (slopeR K)) :=
  fun W G g1 c1 g2 c2 hb hp hq hE => s_SLOPE h K B hK hB hs n G 2 g1 g2 c1 c2 W hn (vals_of_block hb rfl) hp hq hE
theorem l2_ICEPT (hs : crossR (over 1 xs) (over 1 xs) ≠ 0) : L2 { data := #[73, 78, 84, 69, 82, 67, 69, 80, 84] } n (over 100 (lineI K B xs)) (over 1 xs) (numVal (slopeR B)) :=
  fun W G g1 c1 g2 c2 hb hp hq hE => s_INTERCEPT h K B hK hB hs n G 2 g1 g2 c1 c2 W hn (vals_of_block hb rfl) hp hq hE
theorem l2_RSQ (hk : slopeR K ≠ 0) (hs : crossR (over 1 xs) (over 1 xs) ≠ 0) : L2 { data := #[82, 83, 81] } n (over 100 (lineI K B xs)) (over 1 xs) (numVal 1) :=
  fun W G g1 c1 g2 c2 hb hp hq hE => s_RSQ h K B hK hB hk hs n G 2 g1 g2 c1 c2 W hn (vals_of_block hb rfl) hp hq hE
theorem l2_RSQ_flat (hk : slopeR K = 0) : L2 { data := #[82, 83, 81] } n (over 100 (lineI K B xs)) (over 1 xs) (faultVal 1) :=
  fun W G g1 c1 g2 c2 hb hp hq hE => s_RSQ_flat h K B hK hB hk n G 2 g1 g2 c1 c2 W hn (vals_of_block hb rfl) hp hq hE
theorem l3_CAST (hs : crossR (over 1 xs) (over 1 xs) ≠ 0) : L3 { data := #[70, 79, 82, 69, 67, 65, 83, 84] } n ((10 : Int) : Rat) (over 100 (lineI K B xs)) (over 1 xs) (numVal (slopeR B + ((10 : Int) : Rat) * slopeR K)) :=
  fun W G g1 c1 g2 c2 hb hp hq hE => s_FORECAST h K B hK hB hs n G 3 g1 g2 c1 c2 W hn (vals_of_block hb rfl) hp hq hE
end
theorem lines_any (A : Option Addr) (L C : Nat) (zs : List Int) (z y : Int) (w : World) (hi : IntsIn w A L C zs) (hL : L ≤ 17592186043904) (hz0 : -9223372036854775808 ≤ z) (hz1 : z ≤ 9223372036854775807) (hy0 : -9223372036854775808 ≤ y) (hy1 : y ≤ 9223372036854775807) (hE : EnvY w) :
    Calls Tryz.prog 4 #[.slice A L C, .int .i64 z, .int .i64 y] w fun e w' => e = .returned (.bool true) ∧ Below w.heap.size w w' := by
  obtain ⟨h2, h30, h, m0, m1⟩ := lin_row L zs
  obtain ⟨xs, hxs⟩ : ∃ xs, linI L zs = xs := ⟨_, rfl⟩
  rw [hxs] at h2 h30 h m0 m1
  obtain ⟨K, hKd⟩ : ∃ K, z % 2000001 - 1000000 = K := ⟨_, rfl⟩
  obtain ⟨B, hBd⟩ : ∃ B, y % 2000001 - 1000000 = B := ⟨_, rfl⟩
  have hK : K.natAbs ≤ 1000000 := by omega
  have hB : B.natAbs ≤ 1000000 := by omega
  have eK : hundredths z = slopeR K := by rw [hundredths_over, hKd]; rfl
  have eB : hundredths y = slopeR B := by rw [hundredths_over, hBd]; rfl
  have hs : crossR (over 1 xs) (over 1 xs) ≠ 0 := cross_pos h m0 m1 (by decide)
  have k := line_row h K B hK hB
  have fK := slope_fits hK
  have fB := slope_fits hB
  have f10 : fits ((10 : Int) : Rat) = true := fits_int 10 (by decide)
  have hvl : ((over 1 xs).map (· * slopeR K)).length = xs.length := by rw [List.length_map, over_len]
  have hpl : (over 100 (lineI K B xs)).length = xs.length := by rw [over_len]; unfold lineI; rw [List.length_map]
  have fv : ∀ (i : Nat) (hq : i < (over 1 xs).length), fits ((over 1 xs)[i] * slopeR K) = true := by
    intro i hq
    have hix : i < xs.length := by rw [over_len] at hq; exact hq
    have e := over_get 1 xs i hq hix
    rw [e]
    exact (Sm.mul ⟨_, 1, by decide, rfl, h.le _ (List.getElem_mem hix), Nat.le_refl _⟩ (slope_sm hK)).fits (by decide +kernel) (by decide +kernel)
  have tK : Fun1 7 (.int .i64 z) (numVal (slopeR K)) := fun W g => by rw [← eK]; exact knumber_any z hz0 hz1 W g
  have tB : Fun1 7 (.int .i64 y) (numVal (slopeR B)) := fun W g => by rw [← eB]; exact knumber_any y hy0 hy1 W g
  have tV : ∀ (i : Nat) (hq : i < (over 1 xs).length) (h' : i < ((over 1 xs).map (· * slopeR K)).length), P2 { data := #[80, 82, 79, 68, 85, 67, 84] } (over 1 xs)[i] (slopeR K) ((over 1 xs).map (· * slopeR K))[i] := by
    intro i hq h'
    rw [List.getElem_map]
    exact p2_of (h.each _ (List.getElem_mem hq)) fK (fv i hq)
  have tP : ∀ (i : Nat) (hq : i < ((over 1 xs).map (· * slopeR K)).length) (h' : i < (over 100 (lineI K B xs)).length), Fun2 8 (numVal ((over 1 xs).map (· * slopeR K))[i]) (numVal (slopeR B)) (numVal (over 100 (lineI K B xs))[i]) := by
    intro i hq h'
    have hix : i < xs.length := by rw [hvl] at hq; exact hq
    have hiq : i < (over 1 xs).length := by rw [over_len]; exact hix
    have e : (over 100 (lineI K B xs))[i] = ((over 1 xs).map (· * slopeR K))[i] + slopeR B := by
      rw [List.getElem_map]
      have e1 := over_get 1 xs i hiq hix
      have hil : i < (lineI K B xs).length := by rw [over_len] at h'; exact h'
      have e2 := over_get 100 (lineI K B xs) i h' hil
      rw [line_get K B xs i hil hix] at e2
      rw [e1, e2, line_at]
    rw [e]
    exact fun W g => kplus_any _ _ W (by rw [List.getElem_map]; exact fv i hiq) fB (by rw [← e]; exact k.each _ (List.getElem_mem h')) g
  have pT := p2_of f10 fK (ten_fits K hK)
  have tF : Fun2 8 (numVal (((10 : Int) : Rat) * slopeR K)) (numVal (slopeR B)) (numVal (slopeR B + ((10 : Int) : Rat) * slopeR K)) := fun W g => by
    have e : slopeR B + ((10 : Int) : Rat) * slopeR K = ((10 : Int) : Rat) * slopeR K + slopeR B := Rat.add_comm _ _
    rw [e]
    exact kplus_any _ _ W (ten_fits K hK) fB (by rw [← e]; exact cast_fits K B hK hB) g
  have t10 : Fun1 10 (.int .i64 10) (numVal ((10 : Int) : Rat)) := fun W g => kwhole_any 10 W (by decide) (by decide) g
  have t1 : Fun1 10 (.int .i64 1) (numVal 1) := fun W g => kwhole_any 1 W (by decide) (by decide) g
  by_cases hk : slopeR K = 0
  · exact lines_flat A L C xs.length z y zs (over 1 xs) (over 100 (lineI K B xs)) _ (slopeR K) (slopeR B) _ _ _ 1 w hE hi hL (by rw [← hxs]; rfl) (over_len 1 xs) h2 h30 hpl tK tB tV hvl tP
      (l2_SLOPE h K B hK hB _ rfl hs) (l2_ICEPT h K B hK hB _ rfl hs) (l2_RSQ_flat h K B hK hB _ rfl hk) (l3_CAST h K B hK hB _ rfl hs) pT tF t10 t1 (by rw [hk, Lib.toList_data, numS_0])
  · exact lines_walk A L C xs.length z y zs (over 1 xs) (over 100 (lineI K B xs)) _ (slopeR K) (slopeR B) _ _ _ 1 w hE hi hL (by rw [← hxs]; rfl) (over_len 1 xs) h2 h30 hpl tK tB tV hvl tP
      (l2_SLOPE h K B hK hB _ rfl hs) (l2_ICEPT h K B hK hB _ rfl hs) (l2_RSQ h K B hK hB _ rfl hk hs) (l3_CAST h K B hK hB _ rfl hs) pT tF t10 t1 (fun e => hk (num_0 e))
end Go.Proofs.YtemdjmaakajhjaaGreatDoor.Num.Ft
