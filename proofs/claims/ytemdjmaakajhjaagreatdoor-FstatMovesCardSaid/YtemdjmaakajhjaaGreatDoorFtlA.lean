/- Numbers as texts of digits, fractions, values and the functions of fmath: contracts of the program's functions, joined from smaller texts. Conditions stand at each theorem. -/
import Derived.Test.YtemdjmaakajhjaaGreatDoorNumH
import Derived.Test.YtemdjmaakajhjaaGreatDoorLayA
import Derived.ProofKit
import Derived.OpenShut
import Derived.Test.YtemdjmaakajhjaaGreatDoorFtmB
import Derived.Test.YtemdjmaakajhjaaGreatDoorFtrC
import Derived.Test.YtemdjmaakajhjaaGreatDoorFtcA
import Derived.Test.YtemdjmaakajhjaaGreatDoorFtbA

/- A slice of whole numbers that came in. No conditions. -/
namespace Go.Proofs.YtemdjmaakajhjaaGreatDoor.Num
open Go.ChangeShapes Go.WideShapes Go.ChangeAt Go.RowKit Go.Lib

/-- whole numbers that came in -/
def CameI (W : World) (A : Addr) (ns : List Int) : Prop := ∀ i (h : i < ns.length), W.cell? (A.add i) = some (.int .i64 ns[i])
theorem CameI.below {W W' : World} {A : Addr} {ns : List Int} (h : CameI W A ns) (hb : Below W.heap.size W W') : CameI W' A ns := fun i hi => cell_below (h i hi) hb
/-- a slice of ints as it came in: where it lies, and its numbers -/
structure IntsIn (W : World) (A : Option Addr) (L C : Nat) (zs : List Int) : Prop where
  len : zs.length = L
  max : L ≤ 9223372036854775807
  cap : L ≤ C
  src : 0 < L → ∃ A', A = some A' ∧ CameI W A' zs
  rng : ∀ z ∈ zs, -9223372036854775808 ≤ z ∧ z ≤ 9223372036854775807
theorem IntsIn.below {W W' : World} {A : Option Addr} {L C : Nat} {zs : List Int} (h : IntsIn W A L C zs) (hb : Below W.heap.size W W') : IntsIn W' A L C zs :=
  ⟨h.len, h.max, h.cap, fun h0 => by obtain ⟨A', e, c⟩ := h.src h0; exact ⟨A', e, c.below hb⟩, h.rng⟩

set_option maxRecDepth 100000 in
theorem ints_in {H : Type} {enc : TypeId × Value → H} {W : World} {base base2 : Nat} {held : Bool} {v : Value} {d : DataW H} {p : List MemPlace} (hok : Value.okWide Tryz.prog W .any base2 22 v) (h : DataW.Trod enc Tryz.prog W base (fun _ => true) held 22 v d p) :
    ∃ A L C zs, v = .slice A L C ∧ IntsIn W A L C zs ∧ ∀ W', Below W.heap.size W W' → DataW.Trod enc Tryz.prog W' base (fun b => decide (b < W.heap.size)) held 22 v d p := by
  obtain ⟨a, len, cap, rfl⟩ := okWide_slice Tryz.underlying22 hok
  obtain ⟨fuel, hf⟩ := h
  rcases open_ints Tryz.underlying22 Tryz.underlying3 (by kernel_rfl) hf with ⟨hcs, hx⟩ | ⟨a', len', cap', zs, hcs, hb, hl, hm, hz, hx, hcell, hwz⟩
  · have hcs' : (Value.slice a len cap) = .slice none 0 0 := by simpa [Value.cells] using hcs
    injection hcs' with h1 h2 h3
    subst h1; subst h2; subst h3
    injection hx with h1 h2
    subst h1; subst h2
    exact ⟨none, 0, 0, [], rfl, ⟨rfl, by decide, Nat.le_refl _, fun h => absurd h (by decide), fun z h => (by cases h)⟩, fun W' _ => shut_slice_nil Tryz.underlying22⟩
  · have hcs' : (Value.slice a len cap) = .slice (some a') len' cap' := by simpa [Value.cells] using hcs
    injection hcs' with h1 h2 h3
    subst h1; subst h2; subst h3
    injection hx with h1 h2
    subst h1; subst h2
    have hz0 : zs.length = cap := by simpa using hz
    have hzl : len ≤ zs.length := by omega
    have hz2 : zs.length = (if decide (a'.block < W.heap.size) then cap else len) := by
      by_cases hc : 0 < cap
      · have h1 : (a'.add 0).block < W.heap.size := cell_lt (hcell 0 (by omega))
        rw [block_add] at h1
        rw [if_pos (decide_eq_true h1)]; exact hz0
      · split <;> omega
    refine ⟨some a', len, cap, zs.take len, rfl, ⟨by rw [List.length_take]; omega, by unfold maxLen at hm; omega, hl, fun _ => ⟨a', rfl, ?_⟩, fun n hn => i64_range (hwz n (List.mem_of_mem_take hn))⟩, fun W' hb' => ⟨2, shut_ints 0 Tryz.underlying22 Tryz.underlying3 (by kernel_rfl) hb hl hm hz2 (fun i hi => cell_below (hcell i hi) hb') hwz⟩⟩
    intro i hi
    have hi' : i < zs.length := by rw [List.length_take] at hi; omega
    have := hcell i hi'
    rw [List.getD_eq_getElem?_getD, List.getElem?_eq_getElem hi', Option.getD_some] at this
    rw [this, List.getElem_take]
end Go.Proofs.YtemdjmaakajhjaaGreatDoor.Num

/- The law FstatMoves at any ints and any int. Conditions: the tables lie as they are laid. -/
namespace Go.Proofs.YtemdjmaakajhjaaGreatDoor.Num.Ft
open Go.RowKit Go.Lib Num

/-- the numbers of the law's row, in hundredths -/
def movI (zs : List Int) : List Int := if 2 ≤ (arrInts zs).length then arrInts zs else [1 % 2000001 - 1000000, 5 % 2000001 - 1000000]
theorem mov_over (zs : List Int) : over 100 (movI zs) = if 2 ≤ (over 100 (arrInts zs)).length then over 100 (arrInts zs) else [hundredths 1, hundredths 5] := by
  unfold movI
  rw [over_len]
  split
  · rfl
  · rfl
theorem mov_len (zs : List Int) : 2 ≤ (movI zs).length ∧ (movI zs).length ≤ 12 := by
  unfold movI
  have := arrInts_len zs
  split
  · omega
  · exact ⟨by decide, by decide⟩
theorem mov_row (zs : List Int) : Row12 100 1000000 (movI zs) := by
  have := mov_len zs
  refine ⟨by decide, by decide, by omega, by omega, ?_, by decide⟩
  intro x hx
  unfold movI at hx
  split at hx
  · exact arrInts_le zs x hx
  · simp only [List.mem_cons, List.not_mem_nil, or_false] at hx
    rcases hx with rfl | rfl <;> decide
theorem r1_of {nm : ByteArray} {qs : List Rat} {ln : Nat} {q : Rat} (hln : qs.length = ln) (h2 : 1 ≤ ln) (h9 : ln ≤ 1000)
    (T : ∀ (gi Ci ab : Nat) (w : World), AArg w (arrVal' 1 (ln : Int) gi qs.length Ci) qs → ValsAt w gi 0 (numVals qs) → ValsAt w ab 0 [arrVal' 1 (ln : Int) gi qs.length Ci] → Env w → Calls Tryz.prog 9 #[.string nm, .slice (some ⟨ab, 0, none⟩) 1 1] w fun e w' => e = .returned (numVal q) ∧ Below w.heap.size w w') : R1 nm ln qs q := by
  intro W G g cap hb hv hE
  refine T g cap G W (.inr ⟨1, (ln : Int), g, cap, rfl, by decide, by decide, by omega, by omega, by omega, by omega, by omega, hv⟩) hv (vals_of_block hb ?_) hE
  rw [hln]; rfl
section
variable {c X : Nat} {xs : List Int} (h : Row12 c X xs)
include h
theorem r1_AVERAGE : R1 { data := #[65, 86, 69, 82, 65, 71, 69] } xs.length (over c xs) (meanR (over c xs)) :=
  r1_of (over_len c xs) (by have := h.pos; omega) (by have := h.len; omega) fun gi Ci ab w hA hv hb hE => s_AVERAGE h 1 _ gi Ci ab 0 1 w hA hv hb hE
theorem r1_DEVSQ : R1 { data := #[68, 69, 86, 83, 81] } xs.length (over c xs) (sqR (over c xs)) :=
  r1_of (over_len c xs) (by have := h.pos; omega) (by have := h.len; omega) fun gi Ci ab w hA hv hb hE => s_DEVSQ h 1 _ gi Ci ab 0 1 w hA hv hb hE
theorem r1_AVEDEV : R1 { data := #[65, 86, 69, 68, 69, 86] } xs.length (over c xs) (magsR (over c xs) / lenR (over c xs)) :=
  r1_of (over_len c xs) (by have := h.pos; omega) (by have := h.len; omega) fun gi Ci ab w hA hv hb hE => s_AVEDEV h 1 _ gi Ci ab 0 1 w hA hv hb hE
theorem r1_VAR (h2 : 2 ≤ xs.length) : R1 { data := #[86, 65, 82] } xs.length (over c xs) (sqR (over c xs) / (((xs.length : Int) - 1 : Int) : Rat)) :=
  r1_of (over_len c xs) (by have := h.pos; omega) (by have := h.len; omega) fun gi Ci ab w hA hv hb hE => s_VAR h h2 1 _ gi Ci ab 0 1 w hA hv hb hE
theorem r1_VARP : R1 { data := #[86, 65, 82, 80] } xs.length (over c xs) (sqR (over c xs) / lenR (over c xs)) :=
  r1_of (over_len c xs) (by have := h.pos; omega) (by have := h.len; omega) fun gi Ci ab w hA hv hb hE => s_VARP h 1 _ gi Ci ab 0 1 w hA hv hb hE
theorem varp_fits : fits (sqR (over c xs) / lenR (over c xs)) = true := by
  unfold lenR
  rw [over_len]
  exact h.sq_div _ (by have := h.pos; omega) (by have := h.len; omega)
theorem r2_COVAR : R2 { data := #[67, 79, 86, 65, 82] } xs.length (over c xs) (sqR (over c xs) / lenR (over c xs)) := by
  intro W G g cap hb hv hE
  have hln := over_len c xs
  have hp := h.pos
  have h30 := h.len
  have hA : AArg W (arrVal' 1 (xs.length : Int) g (over c xs).length cap) (over c xs) := .inr ⟨1, (xs.length : Int), g, cap, rfl, by decide, by decide, by omega, by omega, by omega, by omega, by omega, hv⟩
  have hg0 := items_lt hv h.len_pos
  exact s_COVAR G 0 2 (over c xs).length _ _ _ _ (meanR (over c xs)) (meanR (over c xs)) (crossR (over c xs) (over c xs)) (crossR (over c xs) (over c xs)) (sqR (over c xs)) (lenR (over c xs)) _ W (args2_two hA hA)
    (by intro qs hq; simp only [List.mem_cons, List.not_mem_nil, or_false, or_self] at hq; subst hq; exact h.each) (varp_fits h)
    (by
      intro W1 b hb1 hge hP W2 hg hE2
      have hv2 : ValsAt W2 g 0 (numVals (over c xs)) := vals_other (hv.below hb1) (hg.block g (Nat.lt_of_lt_of_le hg0 hb1.size) (fun e => by injection e with e; omega))
      have T := read_num h h rfl 1 (xs.length : Int) 1 (xs.length : Int) g g cap cap W2 hv2 hv2 hE2
      have es : crossR (over c xs) (over c xs) = sqR (over c xs) := crossR_self _
      rw [← es]
      exact T)
    (c_len h) (c_div h.sqR_fits h.len_fits (lenR_ne h.len_pos) (varp_fits h) rfl) (vals_of_block hb (by rw [hln]; rfl)) hE
theorem p2_PRODUCT (h2 : 2 ≤ xs.length) : P2 { data := #[80, 82, 79, 68, 85, 67, 84] } (sqR (over c xs) / (((xs.length : Int) - 1 : Int) : Rat)) (((xs.length : Int) - 1 : Int) : Rat) (sqR (over c xs)) := by
  intro W G hb hE
  have h30 := h.len
  have hn0 := int_ne (b := (xs.length : Int) - 1) (by omega)
  have fk := h.sq_div ((xs.length : Int) - 1) (by omega) (by omega)
  have fn : fits ((((xs.length : Int) - 1 : Int)) : Rat) = true := fits_int _ (by omega)
  have e2 : prodL [sqR (over c xs) / (((xs.length : Int) - 1 : Int) : Rat), (((xs.length : Int) - 1 : Int) : Rat)] = sqR (over c xs) := by
    show 1 * (sqR (over c xs) / (((xs.length : Int) - 1 : Int) : Rat)) * (((xs.length : Int) - 1 : Int) : Rat) = _
    grind
  have e1 : prodL [sqR (over c xs) / (((xs.length : Int) - 1 : Int) : Rat)] = sqR (over c xs) / (((xs.length : Int) - 1 : Int) : Rat) := by
    show 1 * (sqR (over c xs) / (((xs.length : Int) - 1 : Int) : Rat)) = _
    exact Rat.one_mul _
  have T := m_PRODUCT [sqR (over c xs) / (((xs.length : Int) - 1 : Int) : Rat), (((xs.length : Int) - 1 : Int) : Rat)] G 0 2 W (show 0 < 2 by decide) (show 2 ≤ 255 by decide)
    (by intro q hq; simp only [List.mem_cons, List.not_mem_nil, or_false] at hq; rcases hq with rfl | rfl; exact fk; exact fn)
    (by
      intro k hk
      match k, hk with
      | 0, _ => exact f1
      | 1, _ => show fits (prodL [_]) = true; rw [e1]; exact fk
      | 2, _ => show fits (prodL [_, _]) = true; rw [e2]; exact h.sqR_fits)
    (vals_of_block hb rfl) hE
  rw [e2] at T
  exact T
end
theorem moves_any (A : Option Addr) (L C : Nat) (zs : List Int) (z : Int) (w : World) (hi : IntsIn w A L C zs) (hz0 : -9223372036854775808 ≤ z) (hz1 : z ≤ 9223372036854775807) (hE : EnvY w) :
    Calls Tryz.prog 3 #[.slice A L C, .int .i64 z] w fun e w' => e = .returned (.bool true) ∧ Below w.heap.size w w' := by
  have h := mov_row zs
  obtain ⟨hl2, hl9⟩ := mov_len zs
  obtain ⟨t, ht⟩ : ∃ t, z % 2000001 - 1000000 = t := ⟨_, rfl⟩
  have htb : t.natAbs ≤ 1000000 := by omega
  have k := h.shift t htb (by decide)
  have hsl : ((movI zs).map (· + t)).length = (movI zs).length := List.length_map ..
  have hdt : hundredths z = (t : Rat) / ((100 : Nat) : Rat) := by rw [hundredths_over, ht]
  have hps : (over 100 (movI zs)).map (· + hundredths z) = over 100 ((movI zs).map (· + t)) := by rw [hdt]; exact over_shift 100 _ t (by decide)
  have em := mean_shift 100 (movI zs) t (by decide) h.pos
  have es := sq_shift 100 (movI zs) t (by decide) h.pos
  have eg := mags_shift 100 (movI zs) t (by decide) h.pos
  have el : lenR (over 100 ((movI zs).map (· + t))) = lenR (over 100 (movI zs)) := by unfold lenR; rw [over_len, over_len, hsl]
  have rA2 := r1_AVERAGE k
  have rV2 := r1_VAR k (by rw [hsl]; exact hl2)
  have rD2 := r1_AVEDEV k
  rw [em, ← hdt, hsl] at rA2
  rw [es, hsl] at rV2
  rw [eg, el, hsl] at rD2
  have hA : ArrC w (.slice A L C) (over 100 (arrInts zs)) := by
    intro W hb ge
    by_cases h0 : zs = []
    · have hL0 : L = 0 := by rw [← hi.len, h0]; rfl
      subst hL0
      refine (karr_none A C W ge).mono ?_
      rintro e w' ⟨rfl, hq⟩
      refine ⟨numVal' (hundredths 0), 1, rfl, .inl ⟨_, rfl, ?_, rfl, rfl⟩, hq⟩
      rw [h0]
      exact arr_none.symm
    · have hlp : 0 < L := by rw [← hi.len]; exact List.length_pos_iff.2 h0
      obtain ⟨A', rfl, hc⟩ := hi.src hlp
      rw [← arr_some h0]
      exact (karr_some A' zs L C W hi.len hlp hi.max hi.cap hi.rng (hc.below hb) ge)
  exact moves_walk A L C (movI zs).length z (over 100 (arrInts zs)) (over 100 (movI zs)) (over 100 ((movI zs).map (· + t))) (hundredths z) _ _ _ _ _ _ _ w hE hA (mov_over zs) (over_len _ _) hl2 hl9 (by rw [over_len, hsl])
    (fun W g => knumber_any z hz0 hz1 W g)
    (fun i hi1 hi2 => by
      have e : (over 100 ((movI zs).map (· + t)))[i] = (over 100 (movI zs))[i] + hundredths z := by
        simp only [← hps, List.getElem_map]
      rw [e]
      exact fun W g => kplus_any _ _ W (h.each _ (List.getElem_mem hi1)) (fits_hundredths z) (by rw [← e]; exact k.each _ (List.getElem_mem hi2)) g)
    (r1_AVERAGE h) (r1_VAR h hl2) (r1_AVEDEV h) (r1_DEVSQ h) (r1_VARP h) (r2_COVAR h) rA2 rV2 rD2
    (fun W g => kplus_any _ _ W h.mean (fits_hundredths z) (by rw [hdt, ← em]; exact k.mean) g)
    (fun W g => kwhole_any _ W (by omega) (by omega) g) (p2_PRODUCT h hl2)
end Go.Proofs.YtemdjmaakajhjaaGreatDoor.Num.Ft
