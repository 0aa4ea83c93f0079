/- Numbers as texts of digits, fractions, values and the functions of fmath: contracts of the program's functions, joined from smaller texts. Conditions stand at each theorem. -/
import Derived.Test.YtkghpiaoggljjaaGreatDoorNumC

/- package exact's closures of addition, subtraction, multiplication and division. Conditions: the parts have at most 400 limbs. -/
namespace Go.Proofs.YtkghpiaoggljjaaGreatDoor.Num
open Go.RowKit Go.Lib

/-- what an operation of two numbers leaves -/
def OpRet (R : Rat) (w : World) (e : Ending) (w' : World) : Prop :=
 ∃ s n d A L C A' L' C', e = .returned (.tuple #[.agg #[.bool s, .slice A L C, .slice A' L' C'], .int .i64 0]) ∧ (ratOf s n d = R ∧ d ≠ 0 ∧ (digs LB n).length ≤ 1000000 ∧ (digs LB d).length ≤ 1000000) ∧ NatAt w' (.slice A L C) n ∧ NatAt w' (.slice A' L' C') d ∧ Below w.heap.size w w'
theorem sum_len (m k : Bool) {p q K : Nat} (hp : (digs LB p).length ≤ K) (hq : (digs LB q).length ≤ K) : (digs LB (sumNum m k p q)).length ≤ K + 1 := by
 unfold sumNum
 split
 ·exact digs_len_add hp hq
 ·split
  ·exact Nat.le_succ_of_le (Nat.le_trans (digs_len_mono LB_two (Nat.sub_le p q)) hp)
  ·exact Nat.le_succ_of_le (Nat.le_trans (digs_len_mono LB_two (Nat.sub_le q p)) hq)

set_option maxHeartbeats 4000000 in
set_option maxRecDepth 100000 in
theorem add_op (m k : Bool) (v1 v2 u1 u2 : Value) (a b c d : Nat) (w : World) (h1 : NatAt w v1 a) (h2 : NatAt w v2 b) (h3 : NatAt w u1 c) (h4 : NatAt w u2 d) (hb0 : b ≠ 0) (hd0 : d ≠ 0)
  (l1 : (digs LB a).length ≤ 400) (l2 : (digs LB b).length ≤ 400) (l3 : (digs LB c).length ≤ 400) (l4 : (digs LB d).length ≤ 400) :
  Calls Tryz.prog 310 #[.agg #[.bool m, v1, v2], .agg #[.bool k, u1, u2]] w (OpRet (ratOf m a b + ratOf k c d) w) := by
 rw [ratOf_add m k a b c d hb0 hd0]
 have LEN := Lib.hid (And.intro (sum_len m k (p := a * d) (q := c * b) (K := 800) (digs_len_mul l1 l4) (digs_len_mul l3 l2)) (digs_len_mul l2 l4))
 have ND := Lib.hid (Nat.mul_ne_zero hb0 hd0)
 obtain ⟨A1, L1, C1, rfl⟩ := h1.shape
 obtain ⟨A2, L2, C2, rfl⟩ := h2.shape
 obtain ⟨A3, L3, C3, rfl⟩ := h3.shape
 obtain ⟨A4, L4, C4, rfl⟩ := h4.shape
 have T := Lib.hid (fun W g1 g2 g3 g4 => sum_any m k (.slice A1 L1 C1) (.slice A2 L2 C2) (.slice A3 L3 C3) (.slice A4 L4 C4) a b c d W g1 g2 g3 g4 (by omega) (by omega) (by omega) (by omega))
 obtain ⟨hx, hy, hr, hb⟩ := three_new w (.cells #[.bool m, .slice A1 L1 C1, .slice A2 L2 C2] 80) (.cells #[.bool k, .slice A3 L3 C3, .slice A4 L4 C4] 80) (.cells #[.bool false, .slice none 0 0, .slice none 0 0] 80)
 have HX := Lib.hid hx
 have HY := Lib.hid hy
 have HR := Lib.hid hr
 have N1 := Lib.hid (h1.below hb)
 have N2 := Lib.hid (h2.below hb)
 have N3 := Lib.hid (h3.below hb)
 have N4 := Lib.hid (h4.below hb)
 have HL := Lib.hid hb
 clear h1 h2 h3 h4 hx hy hr hb l1 l2 l3 l4 hb0 hd0
 have hnot : ∀ (x : Bool) (w : World), (Op.unary .not (.bool x)).run Tryz.prog w = .ok (.bool (!x)) w := fun _ _ => rfl
 go_enter Tryz.func310, Tryz.ntmps310
 go_wp2_with fail
 refine (T.out _ N1.out N2.out N3.out N4.out).mono ?_
 rintro e W1 ⟨A5, L5, C5, A6, L6, C6, rfl, h5, h6, hb⟩
 have N5 := Lib.hid h5
 have N6 := Lib.hid h6
 clear h5 h6
 replace HR := Lib.hid (keep_block HR.out hb)
 replace HL := Lib.hid (HL.out.trans (hb.mono HL.out.size))
 clear hb
 obtain ⟨⟨r0, r1, r2⟩, rf0, rf1, rf2⟩ := three_at HR.out
 go_wp2
 obtain ⟨⟨n1, n2, nb⟩, e0, e1, e2⟩ := num_end (s := sumSign m k (a * d) (c * b)) HR.out HL.out (by omega) N5.out N6.out
 refine bodyPost_ret (v := .tuple #[.agg #[.bool (sumSign m k (a * d) (c * b)), .slice A5 L5 C5, .slice A6 L6 C6], .int .i64 0]) (by simp [results, Tryz.results310, go_sem, e0, e1, e2]) rfl ⟨_, _, _, _, _, _, _, _, _, rfl, ⟨rfl, ND.out, by have := LEN.out.1; omega, by have := LEN.out.2; omega⟩, n1, n2, nb⟩

end Go.Proofs.YtkghpiaoggljjaaGreatDoor.Num

/- package exact's 'two', Add, Sub, Mul, Div. Conditions: the fractions are valid; strconv's table of powers of ten lies as it is laid. -/
namespace Go.Proofs.YtkghpiaoggljjaaGreatDoor.Num
open Go.RowKit Go.Lib

theorem wroteV_shape (R : Rat) : ∃ x y c, wroteV R = .tuple #[.agg #[.string x, .string y], .int .i64 c] := by
 by_cases h : fits R = true
 ·rw [wroteV_ok h, fracV_is]; exact ⟨_, _, _, rfl⟩
 ·rw [wroteV_no (by simpa using h)]; exact ⟨_, _, _, rfl⟩
theorem frac_end {w W : World} {R : Nat} {T : TypeId} {x y x0 y0 : Value} (hR : W.heap[R]? = some (.cells #[x0, y0] T (0, 0))) (hb : Below w.heap.size w W) (hge : w.heap.size ≤ R) :
  Below w.heap.size w ((W.setCell ⟨R, 0, none⟩ x).setCell ⟨R, 1, none⟩ y) ∧ ((W.setCell ⟨R, 0, none⟩ x).setCell ⟨R, 1, none⟩ y).cell? ⟨R, 0, none⟩ = some x ∧ ((W.setCell ⟨R, 0, none⟩ x).setCell ⟨R, 1, none⟩ y).cell? ⟨R, 1, none⟩ = some y := by
 have h2 := set2_at hR x y
 exact ⟨(hb.setCell (p := ⟨R, 0, none⟩) hge _).setCell (p := ⟨R, 1, none⟩) hge _, Lib.cell_of_heap h2 0, Lib.cell_of_heap h2 1⟩
theorem fits_limbs {q : Rat} (h : fits q = true) : (digs LB (up q)).length ≤ 300 ∧ (digs LB q.den).length ≤ 300 := ⟨dec_limbs (fits_up h) (by decide), dec_limbs (fits_den h) (by decide)⟩
set_option maxHeartbeats 4000000 in
set_option maxRecDepth 100000 in
theorem two_ok (p q R : Rat) (F : FuncId) (w : World) (hp : fits p = true) (hq : fits q = true) (ht : Tab w) (eF : ∀ args w, (callFunc F args).run Tryz.prog w = .ok (.enter F args) w)
  (hF : ∀ W v1 v2 u1 u2, NatAt W v1 (up p) → NatAt W v2 p.den → NatAt W u1 (up q) → NatAt W u2 q.den → Calls Tryz.prog F #[.agg #[.bool (neg p), v1, v2], .agg #[.bool (neg q), u1, u2]] W (OpRet R W)) :
  Calls Tryz.prog 255 #[fracV p, fracV q, .func (.func F) #[] #[]] w fun e w' => e = .returned (wroteV R) ∧ Below w.heap.size w w' := by
 have TB := Lib.hid (fun W => both_ok p q W hp hq)
 obtain ⟨rx, ry, rc, hw⟩ := wroteV_shape R
 have HWR := Lib.hid hw
 rw [hw]
 rw [fracV_is p, fracV_is q] at TB ⊢
 have HF := Lib.hid hF
 obtain ⟨hx, hy, hr, hb⟩ := three_new w (.cells #[.string (numS p), .string (denS p)] 24) (.cells #[.string (numS q), .string (denS q)] 24) (.cells #[.string { data := #[] }, .string { data := #[] }] 24)
 obtain ⟨W0, hW0⟩ : ∃ W0, ((w.alloc (.cells #[.string (numS p), .string (denS p)] 24)).alloc (.cells #[.string (numS q), .string (denS q)] 24)).alloc (.cells #[.string { data := #[] }, .string { data := #[] }] 24) = W0 := ⟨_, rfl⟩
 rw [hW0] at hx hy hr hb
 have HR := Lib.hid hr
 have HL := Lib.hid hb
 have HW := Lib.hid hW0
 have HT := Lib.hid (ht.below hb)
 clear hx hy hr hb hW0 hw hF ht hp hq
 go_enter Tryz.func255, Tryz.ntmps255
 go_wp2_with fail
 rw [HW.out]
 refine (TB.out _).mono ?_
 rintro e W1 ⟨A1, L1, C1, A2, L2, C2, A3, L3, C3, A4, L4, C4, rfl, ⟨h1, h2⟩, ⟨h3, h4⟩, hb⟩
 have N1 := Lib.hid h1
 have N2 := Lib.hid h2
 have N3 := Lib.hid h3
 have N4 := Lib.hid h4
 clear h1 h2 h3 h4
 replace HR := Lib.hid (keep_block HR.out hb)
 replace HT := Lib.hid (HT.out.below hb)
 replace HL := Lib.hid (HL.out.trans (hb.mono HL.out.size))
 clear hb
 have hb : Below W1.heap.size W1 ((W1.alloc (.cells #[.bool (neg p), .slice A1 L1 C1, .slice A2 L2 C2] 80)).alloc (.cells #[.bool (neg q), .slice A3 L3 C3, .slice A4 L4 C4] 80)) := ((Below.refl _ _).alloc (Nat.le_refl _) _).alloc (by simp) _
 replace HR := Lib.hid (keep_block HR.out hb)
 replace HT := Lib.hid (HT.out.below hb)
 replace N1 := Lib.hid (N1.out.below hb)
 replace N2 := Lib.hid (N2.out.below hb)
 replace N3 := Lib.hid (N3.out.below hb)
 replace N4 := Lib.hid (N4.out.below hb)
 replace HL := Lib.hid (HL.out.trans (hb.mono HL.out.size))
 clear hb
 go_wp2_with fail
 refine (HF.out _ _ _ _ _ N1.out N2.out N3.out N4.out).mono ?_
 rintro e W2 ⟨s, n, d, A5, L5, C5, A6, L6, C6, rfl, ⟨hR, hd0, hln, hld⟩, h5, h6, hb⟩
 have HRR := Lib.hid hR
 have HLN := Lib.hid (And.intro hd0 (And.intro hln hld))
 have N5 := Lib.hid h5
 have N6 := Lib.hid h6
 clear hR hd0 hln hld h5 h6
 replace HR := Lib.hid (keep_block HR.out hb)
 replace HT := Lib.hid (HT.out.below hb)
 replace HL := Lib.hid (HL.out.trans (hb.mono HL.out.size))
 clear hb
 have hb : Below W2.heap.size W2 (W2.alloc (.cells #[.bool s, .slice A5 L5 C5, .slice A6 L6 C6] 80)) := (Below.refl _ _).alloc (Nat.le_refl _) _
 replace HR := Lib.hid (keep_block HR.out hb)
 replace HT := Lib.hid (HT.out.below hb)
 replace N5 := Lib.hid (N5.out.below hb)
 replace N6 := Lib.hid (N6.out.below hb)
 replace HL := Lib.hid (HL.out.trans (hb.mono HL.out.size))
 clear hb
 have TW := numWrite_any s (.slice A5 L5 C5) (.slice A6 L6 C6) n d (W2.alloc (.cells #[.bool s, .slice A5 L5 C5, .slice A6 L6 C6] 80)) HLN.out.1 N5.out N6.out HT.out HLN.out.2.1 HLN.out.2.2
 rw [HRR.out, HWR.out] at TW
 have TWH := Lib.hid TW
 clear TW
 go_wp2_with fail
 refine TWH.out.mono ?_
 rintro e W3 ⟨rfl, hb⟩
 replace HR := Lib.hid (keep_block HR.out hb)
 replace HL := Lib.hid (HL.out.trans (hb.mono HL.out.size))
 clear hb
 obtain ⟨⟨r0, r1⟩, rf0, rf1⟩ := two_at HR.out
 obtain ⟨nb, e0, e1⟩ := frac_end (x := .string rx) (y := .string ry) HR.out HL.out (by omega)
 go_wp2
 refine bodyPost_ret (v := .tuple #[.agg #[.string rx, .string ry], .int .i64 rc]) (by simp [results, Tryz.results255, go_sem, e0, e1]) rfl ⟨rfl, nb⟩
end Go.Proofs.YtkghpiaoggljjaaGreatDoor.Num

/- package exact's Add, Sub, Mul, Div. Conditions: the fractions are valid; strconv's table of powers of ten lies as it is laid. -/
namespace Go.Proofs.YtkghpiaoggljjaaGreatDoor.Num
open Go.RowKit Go.Lib

set_option maxHeartbeats 4000000 in
set_option maxRecDepth 100000 in
theorem add_any (p q : Rat) (w : World) (hp : fits p = true) (hq : fits q = true) (ht : Tab w) :
  Calls Tryz.prog 253 #[fracV p, fracV q] w fun e w' => e = .returned (wroteV (p + q)) ∧ Below w.heap.size w w' := by
 have TT := Lib.hid (fun W g => two_ok p q (p + q) 310 W hp hq g (enters_of Tryz.func310 (by kernel_rfl) rfl) (fun W v1 v2 u1 u2 h1 h2 h3 h4 => by
  have h := add_op (neg p) (neg q) v1 v2 u1 u2 (up p) p.den (up q) q.den W h1 h2 h3 h4 p.den_nz q.den_nz (by have := fits_limbs hp; omega) (by have := fits_limbs hp; omega) (by have := fits_limbs hq; omega) (by have := fits_limbs hq; omega)
  rw [ratOf_self, ratOf_self] at h
  exact h))
 obtain ⟨rx, ry, rc, hw⟩ := wroteV_shape (p + q)
 rw [hw] at TT ⊢
 clear hw
 rw [fracV_is p, fracV_is q] at TT ⊢
 obtain ⟨hx, hy, hr, hb⟩ := three_new w (.cells #[.string (numS p), .string (denS p)] 24) (.cells #[.string (numS q), .string (denS q)] 24) (.cells #[.string { data := #[] }, .string { data := #[] }] 24)
 have HR := Lib.hid hr
 have HL := Lib.hid hb
 have HT := Lib.hid (ht.below hb)
 clear hx hy hr hb ht hp hq
 go_enter Tryz.func253, Tryz.ntmps253
 go_wp2_with fail
 refine (TT.out _ HT.out).mono ?_
 rintro e W1 ⟨rfl, hb⟩
 replace HR := Lib.hid (keep_block HR.out hb)
 replace HL := Lib.hid (HL.out.trans (hb.mono HL.out.size))
 clear hb
 obtain ⟨⟨r0, r1⟩, rf0, rf1⟩ := two_at HR.out
 obtain ⟨nb, e0, e1⟩ := frac_end (x := .string rx) (y := .string ry) HR.out HL.out (by omega)
 go_wp2
 refine bodyPost_ret (v := .tuple #[.agg #[.string rx, .string ry], .int .i64 rc]) (by simp [results, Tryz.results253, go_sem, e0, e1]) rfl ⟨rfl, nb⟩

end Go.Proofs.YtkghpiaoggljjaaGreatDoor.Num

/- package exact's Check, Neg, Floor, Compare, Int, Ratio. Conditions: the fractions are valid; strconv's table of powers of ten lies as it is laid. -/
namespace Go.Proofs.YtkghpiaoggljjaaGreatDoor.Num
open Go.RowKit Go.Lib

theorem neg_iff (r : Rat) : neg r = true ↔ r < 0 := by
 unfold neg
 rw [decide_eq_true_iff, ← Rat.not_le, ← Rat.num_nonneg]
 omega
/-- how two fractions compare -/
def cmpR (p q : Rat) : Int := if p = q then 0 else if p < q then -1 else 1
theorem cmp_of {p q : Rat} {s : Bool} {n d : Nat} (h : ratOf s n d = p - q) (hd : d ≠ 0) : cmpR p q = if n = 0 then 0 else if s then -1 else 1 := by
 unfold cmpR
 by_cases hn : n = 0
 ·subst hn
  rw [ratOf_zero] at h
  rw [if_pos rfl, if_pos]
  have h2 : p - q + q = p := Rat.sub_add_cancel
  rw [← h, Rat.zero_add] at h2
  exact h2.symm
 ·rw [if_neg hn]
  have hs := ratOf_neg s n hd
  rw [h, decide_eq_true hn, Bool.and_true] at hs
  have hne : p ≠ q := by
   rintro rfl
   rw [Rat.sub_self] at h
   have := ratOf_up s n hd
   rw [h] at this
   have h3 : n.gcd d ≤ n := Nat.gcd_le_left d (Nat.pos_of_ne_zero hn)
   have h4 : 0 < n.gcd d := Nat.gcd_pos_of_pos_left _ (Nat.pos_of_ne_zero hn)
   have h5 := Nat.div_pos h3 h4
   rw [← this] at h5
   exact absurd h5 (by decide)
  rw [if_neg hne]
  have hlt : (p < q) ↔ s = true := by
   rw [← hs, neg_iff, Rat.lt_iff_sub_pos p q, Rat.lt_iff_sub_pos (p - q) 0]
   have : (0 : Rat) - (p - q) = q - p := by rw [Rat.sub_eq_add_neg, Rat.zero_add, Rat.neg_sub]
   rw [this]
  cases s with
  | true => rw [if_pos (hlt.2 rfl), if_pos rfl]
  | false => rw [if_neg (fun h => absurd (hlt.1 h) (by decide)), if_neg (by decide)]
theorem neg_of (q : Rat) : ratOf (!neg q) (up q) q.den = -q := by rw [← ratOf_negate, ratOf_self]
/-- the quotient that rounding down makes -/
def floorNum (q : Rat) : Nat := up q / q.den + if neg q = true ∧ up q % q.den ≠ 0 then 1 else 0
theorem floor_of (q : Rat) : ratOf (neg q) (floorNum q) 1 = ((q.floor : Int) : Rat) := by
 rw [ratOf_floor]
 unfold ratOf floorNum
 rw [Rat.mkRat_one]
 congr 1
 cases h : neg q
 ·simp
 ·by_cases h0 : up q % q.den = 0 <;> simp [h0]
theorem floor_len {q : Rat} (h : (digs LB (up q)).length ≤ 300) : (digs LB (floorNum q)).length ≤ 301 := by
 unfold floorNum
 have h1 := div_limbs (g := q.den) h
 split
 ·exact digs_len_add h1 (by rw [show (1 : Nat) = 1 from rfl, digs_pos LB_two (by decide), show 1 / LB = 0 from by decide, digs_zero]; decide)
 ·rw [Nat.add_zero]; omega
theorem digs_one : digs LB 1 = [1] := by
 rw [digs_pos LB_two (by decide), show 1 / LB = 0 from by decide, digs_zero]; rfl
theorem one_new (w : World) (T : TypeId) : NatAt (w.alloc (.cells #[.int .u32 1] T)) (.slice (some ⟨w.heap.size, 0, none⟩) 1 1) 1 := by
 unfold NatAt
 rw [digs_one]
 refine ⟨_, _, rfl, Nat.le_refl _, fun i hi => ⟨w.heap.size, 0, rfl, ?_⟩⟩
 have : i = 0 := by simp at hi; omega
 subst this
 rw [Lib.cell_of_heap (heap_alloc_new w _) (0 + 0)]; rfl

set_option maxHeartbeats 4000000 in
set_option maxRecDepth 100000 in
theorem check_ok (q : Rat) (w : World) (hq : fits q = true) : Calls Tryz.prog 72 #[fracV q] w fun e w' => e = .returned (.int .i64 0) ∧ Below w.heap.size w w' := by
 have T := Lib.hid (fun W => read_s q W hq)
 rw [fracV_is q] at T ⊢
 have hb : Below w.heap.size w (w.alloc (.cells #[.string (numS q), .string (denS q)] 24)) := (Below.refl _ _).alloc (Nat.le_refl _) _
 have HL := Lib.hid hb
 clear hb hq
 go_enter Tryz.func72, Tryz.ntmps72
 go_wp2_with fail
 refine (T.out _).mono ?_
 rintro e W1 ⟨A1, L1, C1, A2, L2, C2, rfl, _, hb⟩
 replace HL := Lib.hid (HL.out.trans (hb.mono HL.out.size))
 clear hb
 have HZ := Lib.hid HL.out.size
 go_wp2
 go_ret
 exact ⟨rfl, HL.out.alloc HZ.out _⟩

set_option maxHeartbeats 4000000 in
set_option maxRecDepth 100000 in
theorem compare_q (p q : Rat) (w : World) (hp : fits p = true) (hq : fits q = true) : Calls Tryz.prog 26 #[fracV p, fracV q] w fun e w' => e = .returned (.tuple #[.int .i64 (cmpR p q), .int .i64 0]) ∧ Below w.heap.size w w' := by
 have T := Lib.hid (fun W => both_ok p q W hp hq)
 have TS := Lib.hid (fun W v1 v2 u1 u2 h1 h2 h3 h4 => sum_any (neg p) (!neg q) v1 v2 u1 u2 (up p) p.den (up q) q.den W h1 h2 h3 h4 (by have := fits_limbs hp; omega) (by have := fits_limbs hp; omega) (by have := fits_limbs hq; omega) (by have := fits_limbs hq; omega))
 have hsum := ratOf_add (neg p) (!neg q) (up p) p.den (up q) q.den p.den_nz q.den_nz
 rw [neg_of, ratOf_self, ← Rat.sub_eq_add_neg] at hsum
 have hcmp := cmp_of hsum.symm (Nat.mul_ne_zero p.den_nz q.den_nz)
 obtain ⟨s, hs⟩ : ∃ s, sumSign (neg p) (!neg q) (up p * q.den) (up q * p.den) = s := ⟨_, rfl⟩
 obtain ⟨n, hn⟩ : ∃ n, sumNum (neg p) (!neg q) (up p * q.den) (up q * p.den) = n := ⟨_, rfl⟩
 rw [hs, hn] at TS hcmp
 have HCM := Lib.hid hcmp
 obtain ⟨cc, hcc⟩ : ∃ c, cmpR p q = c := ⟨_, rfl⟩
 have HCC := Lib.hid hcc
 rw [hcc]
 clear hsum hcmp hs hn hcc hp hq
 rw [fracV_is p, fracV_is q] at T ⊢
 have hb : Below w.heap.size w ((w.alloc (.cells #[.string (numS p), .string (denS p)] 24)).alloc (.cells #[.string (numS q), .string (denS q)] 24)) := ((Below.refl _ _).alloc (Nat.le_refl _) _).alloc (by simp) _
 have HL := Lib.hid hb
 clear hb
 have hnot : ∀ (x : Bool) (w : World), (Op.unary .not (.bool x)).run Tryz.prog w = .ok (.bool (!x)) w := fun _ _ => rfl
 go_enter Tryz.func26, Tryz.ntmps26
 go_wp2_with fail
 refine (T.out _).mono ?_
 rintro e W1 ⟨A1, L1, C1, A2, L2, C2, A3, L3, C3, A4, L4, C4, rfl, ⟨h1, h2⟩, ⟨h3, h4⟩, hb⟩
 have N1 := Lib.hid h1
 have N2 := Lib.hid h2
 have N3 := Lib.hid h3
 have N4 := Lib.hid h4
 clear h1 h2 h3 h4
 replace HL := Lib.hid (HL.out.trans (hb.mono HL.out.size))
 clear hb
 have hb : Below W1.heap.size W1 ((W1.alloc (.cells #[.bool (neg p), .slice A1 L1 C1, .slice A2 L2 C2] 80)).alloc (.cells #[.bool (!neg q), .slice A3 L3 C3, .slice A4 L4 C4] 80)) := ((Below.refl _ _).alloc (Nat.le_refl _) _).alloc (by simp) _
 replace N1 := Lib.hid (N1.out.below hb)
 replace N2 := Lib.hid (N2.out.below hb)
 replace N3 := Lib.hid (N3.out.below hb)
 replace N4 := Lib.hid (N4.out.below hb)
 replace HL := Lib.hid (HL.out.trans (hb.mono HL.out.size))
 clear hb
 go_wp2_with fail
 refine (TS.out _ _ _ _ _ N1.out N2.out N3.out N4.out).mono ?_
 rintro e W2 ⟨A5, L5, C5, A6, L6, C6, rfl, h5, h6, hb⟩
 have N5 := Lib.hid h5
 clear h5 h6
 replace HL := Lib.hid (HL.out.trans (hb.mono HL.out.size))
 clear hb
 have hb : Below W2.heap.size W2 (W2.alloc (.cells #[.bool s, .slice A5 L5 C5, .slice A6 L6 C6] 80)) := (Below.refl _ _).alloc (Nat.le_refl _) _
 replace N5 := Lib.hid (N5.out.below hb)
 replace HL := Lib.hid (HL.out.trans (hb.mono HL.out.size))
 clear hb
 go_wp2_with fail
 refine (zero_any _ n _ N5.out).mono ?_
 rintro e W3 ⟨rfl, rfl⟩
 by_cases h0 : n = 0
 ·have hd : decide (n = 0) = true := decide_eq_true h0
  have HE : Hid (cc = 0) := by rw [← HCC.out, HCM.out, if_pos h0]; exact Lib.hid rfl
  clear h0
  rw [hd]
  go_wp2
  go_ret2
  exact ⟨by rw [HE.out]; rfl, HL.out⟩
 ·have hd : decide (n = 0) = false := decide_eq_false h0
  rw [hd]
  cases s with
  | true =>
   have HE : Hid (cc = -1) := by rw [← HCC.out, HCM.out, if_neg h0, if_pos rfl]; exact Lib.hid rfl
   clear h0
   go_wp2
   go_ret2
   exact ⟨by rw [HE.out]; rfl, HL.out⟩
  | false =>
   have HE : Hid (cc = 1) := by rw [← HCC.out, HCM.out, if_neg h0, if_neg (by decide)]; exact Lib.hid rfl
   clear h0
   go_wp2
   go_ret2
   exact ⟨by rw [HE.out]; rfl, HL.out⟩
end Go.Proofs.YtkghpiaoggljjaaGreatDoor.Num

/- package exact's Floor, Int, Ratio. Conditions: the fractions are valid; strconv's table of powers of ten lies as it is laid. -/
namespace Go.Proofs.YtkghpiaoggljjaaGreatDoor.Num
open Go.RowKit Go.Lib

theorem limbs_one : (digs LB 1).length = 1 := by rw [digs_one]; rfl

set_option maxHeartbeats 4000000 in
set_option maxRecDepth 100000 in
theorem floor_any (q : Rat) (w : World) (hq : fits q = true) (ht : Tab w) : Calls Tryz.prog 162 #[fracV q] w fun e w' => e = .returned (wroteV ((q.floor : Int) : Rat)) ∧ Below w.heap.size w w' := by
 have T := Lib.hid (fun W => read_s q W hq)
 have TD := Lib.hid (fun W v1 v2 h1 h2 => divide_any v1 v2 (up q) q.den W h1 h2 q.den_nz (by have := fits_limbs hq; omega) (by have := fits_limbs hq; omega))
 have TP := Lib.hid (fun W v1 v2 h1 h2 => calls_shaped (plus_any v1 v2 (up q / q.den) 1 W h1 h2 (by have := div_limbs (g := q.den) (fits_limbs hq).1; omega) (by have := limbs_one; omega)))
 have TW := Lib.hid (fun W v1 v2 h1 h2 g => numWrite_any (neg q) v1 v2 (floorNum q) 1 W (by decide) h1 h2 g (by have := floor_len (fits_limbs hq).1; omega) (by have := limbs_one; omega))
 rw [floor_of] at TW
 obtain ⟨rx, ry, rc, hw⟩ := wroteV_shape ((q.floor : Int) : Rat)
 rw [hw] at TW ⊢
 clear hw
 have HFN := Lib.hid (show floorNum q = up q / q.den + if neg q = true ∧ up q % q.den ≠ 0 then 1 else 0 from rfl)
 obtain ⟨fn, hfn⟩ : ∃ n, floorNum q = n := ⟨_, rfl⟩
 rw [hfn] at TW HFN
 rw [fracV_is q] at T ⊢
 have hb : Below w.heap.size w ((w.alloc (.cells #[.string (numS q), .string (denS q)] 24)).alloc (.cells #[.string { data := #[] }, .string { data := #[] }] 24)) := ((Below.refl _ _).alloc (Nat.le_refl _) _).alloc (by simp) _
 have hr := heap_alloc_new (w.alloc (.cells #[.string (numS q), .string (denS q)] 24)) (.cells #[.string { data := #[] }, .string { data := #[] }] 24)
 rw [World.size_alloc] at hr
 have HR := Lib.hid hr
 have HL := Lib.hid hb
 have HT := Lib.hid (ht.below hb)
 clear hb hr ht hq hfn
 have hnot : ∀ (x : Bool) (w : World), (Op.unary .not (.bool x)).run Tryz.prog w = .ok (.bool (!x)) w := fun _ _ => rfl
 go_enter Tryz.func162, Tryz.ntmps162
 go_wp2_with fail
 refine (T.out _).mono ?_
 rintro e W1 ⟨A1, L1, C1, A2, L2, C2, rfl, ⟨h1, h2⟩, hb⟩
 have N1 := Lib.hid h1
 have N2 := Lib.hid h2
 clear h1 h2
 replace HR := Lib.hid (keep_block HR.out hb)
 replace HT := Lib.hid (HT.out.below hb)
 replace HL := Lib.hid (HL.out.trans (hb.mono HL.out.size))
 clear hb
 have hb : Below W1.heap.size W1 (W1.alloc (.cells #[.bool (neg q), .slice A1 L1 C1, .slice A2 L2 C2] 80)) := (Below.refl _ _).alloc (Nat.le_refl _) _
 have HX := Lib.hid (heap_alloc_new W1 (.cells #[.bool (neg q), .slice A1 L1 C1, .slice A2 L2 C2] 80))
 replace HR := Lib.hid (keep_block HR.out hb)
 replace HT := Lib.hid (HT.out.below hb)
 replace N1 := Lib.hid (N1.out.below hb)
 replace N2 := Lib.hid (N2.out.below hb)
 replace HL := Lib.hid (HL.out.trans (hb.mono HL.out.size))
 clear hb
 go_wp2_with fail
 refine (TD.out _ _ _ N1.out N2.out).mono ?_
 rintro e W2 ⟨vq, vr, rfl, h3, h4, hb⟩
 obtain ⟨A3, L3, C3, rfl⟩ := h3.shape
 obtain ⟨A4, L4, C4, rfl⟩ := h4.shape
 have N3 := Lib.hid h3
 have N4 := Lib.hid h4
 clear h3 h4
 replace HR := Lib.hid (keep_block HR.out hb)
 replace HX := Lib.hid (keep_block HX.out hb)
 replace HT := Lib.hid (HT.out.below hb)
 replace HL := Lib.hid (HL.out.trans (hb.mono HL.out.size))
 clear hb
 obtain ⟨⟨x0, x1, x2⟩, xf0, xf1, xf2⟩ := three_at HX.out
 have hlx := heap_lt HX.out
 obtain ⟨ng, hng⟩ : ∃ b, neg q = b := ⟨_, rfl⟩
 rw [hng] at TW HFN HX x0 ⊢
 clear hng
 cases ng with
 | false =>
  have HV : Hid (fn = up q / q.den) := Lib.hid (by rw [HFN.out]; simp)
  have N5 := Lib.hid (show NatAt W2 (.slice A3 L3 C3) fn by rw [HV.out]; exact N3.out)
  have hb : Below W2.heap.size W2 (W2.alloc (.cells #[.int .u32 1] 184)) := (Below.refl _ _).alloc (Nat.le_refl _) _
  have N6 := Lib.hid (one_new W2 184)
  replace HR := Lib.hid (keep_block HR.out hb)
  replace HT := Lib.hid (HT.out.below hb)
  replace N5 := Lib.hid (N5.out.below hb)
  replace HL := Lib.hid (HL.out.trans (hb.mono HL.out.size))
  clear hb
  go_wp2_with fail
  refine (TW.out _ _ _ N5.out N6.out HT.out).mono ?_
  rintro e W3 ⟨rfl, hb⟩
  replace HR := Lib.hid (keep_block HR.out hb)
  replace HL := Lib.hid (HL.out.trans (hb.mono HL.out.size))
  clear hb
  obtain ⟨⟨r0, r1⟩, rf0, rf1⟩ := two_at HR.out
  obtain ⟨nb, e0, e1⟩ := frac_end (x := .string rx) (y := .string ry) HR.out HL.out (by omega)
  go_wp2
  refine bodyPost_ret (v := .tuple #[.agg #[.string rx, .string ry], .int .i64 rc]) (by simp [results, Tryz.results162, go_sem, e0, e1]) rfl ⟨rfl, nb⟩
 | true =>
  go_wp2_with fail
  refine (zero_any _ _ _ N4.out).mono ?_
  rintro e W3 ⟨rfl, rfl⟩
  by_cases h0 : up q % q.den = 0
  ·have hd : decide (up q % q.den = 0) = true := decide_eq_true h0
   have HV : Hid (fn = up q / q.den) := Lib.hid (by rw [HFN.out]; simp [h0])
   have N5 := Lib.hid (show NatAt W3 (.slice A3 L3 C3) fn by rw [HV.out]; exact N3.out)
   have hb : Below W3.heap.size W3 (W3.alloc (.cells #[.int .u32 1] 184)) := (Below.refl _ _).alloc (Nat.le_refl _) _
   have N6 := Lib.hid (one_new W3 184)
   replace HR := Lib.hid (keep_block HR.out hb)
   replace HT := Lib.hid (HT.out.below hb)
   replace N5 := Lib.hid (N5.out.below hb)
   replace HL := Lib.hid (HL.out.trans (hb.mono HL.out.size))
   clear hb
   rw [hd]
   clear h0
   go_wp2_with fail
   refine (TW.out _ _ _ N5.out N6.out HT.out).mono ?_
   rintro e W4 ⟨rfl, hb⟩
   replace HR := Lib.hid (keep_block HR.out hb)
   replace HL := Lib.hid (HL.out.trans (hb.mono HL.out.size))
   clear hb
   obtain ⟨⟨r0, r1⟩, rf0, rf1⟩ := two_at HR.out
   obtain ⟨nb, e0, e1⟩ := frac_end (x := .string rx) (y := .string ry) HR.out HL.out (by omega)
   go_wp2
   refine bodyPost_ret (v := .tuple #[.agg #[.string rx, .string ry], .int .i64 rc]) (by simp [results, Tryz.results162, go_sem, e0, e1]) rfl ⟨rfl, nb⟩
  ·have hd : decide (up q % q.den = 0) = false := decide_eq_false h0
   have HV : Hid (fn = up q / q.den + 1) := Lib.hid (by rw [HFN.out]; simp [h0])
   have hb : Below W3.heap.size W3 (W3.alloc (.cells #[.int .u32 1] 184)) := (Below.refl _ _).alloc (Nat.le_refl _) _
   have N6 := Lib.hid (one_new W3 184)
   replace HR := Lib.hid (keep_block HR.out hb)
   replace HX := Lib.hid (keep_block HX.out hb)
   replace HT := Lib.hid (HT.out.below hb)
   replace N3 := Lib.hid (N3.out.below hb)
   replace HL := Lib.hid (HL.out.trans (hb.mono HL.out.size))
   clear hb
   rw [hd]
   clear h0
   go_wp2_with fail
   refine (TP.out _ _ _ N3.out N6.out).mono ?_
   rintro e W4 ⟨A5, L5, C5, rfl, h5, hb⟩
   rw [← HV.out] at h5
   have N5 := Lib.hid h5
   clear h5 x0 x1 x2 xf0 xf1 xf2 hlx
   replace HR := Lib.hid (keep_block HR.out hb)
   replace HX := Lib.hid (keep_block HX.out hb)
   replace HT := Lib.hid (HT.out.below hb)
   replace HL := Lib.hid (HL.out.trans (hb.mono HL.out.size))
   clear hb
   obtain ⟨⟨x0, x1, x2⟩, xf0, xf1, xf2⟩ := three_at HX.out
   have hlx := heap_lt HX.out
   have hb : Below W4.heap.size W4 (W4.alloc (.cells #[.int .u32 1] 184)) := (Below.refl _ _).alloc (Nat.le_refl _) _
   have N7 := Lib.hid (one_new W4 184)
   replace HR := Lib.hid (keep_block HR.out hb)
   replace HT := Lib.hid (HT.out.below hb)
   replace N5 := Lib.hid (N5.out.below hb)
   replace HL := Lib.hid (HL.out.trans (hb.mono HL.out.size))
   clear hb
   go_wp2_with fail
   refine (TW.out _ _ _ N5.out N7.out HT.out).mono ?_
   rintro e W5 ⟨rfl, hb⟩
   replace HR := Lib.hid (keep_block HR.out hb)
   replace HL := Lib.hid (HL.out.trans (hb.mono HL.out.size))
   clear hb
   obtain ⟨⟨r0, r1⟩, rf0, rf1⟩ := two_at HR.out
   obtain ⟨nb, e0, e1⟩ := frac_end (x := .string rx) (y := .string ry) HR.out HL.out (by omega)
   go_wp2
   refine bodyPost_ret (v := .tuple #[.agg #[.string rx, .string ry], .int .i64 rc]) (by simp [results, Tryz.results162, go_sem, e0, e1]) rfl ⟨rfl, nb⟩
end Go.Proofs.YtkghpiaoggljjaaGreatDoor.Num

/- package exact's Int and Ratio. Conditions: the numbers have at most 17 digits; strconv's table of powers of ten lies as it is laid. -/
namespace Go.Proofs.YtkghpiaoggljjaaGreatDoor.Num
open Go.RowKit Go.Lib

theorem up_int (n : Int) : up (n : Rat) = n.natAbs := by unfold up; rw [Rat.num_intCast]
theorem den_int (n : Int) : (n : Rat).den = 1 := Rat.den_intCast n
theorem dec_len_of {n k : Nat} (hk : 0 < k) (h : n < 10 ^ k) : (Lib.decDigits n).length ≤ k := (decDigits_length_iff hk).2 h
theorem small_pow {a k : Nat} (hk : 18 < k) (h : a ≤ 1000000000000000000) : a < 10 ^ k := by
 have h18 : (10 : Nat) ^ 18 = 1000000000000000000 := by decide
 rw [← h18] at h
 exact Nat.lt_of_le_of_lt h (Nat.pow_lt_pow_right (by decide) hk)
theorem dec_small {a k : Nat} (hk : 18 < k) (h : a ≤ 1000000000000000000) : (Lib.decDigits a).length ≤ k := dec_len_of (by omega) (small_pow hk h)
theorem fits_int (n : Int) (h : n.natAbs ≤ 1000000000000000000) : fits (n : Rat) = true := by
 unfold fits
 rw [up_int, den_int, decide_eq_true (dec_small (k := 300) (by decide) h), decDigits_one]; rfl
theorem decNat_val (l : List UInt8) (h : AllDigits l) (hne : l ≠ []) : Lib.decNat l = some (decVal l) := by
 unfold Lib.decNat
 rw [decFrom_val l 0 h, Nat.zero_mul, Nat.zero_add]
 cases l with
 | nil => exact absurd rfl hne
 | cons c r => rfl
theorem atoi_itoa (n : Int) : Lib.atoi (Lib.itoa n) = some n := by
 unfold Lib.itoa
 by_cases h : n < 0
 ·rw [if_pos h]
  show (Lib.decNat (Lib.decDigits n.natAbs)).map (fun (m : Nat) => -(m : Int)) = some n
  rw [decNat_val _ (decDigits_all _) (decDigits_ne _), decVal_decDigits, Option.map_some]
  congr 1
  omega
 ·rw [if_neg h]
  rw [atoi_val _ (decDigits_all _) (decDigits_ne _), decVal_decDigits]
  congr 1
  omega
theorem numS_int (n : Int) : numS (n : Rat) = ⟨(Lib.itoa n).toArray⟩ := by unfold numS; rw [numText_int]
theorem denS_int (n : Int) : denS (n : Rat) = { data := #[49] } := by unfold denS; rw [denText_int]
theorem itoa_len (n : Int) (h : n.natAbs < 100000000000000000) : (Lib.itoa n).length ≤ 18 := by
 unfold Lib.itoa
 split
 ·have := dec_len_of (n := n.natAbs) (k := 17) (by decide) (by omega)
  simp; omega
 ·have := dec_len_of (n := n.toNat) (k := 17) (by decide) (by omega)
  omega

set_option maxHeartbeats 4000000 in
set_option maxRecDepth 100000 in
theorem int_ok (n : Int) (w : World) (h : n.natAbs < 100000000000000000) : Calls Tryz.prog 171 #[fracV (n : Rat)] w fun e w' => e = .returned (.tuple #[.int .i64 n, .bool true, .int .i64 0]) ∧ Below w.heap.size w w' := by
 have T := Lib.hid (fun W => check_ok (n : Rat) W (fits_int n (by omega)))
 have hat := atoi_itoa n
 have hln := itoa_len n h
 have TA := Lib.hid (fun W => Tryz.strconv_Atoi ⟨(Lib.itoa n).toArray⟩ n (by rw [bstr_size]; exact hln) hat W)
 rw [fracV_is, numS_int, denS_int] at T ⊢
 obtain ⟨S, hS⟩ : ∃ s : ByteArray, ⟨(Lib.itoa n).toArray⟩ = s := ⟨_, rfl⟩
 rw [hS] at T TA ⊢
 have hb : Below w.heap.size w (w.alloc (.cells #[.string S, .string { data := #[49] }] 24)) := (Below.refl _ _).alloc (Nat.le_refl _) _
 have HX := Lib.hid (heap_alloc_new w (.cells #[.string S, .string { data := #[49] }] 24))
 have HL := Lib.hid hb
 have d1 : decide (n < -4611686018427387904) = false := decide_eq_false (by omega)
 have d2 : decide (4611686018427387904 < n) = false := decide_eq_false (by omega)
 clear hb hat hln hS h
 go_enter Tryz.func171, Tryz.ntmps171
 go_wp2_with fail
 refine (T.out _).mono ?_
 rintro e W1 ⟨rfl, hb⟩
 replace HX := Lib.hid (keep_block HX.out hb)
 replace HL := Lib.hid (HL.out.trans (hb.mono HL.out.size))
 clear hb
 obtain ⟨⟨x0, x1⟩, xf0, xf1⟩ := two_at HX.out
 go_wp2_with fail
 refine (TA.out _).mono ?_
 rintro e W2 ⟨rfl, t, ht⟩
 have hb : Below W1.heap.size W1 W2 := by rw [ht]; exact Lib.bytesWorld_below _ _ _
 clear ht x0 x1 xf0 xf1
 replace HX := Lib.hid (keep_block HX.out hb)
 replace HL := Lib.hid (HL.out.trans (hb.mono HL.out.size))
 clear hb
 obtain ⟨⟨x0, x1⟩, xf0, xf1⟩ := two_at HX.out
 go_wp2
 go_ret3
 exact ⟨rfl, HL.out⟩

end Go.Proofs.YtkghpiaoggljjaaGreatDoor.Num

/- package value: zeros, Check, valid, Number, Fault, Whole, scalar, ToNumber at valid numbers and error values. Conditions: the tables lie as they are laid. -/
namespace Go.Proofs.YtkghpiaoggljjaaGreatDoor.Num
open Go.RowKit Go.Lib

/-- a number as a value of cells -/
def numVal (q : Rat) : Value := .agg #[.int .i64 1, .string (numS q), .string (denS q), .string { data := #[] }, .bool false, .int .i64 0, .int .i64 0, .int .i64 0, .slice none 0 0]
theorem numVal_is (q : Rat) : numVal q = .agg #[.int .i64 1, .string (numS q), .string (denS q), .string { data := #[] }, .bool false, .int .i64 0, .int .i64 0, .int .i64 0, .slice none 0 0] := rfl
/-- the texts of the error values -/
def faultTexts : Array Value := #[.string { data := #[] }, .string { data := #[35, 68, 73, 86, 47, 48, 33] }, .string { data := #[35, 86, 65, 76, 85, 69, 33] }, .string { data := #[35, 82, 69, 70, 33] }, .string { data := #[35, 78, 65, 77, 69, 63] }, .string { data := #[35, 78, 85, 77, 33] }, .string { data := #[35, 78, 47, 65] }, .string { data := #[35, 83, 80, 73, 76, 76, 33] }, .string { data := #[35, 67, 89, 67, 76, 69, 33] }]
/-- a block that comes behind the variables -/
def Past (b : Nat) : Prop := 0 < b ∧ 3 < b
/-- the variables that the functions read, as they are laid; all variables come ahead of what is made -/
structure Env (w : World) : Prop where
 tab : Tab w
 faults : ∀ i, i < 9 → w.cell? ⟨0, i, none⟩ = faultTexts[i]?
 room : Past w.heap.size
theorem Env.below {w w' : World} (h : Env w) (hb : Below w.heap.size w w') : Env w' :=
 ⟨h.tab.below hb, fun i hi => (hb.cell (p := ⟨0, i, none⟩) h.room.1).trans (h.faults i hi), Nat.lt_of_lt_of_le h.room.1 hb.size, Nat.lt_of_lt_of_le h.room.2 hb.size⟩

set_option maxHeartbeats 4000000 in
set_option maxRecDepth 100000 in
theorem zeros_num (q : Rat) (w : World) : Calls Tryz.prog 71 #[.agg #[.int .i64 1, .string (numS q), .string (denS q), .string { data := #[] }, .bool false, .int .i64 0, .int .i64 0, .int .i64 0, .slice none 0 0]] w fun e w' => e = .returned (.int .i64 0) ∧ Below w.heap.size w w' := by
 go_enter Tryz.func71, Tryz.ntmps71
 go_wp2
 go_ret
 exact ⟨rfl, (Below.refl _ _).alloc (Nat.le_refl _) _⟩

set_option maxHeartbeats 4000000 in
set_option maxRecDepth 100000 in
theorem zeros_arr (r s : Int) (A : Option Addr) (L C : Nat) (w : World) : Calls Tryz.prog 71 #[.agg #[.int .i64 5, .string { data := #[] }, .string { data := #[] }, .string { data := #[] }, .bool false, .int .i64 0, .int .i64 r, .int .i64 s, .slice A L C]] w fun e w' => e = .returned (.int .i64 0) ∧ Below w.heap.size w w' := by
 go_enter Tryz.func71, Tryz.ntmps71
 go_wp2
 go_ret
 exact ⟨rfl, (Below.refl _ _).alloc (Nat.le_refl _) _⟩

/-- a block of nine cells -/
def Nine (W : World) (b : Nat) (x0 x1 x2 x3 x4 x5 x6 x7 x8 : Value) : Prop :=
 (W.cell? ⟨b, 0, none⟩ = some x0 ∧ W.cell? ⟨b, 1, none⟩ = some x1 ∧ W.cell? ⟨b, 2, none⟩ = some x2 ∧ W.cell? ⟨b, 3, none⟩ = some x3 ∧ W.cell? ⟨b, 4, none⟩ = some x4 ∧ W.cell? ⟨b, 5, none⟩ = some x5 ∧ W.cell? ⟨b, 6, none⟩ = some x6 ∧ W.cell? ⟨b, 7, none⟩ = some x7 ∧ W.cell? ⟨b, 8, none⟩ = some x8) ∧
 W.frozen? ⟨b, 0, none⟩ = false ∧ W.frozen? ⟨b, 1, none⟩ = false ∧ W.frozen? ⟨b, 2, none⟩ = false ∧ W.frozen? ⟨b, 3, none⟩ = false ∧ W.frozen? ⟨b, 4, none⟩ = false ∧ W.frozen? ⟨b, 5, none⟩ = false ∧ W.frozen? ⟨b, 6, none⟩ = false ∧ W.frozen? ⟨b, 7, none⟩ = false ∧ W.frozen? ⟨b, 8, none⟩ = false
theorem nine_at {W : World} {b : Nat} {x0 x1 x2 x3 x4 x5 x6 x7 x8 : Value} {T : TypeId} (h : W.heap[b]? = some (.cells #[x0, x1, x2, x3, x4, x5, x6, x7, x8] T (0, 0))) : Nine W b x0 x1 x2 x3 x4 x5 x6 x7 x8 :=
 ⟨⟨Lib.cell_of_heap h 0, Lib.cell_of_heap h 1, Lib.cell_of_heap h 2, Lib.cell_of_heap h 3, Lib.cell_of_heap h 4, Lib.cell_of_heap h 5, Lib.cell_of_heap h 6, Lib.cell_of_heap h 7, Lib.cell_of_heap h 8⟩,
  by rw [Lib.frozen_of_heap h 0], by rw [Lib.frozen_of_heap h 1], by rw [Lib.frozen_of_heap h 2], by rw [Lib.frozen_of_heap h 3], by rw [Lib.frozen_of_heap h 4], by rw [Lib.frozen_of_heap h 5], by rw [Lib.frozen_of_heap h 6], by rw [Lib.frozen_of_heap h 7], by rw [Lib.frozen_of_heap h 8]⟩

set_option maxHeartbeats 4000000 in
set_option maxRecDepth 100000 in
theorem check_num (q : Rat) (w : World) (hq : fits q = true) (hE : Env w) : Calls Tryz.prog 24 #[.agg #[.int .i64 1, .string (numS q), .string (denS q), .string { data := #[] }, .bool false, .int .i64 0, .int .i64 0, .int .i64 0, .slice none 0 0]] w fun e w' => e = .returned (.int .i64 0) ∧ Below w.heap.size w w' := by
 have TC := Lib.hid (fun W => check_ok q W hq)
 rw [fracV_is q] at TC
 clear hq
 have HX := Lib.hid (heap_alloc_new w (.cells #[.int .i64 1, .string (numS q), .string (denS q), .string { data := #[] }, .bool false, .int .i64 0, .int .i64 0, .int .i64 0, .slice none 0 0] 27))
 have HL := Lib.hid (show Below w.heap.size w (w.alloc (.cells #[.int .i64 1, .string (numS q), .string (denS q), .string { data := #[] }, .bool false, .int .i64 0, .int .i64 0, .int .i64 0, .slice none 0 0] 27)) from (Below.refl _ _).alloc (Nat.le_refl _) _)
 have HE := Lib.hid (hE.below HL.out)
 clear hE
 go_enter Tryz.func24, Tryz.ntmps24
 go_wp2_with fail
 refine (zeros_num q _).mono ?_
 rintro e W1 ⟨rfl, hb⟩
 replace HX := Lib.hid (keep_block HX.out hb)
 replace HE := Lib.hid (HE.out.below hb)
 replace HL := Lib.hid (HL.out.trans (hb.mono HL.out.size))
 clear hb
 obtain ⟨⟨x0, x1, x2, x3, x4, x5, x6, x7, x8⟩, _⟩ := nine_at HX.out
 go_wp2_with fail
 refine (TC.out _).mono ?_
 rintro e W2 ⟨rfl, hb⟩
 replace HL := Lib.hid (HL.out.trans (hb.mono HL.out.size))
 clear hb
 go_wp2
 go_ret
 exact ⟨rfl, HL.out⟩

end Go.Proofs.YtkghpiaoggljjaaGreatDoor.Num

/- package value: valid, Number, Fault, Whole, scalar, ToNumber at valid numbers and error values. Conditions: the tables lie as they are laid. -/
namespace Go.Proofs.YtkghpiaoggljjaaGreatDoor.Num
open Go.RowKit Go.Lib

theorem set9_at {W : World} {R : Nat} {T : TypeId} {y0 y1 y2 y3 y4 y5 y6 y7 y8 : Value} (hR : W.heap[R]? = some (.cells #[y0, y1, y2, y3, y4, y5, y6, y7, y8] T (0, 0))) (x0 x1 x2 x3 x4 x5 x6 x7 x8 : Value) : (((((((((W.setCell ⟨R, 0, none⟩ x0).setCell ⟨R, 1, none⟩ x1).setCell ⟨R, 2, none⟩ x2).setCell ⟨R, 3, none⟩ x3).setCell ⟨R, 4, none⟩ x4).setCell ⟨R, 5, none⟩ x5).setCell ⟨R, 6, none⟩ x6).setCell ⟨R, 7, none⟩ x7).setCell ⟨R, 8, none⟩ x8).heap[R]? = some (.cells #[x0, x1, x2, x3, x4, x5, x6, x7, x8] T (0, 0)) := by
 have h0 := heap_setCell_at hR 0 x0
 have h1 := heap_setCell_at h0 1 x1
 have h2 := heap_setCell_at h1 2 x2
 have h3 := heap_setCell_at h2 3 x3
 have h4 := heap_setCell_at h3 4 x4
 have h5 := heap_setCell_at h4 5 x5
 have h6 := heap_setCell_at h5 6 x6
 have h7 := heap_setCell_at h6 7 x7
 have h8 := heap_setCell_at h7 8 x8
 rw [h8]
 simp
theorem set9_other (W : World) (R : Nat) (x0 x1 x2 x3 x4 x5 x6 x7 x8 : Value) {k : Nat} (hk : k ≠ R) : (((((((((W.setCell ⟨R, 0, none⟩ x0).setCell ⟨R, 1, none⟩ x1).setCell ⟨R, 2, none⟩ x2).setCell ⟨R, 3, none⟩ x3).setCell ⟨R, 4, none⟩ x4).setCell ⟨R, 5, none⟩ x5).setCell ⟨R, 6, none⟩ x6).setCell ⟨R, 7, none⟩ x7).setCell ⟨R, 8, none⟩ x8).heap[k]? = W.heap[k]? := (Below.heap_setCell ((((((((W.setCell ⟨R, 0, none⟩ x0).setCell ⟨R, 1, none⟩ x1).setCell ⟨R, 2, none⟩ x2).setCell ⟨R, 3, none⟩ x3).setCell ⟨R, 4, none⟩ x4).setCell ⟨R, 5, none⟩ x5).setCell ⟨R, 6, none⟩ x6).setCell ⟨R, 7, none⟩ x7) ⟨R, 8, none⟩ x8 k hk).trans ((Below.heap_setCell (((((((W.setCell ⟨R, 0, none⟩ x0).setCell ⟨R, 1, none⟩ x1).setCell ⟨R, 2, none⟩ x2).setCell ⟨R, 3, none⟩ x3).setCell ⟨R, 4, none⟩ x4).setCell ⟨R, 5, none⟩ x5).setCell ⟨R, 6, none⟩ x6) ⟨R, 7, none⟩ x7 k hk).trans ((Below.heap_setCell ((((((W.setCell ⟨R, 0, none⟩ x0).setCell ⟨R, 1, none⟩ x1).setCell ⟨R, 2, none⟩ x2).setCell ⟨R, 3, none⟩ x3).setCell ⟨R, 4, none⟩ x4).setCell ⟨R, 5, none⟩ x5) ⟨R, 6, none⟩ x6 k hk).trans ((Below.heap_setCell (((((W.setCell ⟨R, 0, none⟩ x0).setCell ⟨R, 1, none⟩ x1).setCell ⟨R, 2, none⟩ x2).setCell ⟨R, 3, none⟩ x3).setCell ⟨R, 4, none⟩ x4) ⟨R, 5, none⟩ x5 k hk).trans ((Below.heap_setCell ((((W.setCell ⟨R, 0, none⟩ x0).setCell ⟨R, 1, none⟩ x1).setCell ⟨R, 2, none⟩ x2).setCell ⟨R, 3, none⟩ x3) ⟨R, 4, none⟩ x4 k hk).trans ((Below.heap_setCell (((W.setCell ⟨R, 0, none⟩ x0).setCell ⟨R, 1, none⟩ x1).setCell ⟨R, 2, none⟩ x2) ⟨R, 3, none⟩ x3 k hk).trans ((Below.heap_setCell ((W.setCell ⟨R, 0, none⟩ x0).setCell ⟨R, 1, none⟩ x1) ⟨R, 2, none⟩ x2 k hk).trans ((Below.heap_setCell (W.setCell ⟨R, 0, none⟩ x0) ⟨R, 1, none⟩ x1 k hk).trans (Below.heap_setCell W ⟨R, 0, none⟩ x0 k hk))))))))

theorem nine_end {w W : World} {R : Nat} {T : TypeId} {x0 x1 x2 x3 x4 x5 x6 x7 x8 y0 y1 y2 y3 y4 y5 y6 y7 y8 : Value} (hR : W.heap[R]? = some (.cells #[y0, y1, y2, y3, y4, y5, y6, y7, y8] T (0, 0))) (hb : Below w.heap.size w W) (hge : w.heap.size ≤ R) :
  Below w.heap.size w (((((((((W.setCell ⟨R, 0, none⟩ x0).setCell ⟨R, 1, none⟩ x1).setCell ⟨R, 2, none⟩ x2).setCell ⟨R, 3, none⟩ x3).setCell ⟨R, 4, none⟩ x4).setCell ⟨R, 5, none⟩ x5).setCell ⟨R, 6, none⟩ x6).setCell ⟨R, 7, none⟩ x7).setCell ⟨R, 8, none⟩ x8) ∧ (((((((((W.setCell ⟨R, 0, none⟩ x0).setCell ⟨R, 1, none⟩ x1).setCell ⟨R, 2, none⟩ x2).setCell ⟨R, 3, none⟩ x3).setCell ⟨R, 4, none⟩ x4).setCell ⟨R, 5, none⟩ x5).setCell ⟨R, 6, none⟩ x6).setCell ⟨R, 7, none⟩ x7).setCell ⟨R, 8, none⟩ x8).cell? ⟨R, 0, none⟩ = some x0 ∧ (((((((((W.setCell ⟨R, 0, none⟩ x0).setCell ⟨R, 1, none⟩ x1).setCell ⟨R, 2, none⟩ x2).setCell ⟨R, 3, none⟩ x3).setCell ⟨R, 4, none⟩ x4).setCell ⟨R, 5, none⟩ x5).setCell ⟨R, 6, none⟩ x6).setCell ⟨R, 7, none⟩ x7).setCell ⟨R, 8, none⟩ x8).cell? ⟨R, 1, none⟩ = some x1 ∧ (((((((((W.setCell ⟨R, 0, none⟩ x0).setCell ⟨R, 1, none⟩ x1).setCell ⟨R, 2, none⟩ x2).setCell ⟨R, 3, none⟩ x3).setCell ⟨R, 4, none⟩ x4).setCell ⟨R, 5, none⟩ x5).setCell ⟨R, 6, none⟩ x6).setCell ⟨R, 7, none⟩ x7).setCell ⟨R, 8, none⟩ x8).cell? ⟨R, 2, none⟩ = some x2 ∧ (((((((((W.setCell ⟨R, 0, none⟩ x0).setCell ⟨R, 1, none⟩ x1).setCell ⟨R, 2, none⟩ x2).setCell ⟨R, 3, none⟩ x3).setCell ⟨R, 4, none⟩ x4).setCell ⟨R, 5, none⟩ x5).setCell ⟨R, 6, none⟩ x6).setCell ⟨R, 7, none⟩ x7).setCell ⟨R, 8, none⟩ x8).cell? ⟨R, 3, none⟩ = some x3 ∧ (((((((((W.setCell ⟨R, 0, none⟩ x0).setCell ⟨R, 1, none⟩ x1).setCell ⟨R, 2, none⟩ x2).setCell ⟨R, 3, none⟩ x3).setCell ⟨R, 4, none⟩ x4).setCell ⟨R, 5, none⟩ x5).setCell ⟨R, 6, none⟩ x6).setCell ⟨R, 7, none⟩ x7).setCell ⟨R, 8, none⟩ x8).cell? ⟨R, 4, none⟩ = some x4 ∧ (((((((((W.setCell ⟨R, 0, none⟩ x0).setCell ⟨R, 1, none⟩ x1).setCell ⟨R, 2, none⟩ x2).setCell ⟨R, 3, none⟩ x3).setCell ⟨R, 4, none⟩ x4).setCell ⟨R, 5, none⟩ x5).setCell ⟨R, 6, none⟩ x6).setCell ⟨R, 7, none⟩ x7).setCell ⟨R, 8, none⟩ x8).cell? ⟨R, 5, none⟩ = some x5 ∧ (((((((((W.setCell ⟨R, 0, none⟩ x0).setCell ⟨R, 1, none⟩ x1).setCell ⟨R, 2, none⟩ x2).setCell ⟨R, 3, none⟩ x3).setCell ⟨R, 4, none⟩ x4).setCell ⟨R, 5, none⟩ x5).setCell ⟨R, 6, none⟩ x6).setCell ⟨R, 7, none⟩ x7).setCell ⟨R, 8, none⟩ x8).cell? ⟨R, 6, none⟩ = some x6 ∧ (((((((((W.setCell ⟨R, 0, none⟩ x0).setCell ⟨R, 1, none⟩ x1).setCell ⟨R, 2, none⟩ x2).setCell ⟨R, 3, none⟩ x3).setCell ⟨R, 4, none⟩ x4).setCell ⟨R, 5, none⟩ x5).setCell ⟨R, 6, none⟩ x6).setCell ⟨R, 7, none⟩ x7).setCell ⟨R, 8, none⟩ x8).cell? ⟨R, 7, none⟩ = some x7 ∧ (((((((((W.setCell ⟨R, 0, none⟩ x0).setCell ⟨R, 1, none⟩ x1).setCell ⟨R, 2, none⟩ x2).setCell ⟨R, 3, none⟩ x3).setCell ⟨R, 4, none⟩ x4).setCell ⟨R, 5, none⟩ x5).setCell ⟨R, 6, none⟩ x6).setCell ⟨R, 7, none⟩ x7).setCell ⟨R, 8, none⟩ x8).cell? ⟨R, 8, none⟩ = some x8 := by
 have hF := set9_at hR x0 x1 x2 x3 x4 x5 x6 x7 x8
 exact ⟨(((((((((hb.setCell (p := ⟨R, 0, none⟩) hge _).setCell (p := ⟨R, 1, none⟩) hge _).setCell (p := ⟨R, 2, none⟩) hge _).setCell (p := ⟨R, 3, none⟩) hge _).setCell (p := ⟨R, 4, none⟩) hge _).setCell (p := ⟨R, 5, none⟩) hge _).setCell (p := ⟨R, 6, none⟩) hge _).setCell (p := ⟨R, 7, none⟩) hge _).setCell (p := ⟨R, 8, none⟩) hge _), Lib.cell_of_heap hF 0, Lib.cell_of_heap hF 1, Lib.cell_of_heap hF 2, Lib.cell_of_heap hF 3, Lib.cell_of_heap hF 4, Lib.cell_of_heap hF 5, Lib.cell_of_heap hF 6, Lib.cell_of_heap hF 7, Lib.cell_of_heap hF 8⟩
/-- two blocks in a row -/
theorem two_new (w : World) (x y : Obj) : ((w.alloc x).alloc y).heap[w.heap.size]? = some x ∧ ((w.alloc x).alloc y).heap[w.heap.size + 1]? = some y ∧ Below w.heap.size w ((w.alloc x).alloc y) := by
 refine ⟨(Below.heap_alloc _ _ _ (by simp)).trans (heap_alloc_new w x), ?_, ((Below.refl _ _).alloc (Nat.le_refl _) _).alloc (by simp) _⟩
 have := heap_alloc_new (w.alloc x) y
 rw [World.size_alloc] at this
 exact this

set_option maxHeartbeats 4000000 in
set_option maxRecDepth 100000 in
theorem valid_of (k : Int) (n d t : ByteArray) (on : Bool) (c r s : Int) (A : Option Addr) (L C : Nat) (w : World) (hC : ∀ W, Env W → Calls Tryz.prog 24 #[.agg #[.int .i64 k, .string n, .string d, .string t, .bool on, .int .i64 c, .int .i64 r, .int .i64 s, .slice A L C]] W fun e w' => e = .returned (.int .i64 0) ∧ Below W.heap.size W w') (hE : Env w) :
  Calls Tryz.prog 116 #[.agg #[.int .i64 k, .string n, .string d, .string t, .bool on, .int .i64 c, .int .i64 r, .int .i64 s, .slice A L C]] w fun e w' => e = .returned (.agg #[.int .i64 k, .string n, .string d, .string t, .bool on, .int .i64 c, .int .i64 r, .int .i64 s, .slice A L C]) ∧ Below w.heap.size w w' := by
 have TC := Lib.hid hC
 clear hC
 obtain ⟨hx, hr, hb⟩ := two_new w (.cells #[.int .i64 k, .string n, .string d, .string t, .bool on, .int .i64 c, .int .i64 r, .int .i64 s, .slice A L C] 27) (.cells #[.int .i64 0, .string { data := #[] }, .string { data := #[] }, .string { data := #[] }, .bool false, .int .i64 0, .int .i64 0, .int .i64 0, .slice none 0 0] 27)
 have HX := Lib.hid hx
 have HR := Lib.hid hr
 have HL := Lib.hid hb
 have HE := Lib.hid (hE.below hb)
 clear hx hr hb hE
 go_enter Tryz.func116, Tryz.ntmps116
 go_wp2_with fail
 refine (TC.out _ HE.out).mono ?_
 rintro e W1 ⟨rfl, hb⟩
 replace HX := Lib.hid (keep_block HX.out hb)
 replace HR := Lib.hid (keep_block HR.out hb)
 replace HL := Lib.hid (HL.out.trans (hb.mono HL.out.size))
 clear hb
 obtain ⟨⟨x0, x1, x2, x3, x4, x5, x6, x7, x8⟩, _⟩ := nine_at HX.out
 obtain ⟨⟨r0, r1, r2, r3, r4, r5, r6, r7, r8⟩, g0, g1, g2, g3, g4, g5, g6, g7, g8⟩ := nine_at HR.out
 obtain ⟨nb, e0, e1, e2, e3, e4, e5, e6, e7, e8⟩ := nine_end (x0 := (.int .i64 k)) (x1 := (.string n)) (x2 := (.string d)) (x3 := (.string t)) (x4 := (.bool on)) (x5 := (.int .i64 c)) (x6 := (.int .i64 r)) (x7 := (.int .i64 s)) (x8 := (.slice A L C)) HR.out HL.out (by omega)
 go_wp2
 refine bodyPost_ret (v := .agg #[.int .i64 k, .string n, .string d, .string t, .bool on, .int .i64 c, .int .i64 r, .int .i64 s, .slice A L C]) (by simp [results, Tryz.results116, go_sem, e0, e1, e2, e3, e4, e5, e6, e7, e8]) rfl ⟨rfl, nb⟩

theorem valid_num (q : Rat) (w : World) (hq : fits q = true) (hE : Env w) : Calls Tryz.prog 116 #[numVal q] w fun e w' => e = .returned (numVal q) ∧ Below w.heap.size w w' :=
 valid_of 1 (numS q) (denS q) { data := #[] } false 0 0 0 none 0 0 w (fun W h => check_num q W hq h) hE
set_option maxHeartbeats 4000000 in
set_option maxRecDepth 100000 in
theorem number_any (q : Rat) (w : World) (hq : fits q = true) (hE : Env w) : Calls Tryz.prog 158 #[fracV q] w fun e w' => e = .returned (numVal q) ∧ Below w.heap.size w w' := by
 have TC := Lib.hid (fun W h => valid_num q W hq h)
 rw [fracV_is q, numVal_is q] at *
 obtain ⟨hx, hr, hb⟩ := two_new w (.cells #[.string (numS q), .string (denS q)] 24) (.cells #[.int .i64 0, .string { data := #[] }, .string { data := #[] }, .string { data := #[] }, .bool false, .int .i64 0, .int .i64 0, .int .i64 0, .slice none 0 0] 27)
 have HX := Lib.hid hx
 have HR := Lib.hid hr
 have HL := Lib.hid hb
 have HE := Lib.hid (hE.below hb)
 clear hx hr hb hE
 go_enter Tryz.func158, Tryz.ntmps158
 go_wp2_with fail
 refine (TC.out _ HE.out).mono ?_
 rintro e W1 ⟨rfl, hb⟩
 replace HR := Lib.hid (keep_block HR.out hb)
 replace HL := Lib.hid (HL.out.trans (hb.mono HL.out.size))
 clear hb
 obtain ⟨⟨r0, r1, r2, r3, r4, r5, r6, r7, r8⟩, g0, g1, g2, g3, g4, g5, g6, g7, g8⟩ := nine_at HR.out
 obtain ⟨nb, e0, e1, e2, e3, e4, e5, e6, e7, e8⟩ := nine_end (x0 := (.int .i64 1)) (x1 := (.string (numS q))) (x2 := (.string (denS q))) (x3 := (.string { data := #[] })) (x4 := (.bool false)) (x5 := (.int .i64 0)) (x6 := (.int .i64 0)) (x7 := (.int .i64 0)) (x8 := (.slice none 0 0)) HR.out HL.out (by omega)
 go_wp2
 refine bodyPost_ret (v := .agg #[.int .i64 1, .string (numS q), .string (denS q), .string { data := #[] }, .bool false, .int .i64 0, .int .i64 0, .int .i64 0, .slice none 0 0]) (by simp [results, Tryz.results158, go_sem, e0, e1, e2, e3, e4, e5, e6, e7, e8]) rfl ⟨rfl, nb⟩

set_option maxHeartbeats 4000000 in
set_option maxRecDepth 100000 in
theorem whole_any (n : Int) (w : World) (h0 : -9223372036854775808 ≤ n) (h1 : n ≤ 9223372036854775807) (hE : Env w) : Calls Tryz.prog 12 #[.int .i64 n] w fun e w' => e = .returned (numVal (n : Rat)) ∧ Below w.heap.size w w' := by
 have TC := Lib.hid (fun W h => of_any n W h0 h1 h)
 rw [fracV_is] at TC
 rw [numVal_is]
 have HR := Lib.hid (heap_alloc_new w (.cells #[.int .i64 0, .string { data := #[] }, .string { data := #[] }, .string { data := #[] }, .bool false, .int .i64 0, .int .i64 0, .int .i64 0, .slice none 0 0] 27))
 have HL := Lib.hid (show Below w.heap.size w (w.alloc (.cells #[.int .i64 0, .string { data := #[] }, .string { data := #[] }, .string { data := #[] }, .bool false, .int .i64 0, .int .i64 0, .int .i64 0, .slice none 0 0] 27)) from (Below.refl _ _).alloc (Nat.le_refl _) _)
 have HE := Lib.hid (hE.below HL.out)
 clear hE
 clear h0 h1
 go_enter Tryz.func12, Tryz.ntmps12
 go_wp2_with fail
 refine (TC.out _ HE.out.tab).mono ?_
 rintro e W1 ⟨rfl, hb⟩
 replace HR := Lib.hid (keep_block HR.out hb)
 replace HL := Lib.hid (HL.out.trans (hb.mono HL.out.size))
 clear hb
 obtain ⟨⟨r0, r1, r2, r3, r4, r5, r6, r7, r8⟩, g0, g1, g2, g3, g4, g5, g6, g7, g8⟩ := nine_at HR.out
 obtain ⟨nb, e0, e1, e2, e3, e4, e5, e6, e7, e8⟩ := nine_end (x0 := (.int .i64 1)) (x1 := (.string (numS (n : Rat)))) (x2 := (.string (denS (n : Rat)))) (x3 := (.string { data := #[] })) (x4 := (.bool false)) (x5 := (.int .i64 0)) (x6 := (.int .i64 0)) (x7 := (.int .i64 0)) (x8 := (.slice none 0 0)) HR.out HL.out (by omega)
 go_wp2
 refine bodyPost_ret (v := .agg #[.int .i64 1, .string (numS (n : Rat)), .string (denS (n : Rat)), .string { data := #[] }, .bool false, .int .i64 0, .int .i64 0, .int .i64 0, .slice none 0 0]) (by simp [results, Tryz.results12, go_sem, e0, e1, e2, e3, e4, e5, e6, e7, e8]) rfl ⟨rfl, nb⟩

set_option maxHeartbeats 4000000 in
set_option maxRecDepth 100000 in
theorem scalar_of (k : Int) (n d t : ByteArray) (on : Bool) (c r s : Int) (A : Option Addr) (L C : Nat) (w : World) (hk : (k == 5) = false) (hC : ∀ W, Env W → Calls Tryz.prog 24 #[.agg #[.int .i64 k, .string n, .string d, .string t, .bool on, .int .i64 c, .int .i64 r, .int .i64 s, .slice A L C]] W fun e w' => e = .returned (.int .i64 0) ∧ Below W.heap.size W w') (hE : Env w) :
  Calls Tryz.prog 221 #[.agg #[.int .i64 k, .string n, .string d, .string t, .bool on, .int .i64 c, .int .i64 r, .int .i64 s, .slice A L C]] w fun e w' => e = .returned (.agg #[.int .i64 k, .string n, .string d, .string t, .bool on, .int .i64 c, .int .i64 r, .int .i64 s, .slice A L C]) ∧ Below w.heap.size w w' := by
 have TC := Lib.hid (fun W h => valid_of k n d t on c r s A L C W hC h)
 clear hC
 obtain ⟨hx, hr, hb⟩ := two_new w (.cells #[.int .i64 k, .string n, .string d, .string t, .bool on, .int .i64 c, .int .i64 r, .int .i64 s, .slice A L C] 27) (.cells #[.int .i64 0, .string { data := #[] }, .string { data := #[] }, .string { data := #[] }, .bool false, .int .i64 0, .int .i64 0, .int .i64 0, .slice none 0 0] 27)
 have HX := Lib.hid hx
 have HR := Lib.hid hr
 have HL := Lib.hid hb
 have HE := Lib.hid (hE.below hb)
 clear hx hr hb hE
 go_enter Tryz.func221, Tryz.ntmps221
 go_wp2_with fail
 refine (TC.out _ HE.out).mono ?_
 rintro e W1 ⟨rfl, hb⟩
 replace HX := Lib.hid (keep_block HX.out hb)
 replace HR := Lib.hid (keep_block HR.out hb)
 replace HL := Lib.hid (HL.out.trans (hb.mono HL.out.size))
 clear hb
 obtain ⟨⟨x0, x1, x2, x3, x4, x5, x6, x7, x8⟩, f0, f1, f2, f3, f4, f5, f6, f7, f8⟩ := nine_at HX.out
 obtain ⟨⟨r0, r1, r2, r3, r4, r5, r6, r7, r8⟩, g0, g1, g2, g3, g4, g5, g6, g7, g8⟩ := nine_at HR.out
 have hR2 := (set9_other W1 w.heap.size (.int .i64 k) (.string n) (.string d) (.string t) (.bool on) (.int .i64 c) (.int .i64 r) (.int .i64 s) (.slice A L C) (k := w.heap.size + 1) (by omega)).trans HR.out
 have HL2 := (nine_end (x0 := (.int .i64 k)) (x1 := (.string n)) (x2 := (.string d)) (x3 := (.string t)) (x4 := (.bool on)) (x5 := (.int .i64 c)) (x6 := (.int .i64 r)) (x7 := (.int .i64 s)) (x8 := (.slice A L C)) HX.out HL.out (Nat.le_refl _)).1
 obtain ⟨nb, e0, e1, e2, e3, e4, e5, e6, e7, e8⟩ := nine_end (x0 := (.int .i64 k)) (x1 := (.string n)) (x2 := (.string d)) (x3 := (.string t)) (x4 := (.bool on)) (x5 := (.int .i64 c)) (x6 := (.int .i64 r)) (x7 := (.int .i64 s)) (x8 := (.slice A L C)) hR2 HL2 (by omega)
 clear hR2 HL2
 go_wp2
 refine bodyPost_ret (v := .agg #[.int .i64 k, .string n, .string d, .string t, .bool on, .int .i64 c, .int .i64 r, .int .i64 s, .slice A L C]) (by simp [results, Tryz.results221, go_sem, e0, e1, e2, e3, e4, e5, e6, e7, e8]) rfl ⟨rfl, nb⟩

end Go.Proofs.YtkghpiaoggljjaaGreatDoor.Num
