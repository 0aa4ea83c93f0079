/- Contracts of the program's functions, joined from smaller texts. Conditions stand at each theorem. -/
import Derived.Test.YtjcdeeahjkfmoaaGreatDoorNumC
set_option maxRecDepth 100000
set_option maxHeartbeats 4000000
namespace Go.Proofs.YtjcdeeahjkfmoaaGreatDoor
namespace Num
open Go.RowKit Go.Lib
def OpRet (R : Rat) (w : World) (e : Ending) (w' : World) : Prop :=
 ∃ s n d A L C A' L' C', e = .returned (.tuple #[.agg #[.bool s, .slice A L C, .slice A' L' C'], .int .i64 0]) ∧ (ratOf s n d = R ∧ d ≠ 0 ∧ (digs LB n).length ≤ 1000000 ∧ (digs LB d).length ≤ 1000000) ∧ NatAt w' (.slice A L C) n ∧ NatAt w' (.slice A' L' C') d ∧ Below w.heap.size w w'
theorem sum_len (m k : Bool) {p q K : Nat} (hp : (digs LB p).length ≤ K) (hq : (digs LB q).length ≤ K) : (digs LB (sumNum m k p q)).length ≤ K + 1 := by
 unfold sumNum
 split
 ·exact digs_len_add hp hq
 ·split
  ·exact Nat.le_succ_of_le (Nat.le_trans (digs_len_mono LB_two (Nat.sub_le p q)) hp)
  ·exact Nat.le_succ_of_le (Nat.le_trans (digs_len_mono LB_two (Nat.sub_le q p)) hq)
theorem sub_op (m k : Bool) (v1 v2 u1 u2 : Value) (a b c d : Nat) (w : World) (h1 : NatAt w v1 a) (h2 : NatAt w v2 b) (h3 : NatAt w u1 c) (h4 : NatAt w u2 d) (hb0 : b ≠ 0) (hd0 : d ≠ 0)
  (l1 : (digs LB a).length ≤ 400) (l2 : (digs LB b).length ≤ 400) (l3 : (digs LB c).length ≤ 400) (l4 : (digs LB d).length ≤ 400) :
  Calls Tryz.prog 294 #[.agg #[.bool m, v1, v2], .agg #[.bool k, u1, u2]] w (OpRet (ratOf m a b - ratOf k c d) w) := by
 rw [Rat.sub_eq_add_neg, ratOf_negate, ratOf_add m (!k) a b c d hb0 hd0]
 have LEN := hid (And.intro (sum_len m (!k) (p := a * d) (q := c * b) (K := 800) (digs_len_mul l1 l4) (digs_len_mul l3 l2)) (digs_len_mul l2 l4))
 have ND := hid (Nat.mul_ne_zero hb0 hd0)
 obtain ⟨A1, L1, C1, rfl⟩ := h1.shape
 obtain ⟨A2, L2, C2, rfl⟩ := h2.shape
 obtain ⟨A3, L3, C3, rfl⟩ := h3.shape
 obtain ⟨A4, L4, C4, rfl⟩ := h4.shape
 have T := hid (fun W g1 g2 g3 g4 => sum_any m (!k) (.slice A1 L1 C1) (.slice A2 L2 C2) (.slice A3 L3 C3) (.slice A4 L4 C4) a b c d W g1 g2 g3 g4 (by omega) (by omega) (by omega) (by omega))
 obtain ⟨hx, hy, hr, hb⟩ := three_new w (.cells #[.bool m, .slice A1 L1 C1, .slice A2 L2 C2] 173) (.cells #[.bool (!k), .slice A3 L3 C3, .slice A4 L4 C4] 173) (.cells #[.bool false, .slice none 0 0, .slice none 0 0] 173)
 have HX := hid hx
 have HY := hid hy
 have HR := hid hr
 have N1 := hid (h1.below hb)
 have N2 := hid (h2.below hb)
 have N3 := hid (h3.below hb)
 have N4 := hid (h4.below hb)
 have HL := hid hb
 clear h1 h2 h3 h4 hx hy hr hb l1 l2 l3 l4 hb0 hd0
 have hnot : ∀ (x : Bool) (w : World), (Op.unary .not (.bool x)).run Tryz.prog w = .ok (.bool (!x)) w := fun _ _ => rfl
 go_enter Tryz.func294, Tryz.ntmps294
 go_wp2_with fail
 refine (T.out _ N1.out N2.out N3.out N4.out).mono ?_
 rintro e W1 ⟨A5, L5, C5, A6, L6, C6, rfl, h5, h6, hb⟩
 have N5 := hid h5
 have N6 := hid h6
 clear h5 h6
 replace HR := hid (keep_block HR.out hb)
 replace HL := hid (HL.out.trans (hb.mono HL.out.size))
 clear hb
 obtain ⟨⟨r0, r1, r2⟩, rf0, rf1, rf2⟩ := three_at HR.out
 go_wp2
 obtain ⟨⟨n1, n2, nb⟩, e0, e1, e2⟩ := num_end (s := sumSign m (!k) (a * d) (c * b)) HR.out HL.out (by omega) N5.out N6.out
 refine bodyPost_ret (v := .tuple #[.agg #[.bool (sumSign m (!k) (a * d) (c * b)), .slice A5 L5 C5, .slice A6 L6 C6], .int .i64 0]) (by simp [results, Tryz.results294, go_sem, e0, e1, e2]) rfl ⟨_, _, _, _, _, _, _, _, _, rfl, ⟨rfl, ND.out, by have := LEN.out.1; omega, by have := LEN.out.2; omega⟩, n1, n2, nb⟩
theorem mul_op (m k : Bool) (v1 v2 u1 u2 : Value) (a b c d : Nat) (w : World) (h1 : NatAt w v1 a) (h2 : NatAt w v2 b) (h3 : NatAt w u1 c) (h4 : NatAt w u2 d) (hb0 : b ≠ 0) (hd0 : d ≠ 0)
  (l1 : (digs LB a).length ≤ 400) (l2 : (digs LB b).length ≤ 400) (l3 : (digs LB c).length ≤ 400) (l4 : (digs LB d).length ≤ 400) :
  Calls Tryz.prog 292 #[.agg #[.bool m, v1, v2], .agg #[.bool k, u1, u2]] w (OpRet (ratOf m a b * ratOf k c d) w) := by
 rw [ratOf_mul]
 have LEN := hid (And.intro (digs_len_mul l1 l3) (digs_len_mul l2 l4))
 have ND := hid (Nat.mul_ne_zero hb0 hd0)
 obtain ⟨A1, L1, C1, rfl⟩ := h1.shape
 obtain ⟨A2, L2, C2, rfl⟩ := h2.shape
 obtain ⟨A3, L3, C3, rfl⟩ := h3.shape
 obtain ⟨A4, L4, C4, rfl⟩ := h4.shape
 have T1 := hid (fun W h h' => calls_shaped (times_any (.slice A1 L1 C1) (.slice A3 L3 C3) a c W h h' (by omega) (by omega)))
 have T2 := hid (fun W h h' => calls_shaped (times_any (.slice A2 L2 C2) (.slice A4 L4 C4) b d W h h' (by omega) (by omega)))
 obtain ⟨hx, hy, hr, hb⟩ := three_new w (.cells #[.bool m, .slice A1 L1 C1, .slice A2 L2 C2] 173) (.cells #[.bool k, .slice A3 L3 C3, .slice A4 L4 C4] 173) (.cells #[.bool false, .slice none 0 0, .slice none 0 0] 173)
 have HX := hid hx
 have HY := hid hy
 have HR := hid hr
 have N1 := hid (h1.below hb)
 have N2 := hid (h2.below hb)
 have N3 := hid (h3.below hb)
 have N4 := hid (h4.below hb)
 have HL := hid hb
 clear h1 h2 h3 h4 hx hy hr hb l1 l2 l3 l4 hb0 hd0
 obtain ⟨W0, hW0⟩ : ∃ W0, ((w.alloc (.cells #[.bool m, .slice A1 L1 C1, .slice A2 L2 C2] 173)).alloc (.cells #[.bool k, .slice A3 L3 C3, .slice A4 L4 C4] 173)).alloc (.cells #[.bool false, .slice none 0 0, .slice none 0 0] 173) = W0 := ⟨_, rfl⟩
 rw [hW0] at HX HY HR N1 N2 N3 N4 HL
 have HW := hid hW0
 clear hW0
 go_enter Tryz.func292, Tryz.ntmps292
 go_wp2_with fail
 rw [HW.out]
 replace HX := hid (drew_block HX.out)
 replace HY := hid (drew_block HY.out)
 replace HR := hid (drew_block HR.out)
 replace N1 := hid (drew_nat N1.out)
 replace N2 := hid (drew_nat N2.out)
 replace N3 := hid (drew_nat N3.out)
 replace N4 := hid (drew_nat N4.out)
 replace HL := hid (HL.out.drew)
 go_region_held3 (fun W => W.cell? ⟨w.heap.size, 0, none⟩ = some (.bool m) ∧ W.cell? ⟨w.heap.size, 1, none⟩ = some (.slice A1 L1 C1) ∧ W.cell? ⟨w.heap.size, 2, none⟩ = some (.slice A2 L2 C2) ∧ W.cell? ⟨w.heap.size + 1, 0, none⟩ = some (.bool k) ∧ W.cell? ⟨w.heap.size + 1, 1, none⟩ = some (.slice A3 L3 C3) ∧ W.cell? ⟨w.heap.size + 1, 2, none⟩ = some (.slice A4 L4 C4))
  (first | (with_reducible exact cells6 HX.out HY.out) | (with_reducible exact cells6_set3 HX.out HY.out) | fail)
  ((first | (go_at_call 232; (with_reducible refine (T1.out _ N1.out N3.out).mono ?_); rintro e W1 ⟨B1, M1, D1, rfl, hp, hb⟩; have P1 := hid hp; clear hp; replace HX := hid (keep_block HX.out hb); replace HY := hid (keep_block HY.out hb); replace HR := hid (keep_block HR.out hb); replace N1 := hid (N1.out.below hb); replace N2 := hid (N2.out.below hb); replace N3 := hid (N3.out.below hb); replace N4 := hid (N4.out.below hb); replace HL := hid (HL.out.trans (hb.mono HL.out.size)); clear hb; (first | clear r0 r1 r2 rf0 rf1 rf2 | skip); obtain ⟨⟨r0, r1, r2⟩, rf0, rf1, rf2⟩ := three_at HR.out) | (go_at_call 232; (with_reducible refine (T2.out _ N2.out N4.out).mono ?_); rintro e W2 ⟨B2, M2, D2, rfl, hp, hb⟩; replace P1 := hid (P1.out.below hb); have P2 := hid hp; clear hp; replace HX := hid (keep_block HX.out hb); replace HY := hid (keep_block HY.out hb); replace HR := hid (keep_block HR.out hb); replace N1 := hid (N1.out.below hb); replace N2 := hid (N2.out.below hb); replace N3 := hid (N3.out.below hb); replace N4 := hid (N4.out.below hb); replace HL := hid (HL.out.trans (hb.mono HL.out.size)); clear hb; (first | clear r0 r1 r2 rf0 rf1 rf2 | skip); obtain ⟨⟨r0, r1, r2⟩, rf0, rf1, rf2⟩ := three_at HR.out)))
 obtain ⟨⟨n1, n2, nb⟩, e0, e1, e2⟩ := num_end (s := (!(m == k))) HR.out HL.out (by omega) P1.out P2.out
 go_wp2
 refine bodyPost_ret (v := .tuple #[.agg #[.bool (!(m == k)), .slice B1 M1 D1, .slice B2 M2 D2], .int .i64 0]) (by simp [results, Tryz.results292, go_sem, e0, e1, e2]) rfl ⟨_, _, _, _, _, _, _, _, _, rfl, ⟨rfl, ND.out, by have := LEN.out.1; omega, by have := LEN.out.2; omega⟩, n1, n2, nb⟩
theorem div_op (m k : Bool) (v1 v2 u1 u2 : Value) (a b c d : Nat) (w : World) (h1 : NatAt w v1 a) (h2 : NatAt w v2 b) (h3 : NatAt w u1 c) (h4 : NatAt w u2 d) (hb0 : b ≠ 0) (hd0 : d ≠ 0) (hc0 : c ≠ 0)
  (l1 : (digs LB a).length ≤ 400) (l2 : (digs LB b).length ≤ 400) (l3 : (digs LB c).length ≤ 400) (l4 : (digs LB d).length ≤ 400) :
  Calls Tryz.prog 231 #[.agg #[.bool m, v1, v2], .agg #[.bool k, u1, u2]] w (OpRet (ratOf m a b / ratOf k c d) w) := by
 rw [ratOf_div m k a b c d hc0 hd0]
 have LEN := hid (And.intro (digs_len_mul l1 l4) (digs_len_mul l2 l3))
 have ND := hid (Nat.mul_ne_zero hb0 hc0)
 obtain ⟨A1, L1, C1, rfl⟩ := h1.shape
 obtain ⟨A2, L2, C2, rfl⟩ := h2.shape
 obtain ⟨A3, L3, C3, rfl⟩ := h3.shape
 obtain ⟨A4, L4, C4, rfl⟩ := h4.shape
 have T1 := hid (fun W h h' => calls_shaped (times_any (.slice A1 L1 C1) (.slice A4 L4 C4) a d W h h' (by omega) (by omega)))
 have T2 := hid (fun W h h' => calls_shaped (times_any (.slice A2 L2 C2) (.slice A3 L3 C3) b c W h h' (by omega) (by omega)))
 have hcz : decide (c = 0) = false := decide_eq_false hc0
 obtain ⟨hx, hy, hr, hb⟩ := three_new w (.cells #[.bool m, .slice A1 L1 C1, .slice A2 L2 C2] 173) (.cells #[.bool k, .slice A3 L3 C3, .slice A4 L4 C4] 173) (.cells #[.bool false, .slice none 0 0, .slice none 0 0] 173)
 have HX := hid hx
 have HY := hid hy
 have HR := hid hr
 have N1 := hid (h1.below hb)
 have N2 := hid (h2.below hb)
 have N3 := hid (h3.below hb)
 have N4 := hid (h4.below hb)
 have HL := hid hb
 clear h1 h2 h3 h4 hx hy hr hb l1 l2 l3 l4 hb0 hd0
 obtain ⟨W0, hW0⟩ : ∃ W0, ((w.alloc (.cells #[.bool m, .slice A1 L1 C1, .slice A2 L2 C2] 173)).alloc (.cells #[.bool k, .slice A3 L3 C3, .slice A4 L4 C4] 173)).alloc (.cells #[.bool false, .slice none 0 0, .slice none 0 0] 173) = W0 := ⟨_, rfl⟩
 rw [hW0] at HX HY HR N1 N2 N3 N4 HL
 have HW := hid hW0
 clear hW0
 go_enter Tryz.func231, Tryz.ntmps231
 go_wp2_with fail
 rw [HW.out]
 obtain ⟨⟨x0, x1, x2⟩, xf0, xf1, xf2⟩ := three_at HX.out
 obtain ⟨⟨y0, y1, y2⟩, yf0, yf1, yf2⟩ := three_at HY.out
 refine (zero_any _ c _ N3.out).mono ?_
 rintro e w1 ⟨rfl, rfl⟩
 rw [hcz]
 go_wp2_with fail
 clear x0 x1 x2 xf0 xf1 xf2 y0 y1 y2 yf0 yf1 yf2
 replace HX := hid (drew_block HX.out)
 replace HY := hid (drew_block HY.out)
 replace HR := hid (drew_block HR.out)
 replace N1 := hid (drew_nat N1.out)
 replace N2 := hid (drew_nat N2.out)
 replace N3 := hid (drew_nat N3.out)
 replace N4 := hid (drew_nat N4.out)
 replace HL := hid (HL.out.drew)
 go_region_held3 (fun W => W.cell? ⟨w.heap.size, 0, none⟩ = some (.bool m) ∧ W.cell? ⟨w.heap.size, 1, none⟩ = some (.slice A1 L1 C1) ∧ W.cell? ⟨w.heap.size, 2, none⟩ = some (.slice A2 L2 C2) ∧ W.cell? ⟨w.heap.size + 1, 0, none⟩ = some (.bool k) ∧ W.cell? ⟨w.heap.size + 1, 1, none⟩ = some (.slice A3 L3 C3) ∧ W.cell? ⟨w.heap.size + 1, 2, none⟩ = some (.slice A4 L4 C4))
  (first | (with_reducible exact cells6 HX.out HY.out) | (with_reducible exact cells6_set3 HX.out HY.out) | fail)
  ((first | (go_at_call 232; (with_reducible refine (T1.out _ N1.out N4.out).mono ?_); rintro e W1 ⟨B1, M1, D1, rfl, hp, hb⟩; have P1 := hid hp; clear hp; replace HX := hid (keep_block HX.out hb); replace HY := hid (keep_block HY.out hb); replace HR := hid (keep_block HR.out hb); replace N1 := hid (N1.out.below hb); replace N2 := hid (N2.out.below hb); replace N3 := hid (N3.out.below hb); replace N4 := hid (N4.out.below hb); replace HL := hid (HL.out.trans (hb.mono HL.out.size)); clear hb; (first | clear r0 r1 r2 rf0 rf1 rf2 | skip); obtain ⟨⟨r0, r1, r2⟩, rf0, rf1, rf2⟩ := three_at HR.out) | (go_at_call 232; (with_reducible refine (T2.out _ N2.out N3.out).mono ?_); rintro e W2 ⟨B2, M2, D2, rfl, hp, hb⟩; replace P1 := hid (P1.out.below hb); have P2 := hid hp; clear hp; replace HX := hid (keep_block HX.out hb); replace HY := hid (keep_block HY.out hb); replace HR := hid (keep_block HR.out hb); replace N1 := hid (N1.out.below hb); replace N2 := hid (N2.out.below hb); replace N3 := hid (N3.out.below hb); replace N4 := hid (N4.out.below hb); replace HL := hid (HL.out.trans (hb.mono HL.out.size)); clear hb; (first | clear r0 r1 r2 rf0 rf1 rf2 | skip); obtain ⟨⟨r0, r1, r2⟩, rf0, rf1, rf2⟩ := three_at HR.out)))
 obtain ⟨⟨n1, n2, nb⟩, e0, e1, e2⟩ := num_end (s := (!(m == k))) HR.out HL.out (by omega) P1.out P2.out
 go_wp2
 refine bodyPost_ret (v := .tuple #[.agg #[.bool (!(m == k)), .slice B1 M1 D1, .slice B2 M2 D2], .int .i64 0]) (by simp [results, Tryz.results231, go_sem, e0, e1, e2]) rfl ⟨_, _, _, _, _, _, _, _, _, rfl, ⟨rfl, ND.out, by have := LEN.out.1; omega, by have := LEN.out.2; omega⟩, n1, n2, nb⟩
end Num
namespace Num
open Go.RowKit Go.Lib
theorem wroteV_shape (R : Rat) : ∃ x y c, wroteV R = .tuple #[.agg #[.string x, .string y], .int .i64 c] := by
 by_cases h : fits R = true
 ·rw [wroteV_ok h, fracV_is]; exact ⟨_, _, _, rfl⟩
 ·rw [wroteV_no (by simpa using h)]; exact ⟨_, _, _, rfl⟩
theorem frac_end {w W : World} {R : Nat} {T : TypeId} {x y x0 y0 : Value} (hR : W.heap[R]? = some (.cells #[x0, y0] T (0, 0))) (hb : Below w.heap.size w W) (hge : w.heap.size ≤ R) :
  Below w.heap.size w ((W.setCell ⟨R, 0, none⟩ x).setCell ⟨R, 1, none⟩ y) ∧ ((W.setCell ⟨R, 0, none⟩ x).setCell ⟨R, 1, none⟩ y).cell? ⟨R, 0, none⟩ = some x ∧ ((W.setCell ⟨R, 0, none⟩ x).setCell ⟨R, 1, none⟩ y).cell? ⟨R, 1, none⟩ = some y := by
 have h2 := set2_at hR x y
 exact ⟨(hb.setCell (p := ⟨R, 0, none⟩) hge _).setCell (p := ⟨R, 1, none⟩) hge _, Lib.cell_of_heap h2 0, Lib.cell_of_heap h2 1⟩
theorem fits_limbs {q : Rat} (h : fits q = true) : (digs LB (up q)).length ≤ 300 ∧ (digs LB q.den).length ≤ 300 := ⟨dec_limbs (fits_up h) (by decide), dec_limbs (fits_den h) (by decide)⟩
theorem two_ok (p q R : Rat) (F : FuncId) (w : World) (hp : fits p = true) (hq : fits q = true) (ht : Tab w) (eF : ∀ args w, (callFunc F args).run Tryz.prog w = .ok (.enter F args) w)
  (hF : ∀ W v1 v2 u1 u2, NatAt W v1 (up p) → NatAt W v2 p.den → NatAt W u1 (up q) → NatAt W u2 q.den → Calls Tryz.prog F #[.agg #[.bool (neg p), v1, v2], .agg #[.bool (neg q), u1, u2]] W (OpRet R W)) :
  Calls Tryz.prog 230 #[fracV p, fracV q, .func (.func F) #[] #[]] w fun e w' => e = .returned (wroteV R) ∧ Below w.heap.size w w' := by
 have TB := hid (fun W => both_ok p q W hp hq)
 obtain ⟨rx, ry, rc, hw⟩ := wroteV_shape R
 have HWR := hid hw
 rw [hw]
 rw [fracV_is p, fracV_is q] at TB ⊢
 have HF := hid hF
 obtain ⟨hx, hy, hr, hb⟩ := three_new w (.cells #[.string (numS p), .string (denS p)] 30) (.cells #[.string (numS q), .string (denS q)] 30) (.cells #[.string ⟨#[]⟩, .string ⟨#[]⟩] 30)
 obtain ⟨W0, hW0⟩ : ∃ W0, ((w.alloc (.cells #[.string (numS p), .string (denS p)] 30)).alloc (.cells #[.string (numS q), .string (denS q)] 30)).alloc (.cells #[.string ⟨#[]⟩, .string ⟨#[]⟩] 30) = W0 := ⟨_, rfl⟩
 rw [hW0] at hx hy hr hb
 have HR := hid hr
 have HL := hid hb
 have HW := hid hW0
 have HT := hid (ht.below hb)
 clear hx hy hr hb hW0 hw hF ht hp hq
 go_enter Tryz.func230, Tryz.ntmps230
 go_wp2_with fail
 rw [HW.out]
 refine (TB.out _).mono ?_
 rintro e W1 ⟨A1, L1, C1, A2, L2, C2, A3, L3, C3, A4, L4, C4, rfl, ⟨h1, h2⟩, ⟨h3, h4⟩, hb⟩
 have N1 := hid h1
 have N2 := hid h2
 have N3 := hid h3
 have N4 := hid h4
 clear h1 h2 h3 h4
 replace HR := hid (keep_block HR.out hb)
 replace HT := hid (HT.out.below hb)
 replace HL := hid (HL.out.trans (hb.mono HL.out.size))
 clear hb
 have hb : Below W1.heap.size W1 ((W1.alloc (.cells #[.bool (neg p), .slice A1 L1 C1, .slice A2 L2 C2] 173)).alloc (.cells #[.bool (neg q), .slice A3 L3 C3, .slice A4 L4 C4] 173)) := ((Below.refl _ _).alloc (Nat.le_refl _) _).alloc (by simp) _
 replace HR := hid (keep_block HR.out hb)
 replace HT := hid (HT.out.below hb)
 replace N1 := hid (N1.out.below hb)
 replace N2 := hid (N2.out.below hb)
 replace N3 := hid (N3.out.below hb)
 replace N4 := hid (N4.out.below hb)
 replace HL := hid (HL.out.trans (hb.mono HL.out.size))
 clear hb
 go_wp2_with fail
 refine (HF.out _ _ _ _ _ N1.out N2.out N3.out N4.out).mono ?_
 rintro e W2 ⟨s, n, d, A5, L5, C5, A6, L6, C6, rfl, ⟨hR, hd0, hln, hld⟩, h5, h6, hb⟩
 have HRR := hid hR
 have HLN := hid (And.intro hd0 (And.intro hln hld))
 have N5 := hid h5
 have N6 := hid h6
 clear hR hd0 hln hld h5 h6
 replace HR := hid (keep_block HR.out hb)
 replace HT := hid (HT.out.below hb)
 replace HL := hid (HL.out.trans (hb.mono HL.out.size))
 clear hb
 have hb : Below W2.heap.size W2 (W2.alloc (.cells #[.bool s, .slice A5 L5 C5, .slice A6 L6 C6] 173)) := (Below.refl _ _).alloc (Nat.le_refl _) _
 replace HR := hid (keep_block HR.out hb)
 replace HT := hid (HT.out.below hb)
 replace N5 := hid (N5.out.below hb)
 replace N6 := hid (N6.out.below hb)
 replace HL := hid (HL.out.trans (hb.mono HL.out.size))
 clear hb
 have TW := numWrite_any s (.slice A5 L5 C5) (.slice A6 L6 C6) n d (W2.alloc (.cells #[.bool s, .slice A5 L5 C5, .slice A6 L6 C6] 173)) HLN.out.1 N5.out N6.out HT.out HLN.out.2.1 HLN.out.2.2
 rw [HRR.out, HWR.out] at TW
 have TWH := hid TW
 clear TW
 go_wp2_with fail
 refine TWH.out.mono ?_
 rintro e W3 ⟨rfl, hb⟩
 replace HR := hid (keep_block HR.out hb)
 replace HL := hid (HL.out.trans (hb.mono HL.out.size))
 clear hb
 obtain ⟨⟨r0, r1⟩, rf0, rf1⟩ := two_at HR.out
 obtain ⟨nb, e0, e1⟩ := frac_end (x := .string rx) (y := .string ry) HR.out HL.out (by omega)
 go_wp2
 refine bodyPost_ret (v := .tuple #[.agg #[.string rx, .string ry], .int .i64 rc]) (by simp [results, Tryz.results230, go_sem, e0, e1]) rfl ⟨rfl, nb⟩
end Num
namespace Num
open Go.RowKit Go.Lib
theorem noFrac_is : noFrac = .agg #[.string ⟨#[]⟩, .string ⟨#[]⟩] := rfl
theorem sub_any (p q : Rat) (w : World) (hp : fits p = true) (hq : fits q = true) (ht : Tab w) :
  Calls Tryz.prog 229 #[fracV p, fracV q] w fun e w' => e = .returned (wroteV (p - q)) ∧ Below w.heap.size w w' := by
 have TT := hid (fun W g => two_ok p q (p - q) 294 W hp hq g (enters_of Tryz.func294 (by kernel_rfl) rfl) (fun W v1 v2 u1 u2 h1 h2 h3 h4 => by
  have h := sub_op (neg p) (neg q) v1 v2 u1 u2 (up p) p.den (up q) q.den W h1 h2 h3 h4 p.den_nz q.den_nz (by have := fits_limbs hp; omega) (by have := fits_limbs hp; omega) (by have := fits_limbs hq; omega) (by have := fits_limbs hq; omega)
  rw [ratOf_self, ratOf_self] at h
  exact h))
 obtain ⟨rx, ry, rc, hw⟩ := wroteV_shape (p - q)
 rw [hw] at TT ⊢
 clear hw
 rw [fracV_is p, fracV_is q] at TT ⊢
 obtain ⟨hx, hy, hr, hb⟩ := three_new w (.cells #[.string (numS p), .string (denS p)] 30) (.cells #[.string (numS q), .string (denS q)] 30) (.cells #[.string ⟨#[]⟩, .string ⟨#[]⟩] 30)
 have HR := hid hr
 have HL := hid hb
 have HT := hid (ht.below hb)
 clear hx hy hr hb ht hp hq
 go_enter Tryz.func229, Tryz.ntmps229
 go_wp2_with fail
 refine (TT.out _ HT.out).mono ?_
 rintro e W1 ⟨rfl, hb⟩
 replace HR := hid (keep_block HR.out hb)
 replace HL := hid (HL.out.trans (hb.mono HL.out.size))
 clear hb
 obtain ⟨⟨r0, r1⟩, rf0, rf1⟩ := two_at HR.out
 obtain ⟨nb, e0, e1⟩ := frac_end (x := .string rx) (y := .string ry) HR.out HL.out (by omega)
 go_wp2
 refine bodyPost_ret (v := .tuple #[.agg #[.string rx, .string ry], .int .i64 rc]) (by simp [results, Tryz.results229, go_sem, e0, e1]) rfl ⟨rfl, nb⟩
theorem mul_any (p q : Rat) (w : World) (hp : fits p = true) (hq : fits q = true) (ht : Tab w) :
  Calls Tryz.prog 227 #[fracV p, fracV q] w fun e w' => e = .returned (wroteV (p * q)) ∧ Below w.heap.size w w' := by
 have TT := hid (fun W g => two_ok p q (p * q) 292 W hp hq g (enters_of Tryz.func292 (by kernel_rfl) rfl) (fun W v1 v2 u1 u2 h1 h2 h3 h4 => by
  have h := mul_op (neg p) (neg q) v1 v2 u1 u2 (up p) p.den (up q) q.den W h1 h2 h3 h4 p.den_nz q.den_nz (by have := fits_limbs hp; omega) (by have := fits_limbs hp; omega) (by have := fits_limbs hq; omega) (by have := fits_limbs hq; omega)
  rw [ratOf_self, ratOf_self] at h
  exact h))
 obtain ⟨rx, ry, rc, hw⟩ := wroteV_shape (p * q)
 rw [hw] at TT ⊢
 clear hw
 rw [fracV_is p, fracV_is q] at TT ⊢
 obtain ⟨hx, hy, hr, hb⟩ := three_new w (.cells #[.string (numS p), .string (denS p)] 30) (.cells #[.string (numS q), .string (denS q)] 30) (.cells #[.string ⟨#[]⟩, .string ⟨#[]⟩] 30)
 have HR := hid hr
 have HL := hid hb
 have HT := hid (ht.below hb)
 clear hx hy hr hb ht hp hq
 go_enter Tryz.func227, Tryz.ntmps227
 go_wp2_with fail
 refine (TT.out _ HT.out).mono ?_
 rintro e W1 ⟨rfl, hb⟩
 replace HR := hid (keep_block HR.out hb)
 replace HL := hid (HL.out.trans (hb.mono HL.out.size))
 clear hb
 obtain ⟨⟨r0, r1⟩, rf0, rf1⟩ := two_at HR.out
 obtain ⟨nb, e0, e1⟩ := frac_end (x := .string rx) (y := .string ry) HR.out HL.out (by omega)
 go_wp2
 refine bodyPost_ret (v := .tuple #[.agg #[.string rx, .string ry], .int .i64 rc]) (by simp [results, Tryz.results227, go_sem, e0, e1]) rfl ⟨rfl, nb⟩
theorem div_any (p q : Rat) (w : World) (hp : fits p = true) (hq : fits q = true) (h0 : q ≠ 0) (ht : Tab w) :
  Calls Tryz.prog 151 #[fracV p, fracV q] w fun e w' => e = .returned (wroteV (p / q)) ∧ Below w.heap.size w w' := by
 have TT := hid (fun W g => two_ok p q (p / q) 231 W hp hq g (enters_of Tryz.func231 (by kernel_rfl) rfl) (fun W v1 v2 u1 u2 h1 h2 h3 h4 => by
  have h := div_op (neg p) (neg q) v1 v2 u1 u2 (up p) p.den (up q) q.den W h1 h2 h3 h4 p.den_nz q.den_nz (fun h => h0 ((up_zero q).1 h)) (by have := fits_limbs hp; omega) (by have := fits_limbs hp; omega) (by have := fits_limbs hq; omega) (by have := fits_limbs hq; omega)
  rw [ratOf_self, ratOf_self] at h
  exact h))
 obtain ⟨rx, ry, rc, hw⟩ := wroteV_shape (p / q)
 rw [hw] at TT ⊢
 clear hw
 rw [fracV_is p, fracV_is q] at TT ⊢
 obtain ⟨hx, hy, hr, hb⟩ := three_new w (.cells #[.string (numS p), .string (denS p)] 30) (.cells #[.string (numS q), .string (denS q)] 30) (.cells #[.string ⟨#[]⟩, .string ⟨#[]⟩] 30)
 have HR := hid hr
 have HL := hid hb
 have HT := hid (ht.below hb)
 clear hx hy hr hb ht hp hq
 go_enter Tryz.func151, Tryz.ntmps151
 go_wp2_with fail
 refine (TT.out _ HT.out).mono ?_
 rintro e W1 ⟨rfl, hb⟩
 replace HR := hid (keep_block HR.out hb)
 replace HL := hid (HL.out.trans (hb.mono HL.out.size))
 clear hb
 obtain ⟨⟨r0, r1⟩, rf0, rf1⟩ := two_at HR.out
 obtain ⟨nb, e0, e1⟩ := frac_end (x := .string rx) (y := .string ry) HR.out HL.out (by omega)
 go_wp2
 refine bodyPost_ret (v := .tuple #[.agg #[.string rx, .string ry], .int .i64 rc]) (by simp [results, Tryz.results151, go_sem, e0, e1]) rfl ⟨rfl, nb⟩
end Num
namespace Num
open Go.RowKit Go.Lib
theorem neg_iff (r : Rat) : neg r = true ↔ r < 0 := by
 unfold neg
 rw [decide_eq_true_iff, ← Rat.not_le, ← Rat.num_nonneg]
 omega
def cmpR (p q : Rat) : Int := if p = q then 0 else if p < q then -1 else 1
theorem cmp_of {p q : Rat} {s : Bool} {n d : Nat} (h : ratOf s n d = p - q) (hd : d ≠ 0) : cmpR p q = if n = 0 then 0 else if s then -1 else 1 := by
 unfold cmpR
 by_cases hn : n = 0
 ·subst hn
  rw [ratOf_zero] at h
  rw [if_pos rfl, if_pos]
  have h2 : p - q + q = p := Rat.sub_add_cancel
  rw [← h, Rat.zero_add] at h2
  exact h2.symm
 ·rw [if_neg hn]
  have hs := ratOf_neg s n hd
  rw [h, decide_eq_true hn, Bool.and_true] at hs
  have hne : p ≠ q := by
   rintro rfl
   rw [Rat.sub_self] at h
   have := ratOf_up s n hd
   rw [h] at this
   have h3 : n.gcd d ≤ n := Nat.gcd_le_left d (Nat.pos_of_ne_zero hn)
   have h4 : 0 < n.gcd d := Nat.gcd_pos_of_pos_left _ (Nat.pos_of_ne_zero hn)
   have h5 := Nat.div_pos h3 h4
   rw [← this] at h5
   exact absurd h5 (by decide)
  rw [if_neg hne]
  have hlt : (p < q) ↔ s = true := by
   rw [← hs, neg_iff, Rat.lt_iff_sub_pos p q, Rat.lt_iff_sub_pos (p - q) 0]
   have : (0 : Rat) - (p - q) = q - p := by rw [Rat.sub_eq_add_neg, Rat.zero_add, Rat.neg_sub]
   rw [this]
  cases s with
  | true => rw [if_pos (hlt.2 rfl), if_pos rfl]
  | false => rw [if_neg (fun h => absurd (hlt.1 h) (by decide)), if_neg (by decide)]
theorem fits_neg (q : Rat) : fits (-q) = fits q := by
 unfold fits up
 rw [Rat.neg_num, Int.natAbs_neg, Rat.neg_den]
theorem neg_of (q : Rat) : ratOf (!neg q) (up q) q.den = -q := by rw [← ratOf_negate, ratOf_self]
theorem check_ok (q : Rat) (w : World) (hq : fits q = true) : Calls Tryz.prog 233 #[fracV q] w fun e w' => e = .returned (.int .i64 0) ∧ Below w.heap.size w w' := by
 have T := hid (fun W => read_s q W hq)
 rw [fracV_is q] at T ⊢
 have hb : Below w.heap.size w (w.alloc (.cells #[.string (numS q), .string (denS q)] 30)) := (Below.refl _ _).alloc (Nat.le_refl _) _
 have HL := hid hb
 clear hb hq
 go_enter Tryz.func233, Tryz.ntmps233
 go_wp2_with fail
 refine (T.out _).mono ?_
 rintro e W1 ⟨A1, L1, C1, A2, L2, C2, rfl, _, hb⟩
 replace HL := hid (HL.out.trans (hb.mono HL.out.size))
 clear hb
 have HZ := hid HL.out.size
 go_wp2
 go_ret
 exact ⟨rfl, HL.out.alloc HZ.out _⟩
theorem neg_any (q : Rat) (w : World) (hq : fits q = true) (ht : Tab w) : Calls Tryz.prog 211 #[fracV q] w fun e w' => e = .returned (.tuple #[fracV (-q), .int .i64 0]) ∧ Below w.heap.size w w' := by
 have T := hid (fun W => read_s q W hq)
 have TW := hid (fun W v1 v2 h1 h2 g => numWrite_any (!neg q) v1 v2 (up q) q.den W q.den_nz h1 h2 g (by have := fits_limbs hq; omega) (by have := fits_limbs hq; omega))
 rw [neg_of, wroteV_ok (by rw [fits_neg]; exact hq), fracV_is (-q)] at TW
 rw [fracV_is (-q)]
 rw [fracV_is q] at T ⊢
 obtain ⟨nx, hnx⟩ : ∃ s, numS (-q) = s := ⟨_, rfl⟩
 obtain ⟨ny, hny⟩ : ∃ s, denS (-q) = s := ⟨_, rfl⟩
 rw [hnx, hny] at TW ⊢
 clear hnx hny
 have hb : Below w.heap.size w ((w.alloc (.cells #[.string (numS q), .string (denS q)] 30)).alloc (.cells #[.string ⟨#[]⟩, .string ⟨#[]⟩] 30)) := ((Below.refl _ _).alloc (Nat.le_refl _) _).alloc (by simp) _
 have hr := heap_alloc_new (w.alloc (.cells #[.string (numS q), .string (denS q)] 30)) (.cells #[.string ⟨#[]⟩, .string ⟨#[]⟩] 30)
 rw [World.size_alloc] at hr
 have HR := hid hr
 have HL := hid hb
 have HT := hid (ht.below hb)
 clear hb hr ht hq
 have hnot : ∀ (x : Bool) (w : World), (Op.unary .not (.bool x)).run Tryz.prog w = .ok (.bool (!x)) w := fun _ _ => rfl
 go_enter Tryz.func211, Tryz.ntmps211
 go_wp2_with fail
 refine (T.out _).mono ?_
 rintro e W1 ⟨A1, L1, C1, A2, L2, C2, rfl, ⟨h1, h2⟩, hb⟩
 have N1 := hid h1
 have N2 := hid h2
 clear h1 h2
 replace HR := hid (keep_block HR.out hb)
 replace HT := hid (HT.out.below hb)
 replace HL := hid (HL.out.trans (hb.mono HL.out.size))
 clear hb
 have hb : Below W1.heap.size W1 (W1.alloc (.cells #[.bool (!neg q), .slice A1 L1 C1, .slice A2 L2 C2] 173)) := (Below.refl _ _).alloc (Nat.le_refl _) _
 replace HR := hid (keep_block HR.out hb)
 replace HT := hid (HT.out.below hb)
 replace N1 := hid (N1.out.below hb)
 replace N2 := hid (N2.out.below hb)
 replace HL := hid (HL.out.trans (hb.mono HL.out.size))
 clear hb
 go_wp2_with fail
 refine (TW.out _ _ _ N1.out N2.out HT.out).mono ?_
 rintro e W2 ⟨rfl, hb⟩
 replace HR := hid (keep_block HR.out hb)
 replace HL := hid (HL.out.trans (hb.mono HL.out.size))
 clear hb
 obtain ⟨⟨r0, r1⟩, rf0, rf1⟩ := two_at HR.out
 obtain ⟨nb, e0, e1⟩ := frac_end (x := .string nx) (y := .string ny) HR.out HL.out (by omega)
 go_wp2
 refine bodyPost_ret (v := .tuple #[.agg #[.string nx, .string ny], .int .i64 0]) (by simp [results, Tryz.results211, go_sem, e0, e1]) rfl ⟨rfl, nb⟩
theorem compare_q (p q : Rat) (w : World) (hp : fits p = true) (hq : fits q = true) : Calls Tryz.prog 141 #[fracV p, fracV q] w fun e w' => e = .returned (.tuple #[.int .i64 (cmpR p q), .int .i64 0]) ∧ Below w.heap.size w w' := by
 have T := hid (fun W => both_ok p q W hp hq)
 have TS := hid (fun W v1 v2 u1 u2 h1 h2 h3 h4 => sum_any (neg p) (!neg q) v1 v2 u1 u2 (up p) p.den (up q) q.den W h1 h2 h3 h4 (by have := fits_limbs hp; omega) (by have := fits_limbs hp; omega) (by have := fits_limbs hq; omega) (by have := fits_limbs hq; omega))
 have hsum := ratOf_add (neg p) (!neg q) (up p) p.den (up q) q.den p.den_nz q.den_nz
 rw [neg_of, ratOf_self, ← Rat.sub_eq_add_neg] at hsum
 have hcmp := cmp_of hsum.symm (Nat.mul_ne_zero p.den_nz q.den_nz)
 obtain ⟨s, hs⟩ : ∃ s, sumSign (neg p) (!neg q) (up p * q.den) (up q * p.den) = s := ⟨_, rfl⟩
 obtain ⟨n, hn⟩ : ∃ n, sumNum (neg p) (!neg q) (up p * q.den) (up q * p.den) = n := ⟨_, rfl⟩
 rw [hs, hn] at TS hcmp
 have HCM := hid hcmp
 obtain ⟨cc, hcc⟩ : ∃ c, cmpR p q = c := ⟨_, rfl⟩
 have HCC := hid hcc
 rw [hcc]
 clear hsum hcmp hs hn hcc hp hq
 rw [fracV_is p, fracV_is q] at T ⊢
 have hb : Below w.heap.size w ((w.alloc (.cells #[.string (numS p), .string (denS p)] 30)).alloc (.cells #[.string (numS q), .string (denS q)] 30)) := ((Below.refl _ _).alloc (Nat.le_refl _) _).alloc (by simp) _
 have HL := hid hb
 clear hb
 have hnot : ∀ (x : Bool) (w : World), (Op.unary .not (.bool x)).run Tryz.prog w = .ok (.bool (!x)) w := fun _ _ => rfl
 go_enter Tryz.func141, Tryz.ntmps141
 go_wp2_with fail
 refine (T.out _).mono ?_
 rintro e W1 ⟨A1, L1, C1, A2, L2, C2, A3, L3, C3, A4, L4, C4, rfl, ⟨h1, h2⟩, ⟨h3, h4⟩, hb⟩
 have N1 := hid h1
 have N2 := hid h2
 have N3 := hid h3
 have N4 := hid h4
 clear h1 h2 h3 h4
 replace HL := hid (HL.out.trans (hb.mono HL.out.size))
 clear hb
 have hb : Below W1.heap.size W1 ((W1.alloc (.cells #[.bool (neg p), .slice A1 L1 C1, .slice A2 L2 C2] 173)).alloc (.cells #[.bool (!neg q), .slice A3 L3 C3, .slice A4 L4 C4] 173)) := ((Below.refl _ _).alloc (Nat.le_refl _) _).alloc (by simp) _
 replace N1 := hid (N1.out.below hb)
 replace N2 := hid (N2.out.below hb)
 replace N3 := hid (N3.out.below hb)
 replace N4 := hid (N4.out.below hb)
 replace HL := hid (HL.out.trans (hb.mono HL.out.size))
 clear hb
 go_wp2_with fail
 refine (TS.out _ _ _ _ _ N1.out N2.out N3.out N4.out).mono ?_
 rintro e W2 ⟨A5, L5, C5, A6, L6, C6, rfl, h5, h6, hb⟩
 have N5 := hid h5
 clear h5 h6
 replace HL := hid (HL.out.trans (hb.mono HL.out.size))
 clear hb
 have hb : Below W2.heap.size W2 (W2.alloc (.cells #[.bool s, .slice A5 L5 C5, .slice A6 L6 C6] 173)) := (Below.refl _ _).alloc (Nat.le_refl _) _
 replace N5 := hid (N5.out.below hb)
 replace HL := hid (HL.out.trans (hb.mono HL.out.size))
 clear hb
 go_wp2_with fail
 refine (zero_any _ n _ N5.out).mono ?_
 rintro e W3 ⟨rfl, rfl⟩
 by_cases h0 : n = 0
 ·have hd : decide (n = 0) = true := decide_eq_true h0
  have HE : Hid (cc = 0) := by rw [← HCC.out, HCM.out, if_pos h0]; exact hid rfl
  clear h0
  rw [hd]
  go_wp2
  go_ret2
  exact ⟨by rw [HE.out]; rfl, HL.out⟩
 ·have hd : decide (n = 0) = false := decide_eq_false h0
  rw [hd]
  cases s with
  | true =>
   have HE : Hid (cc = -1) := by rw [← HCC.out, HCM.out, if_neg h0, if_pos rfl]; exact hid rfl
   clear h0
   go_wp2
   go_ret2
   exact ⟨by rw [HE.out]; rfl, HL.out⟩
  | false =>
   have HE : Hid (cc = 1) := by rw [← HCC.out, HCM.out, if_neg h0, if_neg (by decide)]; exact hid rfl
   clear h0
   go_wp2
   go_ret2
   exact ⟨by rw [HE.out]; rfl, HL.out⟩
end Num
namespace Num
open Go.RowKit Go.Lib
end Num
namespace Num
open Go.RowKit Go.Lib
theorem up_int (n : Int) : up (n : Rat) = n.natAbs := by unfold up; rw [Rat.num_intCast]
theorem den_int (n : Int) : (n : Rat).den = 1 := Rat.den_intCast n
theorem dec_len_of {n k : Nat} (hk : 0 < k) (h : n < 10 ^ k) : (Lib.decDigits n).length ≤ k := (decDigits_length_iff hk).2 h
theorem small_pow {a k : Nat} (hk : 18 < k) (h : a ≤ 1000000000000000000) : a < 10 ^ k := by
 have h18 : (10 : Nat) ^ 18 = 1000000000000000000 := by decide
 rw [← h18] at h
 exact Nat.lt_of_le_of_lt h (Nat.pow_lt_pow_right (by decide) hk)
theorem dec_small {a k : Nat} (hk : 18 < k) (h : a ≤ 1000000000000000000) : (Lib.decDigits a).length ≤ k := dec_len_of (by omega) (small_pow hk h)
theorem fits_int (n : Int) (h : n.natAbs ≤ 1000000000000000000) : fits (n : Rat) = true := by
 unfold fits
 rw [up_int, den_int, decide_eq_true (dec_small (k := 300) (by decide) h), decDigits_one]; rfl
theorem ratio_of (n d : Int) (hd : d ≠ 0) : ratOf (neg (n : Rat) != neg (d : Rat)) n.natAbs d.natAbs = (n : Rat) / (d : Rat) := by
 have h := ratOf_div (neg (n : Rat)) (neg (d : Rat)) (up (n : Rat)) (n : Rat).den (up (d : Rat)) (d : Rat).den (by rw [up_int]; omega) (d : Rat).den_nz
 rw [ratOf_self, ratOf_self, up_int, up_int, den_int, den_int, Nat.mul_one, Nat.one_mul] at h
 exact h.symm
end Num
namespace Num
open Go.RowKit Go.Lib
def numVal (q : Rat) : Value := .agg #[.int .i64 1, .string (numS q), .string (denS q), .string ⟨#[]⟩, .bool false, .int .i64 0, .int .i64 0, .int .i64 0, .slice none 0 0]
theorem numVal_is (q : Rat) : numVal q = .agg #[.int .i64 1, .string (numS q), .string (denS q), .string ⟨#[]⟩, .bool false, .int .i64 0, .int .i64 0, .int .i64 0, .slice none 0 0] := rfl
def faultVal (c : Int) : Value := .agg #[.int .i64 4, .string ⟨#[]⟩, .string ⟨#[]⟩, .string ⟨#[]⟩, .bool false, .int .i64 c, .int .i64 0, .int .i64 0, .slice none 0 0]
theorem faultVal_is (c : Int) : faultVal c = .agg #[.int .i64 4, .string ⟨#[]⟩, .string ⟨#[]⟩, .string ⟨#[]⟩, .bool false, .int .i64 c, .int .i64 0, .int .i64 0, .slice none 0 0] := rfl
def faultTexts : Array Value := #[.string ⟨#[]⟩, .string ⟨#[35, 68, 73, 86, 47, 48, 33]⟩, .string ⟨#[35, 86, 65, 76, 85, 69, 33]⟩, .string ⟨#[35, 82, 69, 70, 33]⟩, .string ⟨#[35, 78, 65, 77, 69, 63]⟩, .string ⟨#[35, 78, 85, 77, 33]⟩, .string ⟨#[35, 78, 47, 65]⟩, .string ⟨#[35, 83, 80, 73, 76, 76, 33]⟩, .string ⟨#[35, 67, 89, 67, 76, 69, 33]⟩]
def Past (b : Nat) : Prop := 1 < b ∧ 3 < b
structure Env (w : World) : Prop where
 tab : Tab w
 faults : ∀ i, i < 9 → w.cell? ⟨1, i, none⟩ = faultTexts[i]?
 room : Past w.heap.size
theorem Env.below {w w' : World} (h : Env w) (hb : Below w.heap.size w w') : Env w' :=
 ⟨h.tab.below hb, fun i hi => (hb.cell (p := ⟨1, i, none⟩) h.room.1).trans (h.faults i hi), Nat.lt_of_lt_of_le h.room.1 hb.size, Nat.lt_of_lt_of_le h.room.2 hb.size⟩
theorem zeros_num (q : Rat) (w : World) : Calls Tryz.prog 259 #[.agg #[.int .i64 1, .string (numS q), .string (denS q), .string ⟨#[]⟩, .bool false, .int .i64 0, .int .i64 0, .int .i64 0, .slice none 0 0]] w fun e w' => e = .returned (.int .i64 0) ∧ Below w.heap.size w w' := by
 go_enter Tryz.func259, Tryz.ntmps259
 go_wp2
 go_ret
 exact ⟨rfl, (Below.refl _ _).alloc (Nat.le_refl _) _⟩
theorem zeros_fault (c : Int) (w : World) : Calls Tryz.prog 259 #[.agg #[.int .i64 4, .string ⟨#[]⟩, .string ⟨#[]⟩, .string ⟨#[]⟩, .bool false, .int .i64 c, .int .i64 0, .int .i64 0, .slice none 0 0]] w fun e w' => e = .returned (.int .i64 0) ∧ Below w.heap.size w w' := by
 go_enter Tryz.func259, Tryz.ntmps259
 go_wp2
 go_ret
 exact ⟨rfl, (Below.refl _ _).alloc (Nat.le_refl _) _⟩
theorem zeros_arr (r s : Int) (A : Option Addr) (L C : Nat) (w : World) : Calls Tryz.prog 259 #[.agg #[.int .i64 5, .string ⟨#[]⟩, .string ⟨#[]⟩, .string ⟨#[]⟩, .bool false, .int .i64 0, .int .i64 r, .int .i64 s, .slice A L C]] w fun e w' => e = .returned (.int .i64 0) ∧ Below w.heap.size w w' := by
 go_enter Tryz.func259, Tryz.ntmps259
 go_wp2
 go_ret
 exact ⟨rfl, (Below.refl _ _).alloc (Nat.le_refl _) _⟩
theorem faultText_any (c : Int) (h1 : 1 ≤ c) (h2 : c ≤ 8) (w : World) (hE : Env w) : Calls Tryz.prog 261 #[.int .i64 c] w fun e w' => ∃ t : ByteArray, e = .returned (.string t) ∧ (t.toList == []) = false ∧ w' = w := by
 obtain ⟨i, rfl⟩ : ∃ i : Nat, c = (i : Int) := ⟨c.toNat, by omega⟩
 have hi : i < 9 := by omega
 have hc := hE.faults i hi
 have hts : ∃ t : ByteArray, faultTexts[i]? = some (.string t) ∧ (t.toList == []) = false := by
  have : i = 1 ∨ i = 2 ∨ i = 3 ∨ i = 4 ∨ i = 5 ∨ i = 6 ∨ i = 7 ∨ i = 8 := by omega
  rcases this with rfl | rfl | rfl | rfl | rfl | rfl | rfl | rfl <;> exact ⟨_, rfl, by rw [Lib.toList_data]; rfl⟩
 obtain ⟨t, ht, hne⟩ := hts
 rw [ht] at hc
 have HN := hid hne
 clear ht hne hE
 go_enter Tryz.func261, Tryz.ntmps261
 go_wp2
 go_ret
 exact ⟨t, rfl, HN.out, rfl⟩
def Nine (W : World) (b : Nat) (x0 x1 x2 x3 x4 x5 x6 x7 x8 : Value) : Prop :=
 (W.cell? ⟨b, 0, none⟩ = some x0 ∧ W.cell? ⟨b, 1, none⟩ = some x1 ∧ W.cell? ⟨b, 2, none⟩ = some x2 ∧ W.cell? ⟨b, 3, none⟩ = some x3 ∧ W.cell? ⟨b, 4, none⟩ = some x4 ∧ W.cell? ⟨b, 5, none⟩ = some x5 ∧ W.cell? ⟨b, 6, none⟩ = some x6 ∧ W.cell? ⟨b, 7, none⟩ = some x7 ∧ W.cell? ⟨b, 8, none⟩ = some x8) ∧
 W.frozen? ⟨b, 0, none⟩ = false ∧ W.frozen? ⟨b, 1, none⟩ = false ∧ W.frozen? ⟨b, 2, none⟩ = false ∧ W.frozen? ⟨b, 3, none⟩ = false ∧ W.frozen? ⟨b, 4, none⟩ = false ∧ W.frozen? ⟨b, 5, none⟩ = false ∧ W.frozen? ⟨b, 6, none⟩ = false ∧ W.frozen? ⟨b, 7, none⟩ = false ∧ W.frozen? ⟨b, 8, none⟩ = false
theorem nine_at {W : World} {b : Nat} {x0 x1 x2 x3 x4 x5 x6 x7 x8 : Value} {T : TypeId} (h : W.heap[b]? = some (.cells #[x0, x1, x2, x3, x4, x5, x6, x7, x8] T (0, 0))) : Nine W b x0 x1 x2 x3 x4 x5 x6 x7 x8 :=
 ⟨⟨Lib.cell_of_heap h 0, Lib.cell_of_heap h 1, Lib.cell_of_heap h 2, Lib.cell_of_heap h 3, Lib.cell_of_heap h 4, Lib.cell_of_heap h 5, Lib.cell_of_heap h 6, Lib.cell_of_heap h 7, Lib.cell_of_heap h 8⟩,
  by rw [Lib.frozen_of_heap h 0], by rw [Lib.frozen_of_heap h 1], by rw [Lib.frozen_of_heap h 2], by rw [Lib.frozen_of_heap h 3], by rw [Lib.frozen_of_heap h 4], by rw [Lib.frozen_of_heap h 5], by rw [Lib.frozen_of_heap h 6], by rw [Lib.frozen_of_heap h 7], by rw [Lib.frozen_of_heap h 8]⟩
theorem check_num (q : Rat) (w : World) (hq : fits q = true) (hE : Env w) : Calls Tryz.prog 198 #[.agg #[.int .i64 1, .string (numS q), .string (denS q), .string ⟨#[]⟩, .bool false, .int .i64 0, .int .i64 0, .int .i64 0, .slice none 0 0]] w fun e w' => e = .returned (.int .i64 0) ∧ Below w.heap.size w w' := by
 have TC := hid (fun W => check_ok q W hq)
 rw [fracV_is q] at TC
 clear hq
 have HX := hid (heap_alloc_new w (.cells #[.int .i64 1, .string (numS q), .string (denS q), .string ⟨#[]⟩, .bool false, .int .i64 0, .int .i64 0, .int .i64 0, .slice none 0 0] 32))
 have HL := hid (show Below w.heap.size w (w.alloc (.cells #[.int .i64 1, .string (numS q), .string (denS q), .string ⟨#[]⟩, .bool false, .int .i64 0, .int .i64 0, .int .i64 0, .slice none 0 0] 32)) from (Below.refl _ _).alloc (Nat.le_refl _) _)
 have HE := hid (hE.below HL.out)
 clear hE
 go_enter Tryz.func198, Tryz.ntmps198
 go_wp2_with fail
 refine (zeros_num q _).mono ?_
 rintro e W1 ⟨rfl, hb⟩
 replace HX := hid (keep_block HX.out hb)
 replace HE := hid (HE.out.below hb)
 replace HL := hid (HL.out.trans (hb.mono HL.out.size))
 clear hb
 obtain ⟨⟨x0, x1, x2, x3, x4, x5, x6, x7, x8⟩, _⟩ := nine_at HX.out
 go_wp2_with fail
 refine (TC.out _).mono ?_
 rintro e W2 ⟨rfl, hb⟩
 replace HL := hid (HL.out.trans (hb.mono HL.out.size))
 clear hb
 go_wp2
 go_ret
 exact ⟨rfl, HL.out⟩
theorem check_fault (c : Int) (w : World) (h1 : 1 ≤ c) (h2 : c ≤ 8) (hE : Env w) : Calls Tryz.prog 198 #[.agg #[.int .i64 4, .string ⟨#[]⟩, .string ⟨#[]⟩, .string ⟨#[]⟩, .bool false, .int .i64 c, .int .i64 0, .int .i64 0, .slice none 0 0]] w fun e w' => e = .returned (.int .i64 0) ∧ Below w.heap.size w w' := by
 have HX := hid (heap_alloc_new w (.cells #[.int .i64 4, .string ⟨#[]⟩, .string ⟨#[]⟩, .string ⟨#[]⟩, .bool false, .int .i64 c, .int .i64 0, .int .i64 0, .slice none 0 0] 32))
 have HL := hid (show Below w.heap.size w (w.alloc (.cells #[.int .i64 4, .string ⟨#[]⟩, .string ⟨#[]⟩, .string ⟨#[]⟩, .bool false, .int .i64 c, .int .i64 0, .int .i64 0, .slice none 0 0] 32)) from (Below.refl _ _).alloc (Nat.le_refl _) _)
 have HE := hid (hE.below HL.out)
 clear hE
 go_enter Tryz.func198, Tryz.ntmps198
 go_wp2_with fail
 refine (zeros_fault c _).mono ?_
 rintro e W1 ⟨rfl, hb⟩
 replace HX := hid (keep_block HX.out hb)
 replace HE := hid (HE.out.below hb)
 replace HL := hid (HL.out.trans (hb.mono HL.out.size))
 clear hb
 obtain ⟨⟨x0, x1, x2, x3, x4, x5, x6, x7, x8⟩, _⟩ := nine_at HX.out
 go_wp2_with fail
 refine (faultText_any c h1 h2 _ HE.out).mono ?_
 rintro e W2 ⟨t, rfl, ht, rfl⟩
 go_wp2
 go_ret
 exact ⟨rfl, HL.out⟩
end Num
namespace Num
open Go.RowKit Go.Lib
theorem set9_at {W : World} {R : Nat} {T : TypeId} {y0 y1 y2 y3 y4 y5 y6 y7 y8 : Value} (hR : W.heap[R]? = some (.cells #[y0, y1, y2, y3, y4, y5, y6, y7, y8] T (0, 0))) (x0 x1 x2 x3 x4 x5 x6 x7 x8 : Value) : (((((((((W.setCell ⟨R, 0, none⟩ x0).setCell ⟨R, 1, none⟩ x1).setCell ⟨R, 2, none⟩ x2).setCell ⟨R, 3, none⟩ x3).setCell ⟨R, 4, none⟩ x4).setCell ⟨R, 5, none⟩ x5).setCell ⟨R, 6, none⟩ x6).setCell ⟨R, 7, none⟩ x7).setCell ⟨R, 8, none⟩ x8).heap[R]? = some (.cells #[x0, x1, x2, x3, x4, x5, x6, x7, x8] T (0, 0)) := by
 have h0 := heap_setCell_at hR 0 x0
 have h1 := heap_setCell_at h0 1 x1
 have h2 := heap_setCell_at h1 2 x2
 have h3 := heap_setCell_at h2 3 x3
 have h4 := heap_setCell_at h3 4 x4
 have h5 := heap_setCell_at h4 5 x5
 have h6 := heap_setCell_at h5 6 x6
 have h7 := heap_setCell_at h6 7 x7
 have h8 := heap_setCell_at h7 8 x8
 rw [h8]
 simp
theorem set9_other (W : World) (R : Nat) (x0 x1 x2 x3 x4 x5 x6 x7 x8 : Value) {k : Nat} (hk : k ≠ R) : (((((((((W.setCell ⟨R, 0, none⟩ x0).setCell ⟨R, 1, none⟩ x1).setCell ⟨R, 2, none⟩ x2).setCell ⟨R, 3, none⟩ x3).setCell ⟨R, 4, none⟩ x4).setCell ⟨R, 5, none⟩ x5).setCell ⟨R, 6, none⟩ x6).setCell ⟨R, 7, none⟩ x7).setCell ⟨R, 8, none⟩ x8).heap[k]? = W.heap[k]? := (Below.heap_setCell ((((((((W.setCell ⟨R, 0, none⟩ x0).setCell ⟨R, 1, none⟩ x1).setCell ⟨R, 2, none⟩ x2).setCell ⟨R, 3, none⟩ x3).setCell ⟨R, 4, none⟩ x4).setCell ⟨R, 5, none⟩ x5).setCell ⟨R, 6, none⟩ x6).setCell ⟨R, 7, none⟩ x7) ⟨R, 8, none⟩ x8 k hk).trans ((Below.heap_setCell (((((((W.setCell ⟨R, 0, none⟩ x0).setCell ⟨R, 1, none⟩ x1).setCell ⟨R, 2, none⟩ x2).setCell ⟨R, 3, none⟩ x3).setCell ⟨R, 4, none⟩ x4).setCell ⟨R, 5, none⟩ x5).setCell ⟨R, 6, none⟩ x6) ⟨R, 7, none⟩ x7 k hk).trans ((Below.heap_setCell ((((((W.setCell ⟨R, 0, none⟩ x0).setCell ⟨R, 1, none⟩ x1).setCell ⟨R, 2, none⟩ x2).setCell ⟨R, 3, none⟩ x3).setCell ⟨R, 4, none⟩ x4).setCell ⟨R, 5, none⟩ x5) ⟨R, 6, none⟩ x6 k hk).trans ((Below.heap_setCell (((((W.setCell ⟨R, 0, none⟩ x0).setCell ⟨R, 1, none⟩ x1).setCell ⟨R, 2, none⟩ x2).setCell ⟨R, 3, none⟩ x3).setCell ⟨R, 4, none⟩ x4) ⟨R, 5, none⟩ x5 k hk).trans ((Below.heap_setCell ((((W.setCell ⟨R, 0, none⟩ x0).setCell ⟨R, 1, none⟩ x1).setCell ⟨R, 2, none⟩ x2).setCell ⟨R, 3, none⟩ x3) ⟨R, 4, none⟩ x4 k hk).trans ((Below.heap_setCell (((W.setCell ⟨R, 0, none⟩ x0).setCell ⟨R, 1, none⟩ x1).setCell ⟨R, 2, none⟩ x2) ⟨R, 3, none⟩ x3 k hk).trans ((Below.heap_setCell ((W.setCell ⟨R, 0, none⟩ x0).setCell ⟨R, 1, none⟩ x1) ⟨R, 2, none⟩ x2 k hk).trans ((Below.heap_setCell (W.setCell ⟨R, 0, none⟩ x0) ⟨R, 1, none⟩ x1 k hk).trans (Below.heap_setCell W ⟨R, 0, none⟩ x0 k hk))))))))
theorem nine_end {w W : World} {R : Nat} {T : TypeId} {x0 x1 x2 x3 x4 x5 x6 x7 x8 y0 y1 y2 y3 y4 y5 y6 y7 y8 : Value} (hR : W.heap[R]? = some (.cells #[y0, y1, y2, y3, y4, y5, y6, y7, y8] T (0, 0))) (hb : Below w.heap.size w W) (hge : w.heap.size ≤ R) :
  Below w.heap.size w (((((((((W.setCell ⟨R, 0, none⟩ x0).setCell ⟨R, 1, none⟩ x1).setCell ⟨R, 2, none⟩ x2).setCell ⟨R, 3, none⟩ x3).setCell ⟨R, 4, none⟩ x4).setCell ⟨R, 5, none⟩ x5).setCell ⟨R, 6, none⟩ x6).setCell ⟨R, 7, none⟩ x7).setCell ⟨R, 8, none⟩ x8) ∧ (((((((((W.setCell ⟨R, 0, none⟩ x0).setCell ⟨R, 1, none⟩ x1).setCell ⟨R, 2, none⟩ x2).setCell ⟨R, 3, none⟩ x3).setCell ⟨R, 4, none⟩ x4).setCell ⟨R, 5, none⟩ x5).setCell ⟨R, 6, none⟩ x6).setCell ⟨R, 7, none⟩ x7).setCell ⟨R, 8, none⟩ x8).cell? ⟨R, 0, none⟩ = some x0 ∧ (((((((((W.setCell ⟨R, 0, none⟩ x0).setCell ⟨R, 1, none⟩ x1).setCell ⟨R, 2, none⟩ x2).setCell ⟨R, 3, none⟩ x3).setCell ⟨R, 4, none⟩ x4).setCell ⟨R, 5, none⟩ x5).setCell ⟨R, 6, none⟩ x6).setCell ⟨R, 7, none⟩ x7).setCell ⟨R, 8, none⟩ x8).cell? ⟨R, 1, none⟩ = some x1 ∧ (((((((((W.setCell ⟨R, 0, none⟩ x0).setCell ⟨R, 1, none⟩ x1).setCell ⟨R, 2, none⟩ x2).setCell ⟨R, 3, none⟩ x3).setCell ⟨R, 4, none⟩ x4).setCell ⟨R, 5, none⟩ x5).setCell ⟨R, 6, none⟩ x6).setCell ⟨R, 7, none⟩ x7).setCell ⟨R, 8, none⟩ x8).cell? ⟨R, 2, none⟩ = some x2 ∧ (((((((((W.setCell ⟨R, 0, none⟩ x0).setCell ⟨R, 1, none⟩ x1).setCell ⟨R, 2, none⟩ x2).setCell ⟨R, 3, none⟩ x3).setCell ⟨R, 4, none⟩ x4).setCell ⟨R, 5, none⟩ x5).setCell ⟨R, 6, none⟩ x6).setCell ⟨R, 7, none⟩ x7).setCell ⟨R, 8, none⟩ x8).cell? ⟨R, 3, none⟩ = some x3 ∧ (((((((((W.setCell ⟨R, 0, none⟩ x0).setCell ⟨R, 1, none⟩ x1).setCell ⟨R, 2, none⟩ x2).setCell ⟨R, 3, none⟩ x3).setCell ⟨R, 4, none⟩ x4).setCell ⟨R, 5, none⟩ x5).setCell ⟨R, 6, none⟩ x6).setCell ⟨R, 7, none⟩ x7).setCell ⟨R, 8, none⟩ x8).cell? ⟨R, 4, none⟩ = some x4 ∧ (((((((((W.setCell ⟨R, 0, none⟩ x0).setCell ⟨R, 1, none⟩ x1).setCell ⟨R, 2, none⟩ x2).setCell ⟨R, 3, none⟩ x3).setCell ⟨R, 4, none⟩ x4).setCell ⟨R, 5, none⟩ x5).setCell ⟨R, 6, none⟩ x6).setCell ⟨R, 7, none⟩ x7).setCell ⟨R, 8, none⟩ x8).cell? ⟨R, 5, none⟩ = some x5 ∧ (((((((((W.setCell ⟨R, 0, none⟩ x0).setCell ⟨R, 1, none⟩ x1).setCell ⟨R, 2, none⟩ x2).setCell ⟨R, 3, none⟩ x3).setCell ⟨R, 4, none⟩ x4).setCell ⟨R, 5, none⟩ x5).setCell ⟨R, 6, none⟩ x6).setCell ⟨R, 7, none⟩ x7).setCell ⟨R, 8, none⟩ x8).cell? ⟨R, 6, none⟩ = some x6 ∧ (((((((((W.setCell ⟨R, 0, none⟩ x0).setCell ⟨R, 1, none⟩ x1).setCell ⟨R, 2, none⟩ x2).setCell ⟨R, 3, none⟩ x3).setCell ⟨R, 4, none⟩ x4).setCell ⟨R, 5, none⟩ x5).setCell ⟨R, 6, none⟩ x6).setCell ⟨R, 7, none⟩ x7).setCell ⟨R, 8, none⟩ x8).cell? ⟨R, 7, none⟩ = some x7 ∧ (((((((((W.setCell ⟨R, 0, none⟩ x0).setCell ⟨R, 1, none⟩ x1).setCell ⟨R, 2, none⟩ x2).setCell ⟨R, 3, none⟩ x3).setCell ⟨R, 4, none⟩ x4).setCell ⟨R, 5, none⟩ x5).setCell ⟨R, 6, none⟩ x6).setCell ⟨R, 7, none⟩ x7).setCell ⟨R, 8, none⟩ x8).cell? ⟨R, 8, none⟩ = some x8 := by
 have hF := set9_at hR x0 x1 x2 x3 x4 x5 x6 x7 x8
 exact ⟨(((((((((hb.setCell (p := ⟨R, 0, none⟩) hge _).setCell (p := ⟨R, 1, none⟩) hge _).setCell (p := ⟨R, 2, none⟩) hge _).setCell (p := ⟨R, 3, none⟩) hge _).setCell (p := ⟨R, 4, none⟩) hge _).setCell (p := ⟨R, 5, none⟩) hge _).setCell (p := ⟨R, 6, none⟩) hge _).setCell (p := ⟨R, 7, none⟩) hge _).setCell (p := ⟨R, 8, none⟩) hge _), Lib.cell_of_heap hF 0, Lib.cell_of_heap hF 1, Lib.cell_of_heap hF 2, Lib.cell_of_heap hF 3, Lib.cell_of_heap hF 4, Lib.cell_of_heap hF 5, Lib.cell_of_heap hF 6, Lib.cell_of_heap hF 7, Lib.cell_of_heap hF 8⟩
theorem two_new (w : World) (x y : Obj) : ((w.alloc x).alloc y).heap[w.heap.size]? = some x ∧ ((w.alloc x).alloc y).heap[w.heap.size + 1]? = some y ∧ Below w.heap.size w ((w.alloc x).alloc y) := by
 refine ⟨(Below.heap_alloc _ _ _ (by simp)).trans (heap_alloc_new w x), ?_, ((Below.refl _ _).alloc (Nat.le_refl _) _).alloc (by simp) _⟩
 have := heap_alloc_new (w.alloc x) y
 rw [World.size_alloc] at this
 exact this
theorem valid_of (k : Int) (n d t : ByteArray) (on : Bool) (c r s : Int) (A : Option Addr) (L C : Nat) (w : World) (hC : ∀ W, Env W → Calls Tryz.prog 198 #[.agg #[.int .i64 k, .string n, .string d, .string t, .bool on, .int .i64 c, .int .i64 r, .int .i64 s, .slice A L C]] W fun e w' => e = .returned (.int .i64 0) ∧ Below W.heap.size W w') (hE : Env w) :
  Calls Tryz.prog 200 #[.agg #[.int .i64 k, .string n, .string d, .string t, .bool on, .int .i64 c, .int .i64 r, .int .i64 s, .slice A L C]] w fun e w' => e = .returned (.agg #[.int .i64 k, .string n, .string d, .string t, .bool on, .int .i64 c, .int .i64 r, .int .i64 s, .slice A L C]) ∧ Below w.heap.size w w' := by
 have TC := hid hC
 clear hC
 obtain ⟨hx, hr, hb⟩ := two_new w (.cells #[.int .i64 k, .string n, .string d, .string t, .bool on, .int .i64 c, .int .i64 r, .int .i64 s, .slice A L C] 32) (.cells #[.int .i64 0, .string ⟨#[]⟩, .string ⟨#[]⟩, .string ⟨#[]⟩, .bool false, .int .i64 0, .int .i64 0, .int .i64 0, .slice none 0 0] 32)
 have HX := hid hx
 have HR := hid hr
 have HL := hid hb
 have HE := hid (hE.below hb)
 clear hx hr hb hE
 go_enter Tryz.func200, Tryz.ntmps200
 go_wp2_with fail
 refine (TC.out _ HE.out).mono ?_
 rintro e W1 ⟨rfl, hb⟩
 replace HX := hid (keep_block HX.out hb)
 replace HR := hid (keep_block HR.out hb)
 replace HL := hid (HL.out.trans (hb.mono HL.out.size))
 clear hb
 obtain ⟨⟨x0, x1, x2, x3, x4, x5, x6, x7, x8⟩, _⟩ := nine_at HX.out
 obtain ⟨⟨r0, r1, r2, r3, r4, r5, r6, r7, r8⟩, g0, g1, g2, g3, g4, g5, g6, g7, g8⟩ := nine_at HR.out
 obtain ⟨nb, e0, e1, e2, e3, e4, e5, e6, e7, e8⟩ := nine_end (x0 := (.int .i64 k)) (x1 := (.string n)) (x2 := (.string d)) (x3 := (.string t)) (x4 := (.bool on)) (x5 := (.int .i64 c)) (x6 := (.int .i64 r)) (x7 := (.int .i64 s)) (x8 := (.slice A L C)) HR.out HL.out (by omega)
 go_wp2
 refine bodyPost_ret (v := .agg #[.int .i64 k, .string n, .string d, .string t, .bool on, .int .i64 c, .int .i64 r, .int .i64 s, .slice A L C]) (by simp [results, Tryz.results200, go_sem, e0, e1, e2, e3, e4, e5, e6, e7, e8]) rfl ⟨rfl, nb⟩
theorem valid_num (q : Rat) (w : World) (hq : fits q = true) (hE : Env w) : Calls Tryz.prog 200 #[numVal q] w fun e w' => e = .returned (numVal q) ∧ Below w.heap.size w w' :=
 valid_of 1 (numS q) (denS q) ⟨#[]⟩ false 0 0 0 none 0 0 w (fun W h => check_num q W hq h) hE
theorem valid_fault (c : Int) (w : World) (h1 : 1 ≤ c) (h2 : c ≤ 8) (hE : Env w) : Calls Tryz.prog 200 #[faultVal c] w fun e w' => e = .returned (faultVal c) ∧ Below w.heap.size w w' :=
 valid_of 4 ⟨#[]⟩ ⟨#[]⟩ ⟨#[]⟩ false c 0 0 none 0 0 w (fun W h => check_fault c W h1 h2 h) hE
theorem number_any (q : Rat) (w : World) (hq : fits q = true) (hE : Env w) : Calls Tryz.prog 135 #[fracV q] w fun e w' => e = .returned (numVal q) ∧ Below w.heap.size w w' := by
 have TC := hid (fun W h => valid_num q W hq h)
 rw [fracV_is q, numVal_is q] at *
 obtain ⟨hx, hr, hb⟩ := two_new w (.cells #[.string (numS q), .string (denS q)] 30) (.cells #[.int .i64 0, .string ⟨#[]⟩, .string ⟨#[]⟩, .string ⟨#[]⟩, .bool false, .int .i64 0, .int .i64 0, .int .i64 0, .slice none 0 0] 32)
 have HX := hid hx
 have HR := hid hr
 have HL := hid hb
 have HE := hid (hE.below hb)
 clear hx hr hb hE
 go_enter Tryz.func135, Tryz.ntmps135
 go_wp2_with fail
 refine (TC.out _ HE.out).mono ?_
 rintro e W1 ⟨rfl, hb⟩
 replace HR := hid (keep_block HR.out hb)
 replace HL := hid (HL.out.trans (hb.mono HL.out.size))
 clear hb
 obtain ⟨⟨r0, r1, r2, r3, r4, r5, r6, r7, r8⟩, g0, g1, g2, g3, g4, g5, g6, g7, g8⟩ := nine_at HR.out
 obtain ⟨nb, e0, e1, e2, e3, e4, e5, e6, e7, e8⟩ := nine_end (x0 := (.int .i64 1)) (x1 := (.string (numS q))) (x2 := (.string (denS q))) (x3 := (.string ⟨#[]⟩)) (x4 := (.bool false)) (x5 := (.int .i64 0)) (x6 := (.int .i64 0)) (x7 := (.int .i64 0)) (x8 := (.slice none 0 0)) HR.out HL.out (by omega)
 go_wp2
 refine bodyPost_ret (v := .agg #[.int .i64 1, .string (numS q), .string (denS q), .string ⟨#[]⟩, .bool false, .int .i64 0, .int .i64 0, .int .i64 0, .slice none 0 0]) (by simp [results, Tryz.results135, go_sem, e0, e1, e2, e3, e4, e5, e6, e7, e8]) rfl ⟨rfl, nb⟩
theorem faultv_any (c : Int) (w : World) (h1 : 1 ≤ c) (h2 : c ≤ 8) (hE : Env w) : Calls Tryz.prog 113 #[.int .i64 c] w fun e w' => e = .returned (faultVal c) ∧ Below w.heap.size w w' := by
 have TC := hid (fun W h => valid_fault c W h1 h2 h)
 rw [faultVal_is c] at *
 have HR := hid (heap_alloc_new w (.cells #[.int .i64 0, .string ⟨#[]⟩, .string ⟨#[]⟩, .string ⟨#[]⟩, .bool false, .int .i64 0, .int .i64 0, .int .i64 0, .slice none 0 0] 32))
 have HL := hid (show Below w.heap.size w (w.alloc (.cells #[.int .i64 0, .string ⟨#[]⟩, .string ⟨#[]⟩, .string ⟨#[]⟩, .bool false, .int .i64 0, .int .i64 0, .int .i64 0, .slice none 0 0] 32)) from (Below.refl _ _).alloc (Nat.le_refl _) _)
 have HE := hid (hE.below HL.out)
 clear hE
 clear h1 h2
 go_enter Tryz.func113, Tryz.ntmps113
 go_wp2_with fail
 refine (TC.out _ HE.out).mono ?_
 rintro e W1 ⟨rfl, hb⟩
 replace HR := hid (keep_block HR.out hb)
 replace HL := hid (HL.out.trans (hb.mono HL.out.size))
 clear hb
 obtain ⟨⟨r0, r1, r2, r3, r4, r5, r6, r7, r8⟩, g0, g1, g2, g3, g4, g5, g6, g7, g8⟩ := nine_at HR.out
 obtain ⟨nb, e0, e1, e2, e3, e4, e5, e6, e7, e8⟩ := nine_end (x0 := (.int .i64 4)) (x1 := (.string ⟨#[]⟩)) (x2 := (.string ⟨#[]⟩)) (x3 := (.string ⟨#[]⟩)) (x4 := (.bool false)) (x5 := (.int .i64 c)) (x6 := (.int .i64 0)) (x7 := (.int .i64 0)) (x8 := (.slice none 0 0)) HR.out HL.out (by omega)
 go_wp2
 refine bodyPost_ret (v := .agg #[.int .i64 4, .string ⟨#[]⟩, .string ⟨#[]⟩, .string ⟨#[]⟩, .bool false, .int .i64 c, .int .i64 0, .int .i64 0, .slice none 0 0]) (by simp [results, Tryz.results113, go_sem, e0, e1, e2, e3, e4, e5, e6, e7, e8]) rfl ⟨rfl, nb⟩
end Num
end Go.Proofs.YtjcdeeahjkfmoaaGreatDoor
