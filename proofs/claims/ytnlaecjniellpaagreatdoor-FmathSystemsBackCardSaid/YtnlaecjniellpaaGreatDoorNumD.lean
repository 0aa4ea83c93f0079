/- Numbers as texts of digits, fractions, values and the functions of fmath: contracts of the program's functions, joined from smaller texts. Conditions stand at each theorem. -/
import Derived.Test.YtnlaecjniellpaaGreatDoorNumC

/- package exact's closures of addition, subtraction, multiplication and division. Conditions: the parts have at most 400 limbs. -/
namespace Go.Proofs.YtnlaecjniellpaaGreatDoor.Num
open Go.RowKit Go.Lib

/-- what an operation of two numbers leaves -/
def OpRet (R : Rat) (w : World) (e : Ending) (w' : World) : Prop :=
  ∃ s n d A L C A' L' C', e = .returned (.tuple #[.agg #[.bool s, .slice A L C, .slice A' L' C'], .int .i64 0]) ∧ (ratOf s n d = R ∧ d ≠ 0 ∧ (digs LB n).length ≤ 1000000 ∧ (digs LB d).length ≤ 1000000) ∧ NatAt w' (.slice A L C) n ∧ NatAt w' (.slice A' L' C') d ∧ Below w.heap.size w w'
theorem sum_len (m k : Bool) {p q K : Nat} (hp : (digs LB p).length ≤ K) (hq : (digs LB q).length ≤ K) : (digs LB (sumNum m k p q)).length ≤ K + 1 := by
  unfold sumNum
  split
  · exact digs_len_add hp hq
  · split
    · exact Nat.le_succ_of_le (Nat.le_trans (digs_len_mono LB_two (Nat.sub_le p q)) hp)
    · exact Nat.le_succ_of_le (Nat.le_trans (digs_len_mono LB_two (Nat.sub_le q p)) hq)

set_option maxHeartbeats 4000000 in
set_option maxRecDepth 100000 in
theorem add_op (m k : Bool) (v1 v2 u1 u2 : Value) (a b c d : Nat) (w : World) (h1 : NatAt w v1 a) (h2 : NatAt w v2 b) (h3 : NatAt w u1 c) (h4 : NatAt w u2 d) (hb0 : b ≠ 0) (hd0 : d ≠ 0)
    (l1 : (digs LB a).length ≤ 400) (l2 : (digs LB b).length ≤ 400) (l3 : (digs LB c).length ≤ 400) (l4 : (digs LB d).length ≤ 400) :
    Calls Tryz.prog 290 #[.agg #[.bool m, v1, v2], .agg #[.bool k, u1, u2]] w (OpRet (ratOf m a b + ratOf k c d) w) := by
  rw [ratOf_add m k a b c d hb0 hd0]
  have LEN := Lib.hid (And.intro (sum_len m k (p := a * d) (q := c * b) (K := 800) (digs_len_mul l1 l4) (digs_len_mul l3 l2)) (digs_len_mul l2 l4))
  have ND := Lib.hid (Nat.mul_ne_zero hb0 hd0)
  obtain ⟨A1, L1, C1, rfl⟩ := h1.shape
  obtain ⟨A2, L2, C2, rfl⟩ := h2.shape
  obtain ⟨A3, L3, C3, rfl⟩ := h3.shape
  obtain ⟨A4, L4, C4, rfl⟩ := h4.shape
  have T := Lib.hid (fun W g1 g2 g3 g4 => sum_any m k (.slice A1 L1 C1) (.slice A2 L2 C2) (.slice A3 L3 C3) (.slice A4 L4 C4) a b c d W g1 g2 g3 g4 (by omega) (by omega) (by omega) (by omega))
  obtain ⟨hx, hy, hr, hb⟩ := three_new w (.cells #[.bool m, .slice A1 L1 C1, .slice A2 L2 C2] 179) (.cells #[.bool k, .slice A3 L3 C3, .slice A4 L4 C4] 179) (.cells #[.bool false, .slice none 0 0, .slice none 0 0] 179)
  have HX := Lib.hid hx
  have HY := Lib.hid hy
  have HR := Lib.hid hr
  have N1 := Lib.hid (h1.below hb)
  have N2 := Lib.hid (h2.below hb)
  have N3 := Lib.hid (h3.below hb)
  have N4 := Lib.hid (h4.below hb)
  have HL := Lib.hid hb
  clear h1 h2 h3 h4 hx hy hr hb l1 l2 l3 l4 hb0 hd0
  have hnot : ∀ (x : Bool) (w : World), (Op.unary .not (.bool x)).run Tryz.prog w = .ok (.bool (!x)) w := fun _ _ => rfl
  go_enter Tryz.func290, Tryz.ntmps290
  go_wp2_with fail
  refine (T.out _ N1.out N2.out N3.out N4.out).mono ?_
  rintro e W1 ⟨A5, L5, C5, A6, L6, C6, rfl, h5, h6, hb⟩
  have N5 := Lib.hid h5
  have N6 := Lib.hid h6
  clear h5 h6
  replace HR := Lib.hid (keep_block HR.out hb)
  replace HL := Lib.hid (HL.out.trans (hb.mono HL.out.size))
  clear hb
  obtain ⟨⟨r0, r1, r2⟩, rf0, rf1, rf2⟩ := three_at HR.out
  go_wp2
  obtain ⟨⟨n1, n2, nb⟩, e0, e1, e2⟩ := num_end (s := sumSign m k (a * d) (c * b)) HR.out HL.out (by omega) N5.out N6.out
  refine bodyPost_ret (v := .tuple #[.agg #[.bool (sumSign m k (a * d) (c * b)), .slice A5 L5 C5, .slice A6 L6 C6], .int .i64 0]) (by simp [results, Tryz.results290, go_sem, e0, e1, e2]) rfl ⟨_, _, _, _, _, _, _, _, _, rfl, ⟨rfl, ND.out, by have := LEN.out.1; omega, by have := LEN.out.2; omega⟩, n1, n2, nb⟩

set_option maxHeartbeats 4000000 in
set_option maxRecDepth 100000 in
theorem sub_op (m k : Bool) (v1 v2 u1 u2 : Value) (a b c d : Nat) (w : World) (h1 : NatAt w v1 a) (h2 : NatAt w v2 b) (h3 : NatAt w u1 c) (h4 : NatAt w u2 d) (hb0 : b ≠ 0) (hd0 : d ≠ 0)
    (l1 : (digs LB a).length ≤ 400) (l2 : (digs LB b).length ≤ 400) (l3 : (digs LB c).length ≤ 400) (l4 : (digs LB d).length ≤ 400) :
    Calls Tryz.prog 291 #[.agg #[.bool m, v1, v2], .agg #[.bool k, u1, u2]] w (OpRet (ratOf m a b - ratOf k c d) w) := by
  rw [Rat.sub_eq_add_neg, ratOf_negate, ratOf_add m (!k) a b c d hb0 hd0]
  have LEN := Lib.hid (And.intro (sum_len m (!k) (p := a * d) (q := c * b) (K := 800) (digs_len_mul l1 l4) (digs_len_mul l3 l2)) (digs_len_mul l2 l4))
  have ND := Lib.hid (Nat.mul_ne_zero hb0 hd0)
  obtain ⟨A1, L1, C1, rfl⟩ := h1.shape
  obtain ⟨A2, L2, C2, rfl⟩ := h2.shape
  obtain ⟨A3, L3, C3, rfl⟩ := h3.shape
  obtain ⟨A4, L4, C4, rfl⟩ := h4.shape
  have T := Lib.hid (fun W g1 g2 g3 g4 => sum_any m (!k) (.slice A1 L1 C1) (.slice A2 L2 C2) (.slice A3 L3 C3) (.slice A4 L4 C4) a b c d W g1 g2 g3 g4 (by omega) (by omega) (by omega) (by omega))
  obtain ⟨hx, hy, hr, hb⟩ := three_new w (.cells #[.bool m, .slice A1 L1 C1, .slice A2 L2 C2] 179) (.cells #[.bool (!k), .slice A3 L3 C3, .slice A4 L4 C4] 179) (.cells #[.bool false, .slice none 0 0, .slice none 0 0] 179)
  have HX := Lib.hid hx
  have HY := Lib.hid hy
  have HR := Lib.hid hr
  have N1 := Lib.hid (h1.below hb)
  have N2 := Lib.hid (h2.below hb)
  have N3 := Lib.hid (h3.below hb)
  have N4 := Lib.hid (h4.below hb)
  have HL := Lib.hid hb
  clear h1 h2 h3 h4 hx hy hr hb l1 l2 l3 l4 hb0 hd0
  have hnot : ∀ (x : Bool) (w : World), (Op.unary .not (.bool x)).run Tryz.prog w = .ok (.bool (!x)) w := fun _ _ => rfl
  go_enter Tryz.func291, Tryz.ntmps291
  go_wp2_with fail
  refine (T.out _ N1.out N2.out N3.out N4.out).mono ?_
  rintro e W1 ⟨A5, L5, C5, A6, L6, C6, rfl, h5, h6, hb⟩
  have N5 := Lib.hid h5
  have N6 := Lib.hid h6
  clear h5 h6
  replace HR := Lib.hid (keep_block HR.out hb)
  replace HL := Lib.hid (HL.out.trans (hb.mono HL.out.size))
  clear hb
  obtain ⟨⟨r0, r1, r2⟩, rf0, rf1, rf2⟩ := three_at HR.out
  go_wp2
  obtain ⟨⟨n1, n2, nb⟩, e0, e1, e2⟩ := num_end (s := sumSign m (!k) (a * d) (c * b)) HR.out HL.out (by omega) N5.out N6.out
  refine bodyPost_ret (v := .tuple #[.agg #[.bool (sumSign m (!k) (a * d) (c * b)), .slice A5 L5 C5, .slice A6 L6 C6], .int .i64 0]) (by simp [results, Tryz.results291, go_sem, e0, e1, e2]) rfl ⟨_, _, _, _, _, _, _, _, _, rfl, ⟨rfl, ND.out, by have := LEN.out.1; omega, by have := LEN.out.2; omega⟩, n1, n2, nb⟩

set_option maxHeartbeats 4000000 in
set_option maxRecDepth 100000 in
theorem mul_op (m k : Bool) (v1 v2 u1 u2 : Value) (a b c d : Nat) (w : World) (h1 : NatAt w v1 a) (h2 : NatAt w v2 b) (h3 : NatAt w u1 c) (h4 : NatAt w u2 d) (hb0 : b ≠ 0) (hd0 : d ≠ 0)
    (l1 : (digs LB a).length ≤ 400) (l2 : (digs LB b).length ≤ 400) (l3 : (digs LB c).length ≤ 400) (l4 : (digs LB d).length ≤ 400) :
    Calls Tryz.prog 289 #[.agg #[.bool m, v1, v2], .agg #[.bool k, u1, u2]] w (OpRet (ratOf m a b * ratOf k c d) w) := by
  rw [ratOf_mul]
  have LEN := Lib.hid (And.intro (digs_len_mul l1 l3) (digs_len_mul l2 l4))
  have ND := Lib.hid (Nat.mul_ne_zero hb0 hd0)
  obtain ⟨A1, L1, C1, rfl⟩ := h1.shape
  obtain ⟨A2, L2, C2, rfl⟩ := h2.shape
  obtain ⟨A3, L3, C3, rfl⟩ := h3.shape
  obtain ⟨A4, L4, C4, rfl⟩ := h4.shape
  have T1 := Lib.hid (fun W h h' => calls_shaped (times_any (.slice A1 L1 C1) (.slice A3 L3 C3) a c W h h' (by omega) (by omega)))
  have T2 := Lib.hid (fun W h h' => calls_shaped (times_any (.slice A2 L2 C2) (.slice A4 L4 C4) b d W h h' (by omega) (by omega)))
  obtain ⟨hx, hy, hr, hb⟩ := three_new w (.cells #[.bool m, .slice A1 L1 C1, .slice A2 L2 C2] 179) (.cells #[.bool k, .slice A3 L3 C3, .slice A4 L4 C4] 179) (.cells #[.bool false, .slice none 0 0, .slice none 0 0] 179)
  have HX := Lib.hid hx
  have HY := Lib.hid hy
  have HR := Lib.hid hr
  have N1 := Lib.hid (h1.below hb)
  have N2 := Lib.hid (h2.below hb)
  have N3 := Lib.hid (h3.below hb)
  have N4 := Lib.hid (h4.below hb)
  have HL := Lib.hid hb
  clear h1 h2 h3 h4 hx hy hr hb l1 l2 l3 l4 hb0 hd0
  obtain ⟨W0, hW0⟩ : ∃ W0, ((w.alloc (.cells #[.bool m, .slice A1 L1 C1, .slice A2 L2 C2] 179)).alloc (.cells #[.bool k, .slice A3 L3 C3, .slice A4 L4 C4] 179)).alloc (.cells #[.bool false, .slice none 0 0, .slice none 0 0] 179) = W0 := ⟨_, rfl⟩
  rw [hW0] at HX HY HR N1 N2 N3 N4 HL
  have HW := Lib.hid hW0
  clear hW0
  go_enter Tryz.func289, Tryz.ntmps289
  go_wp2_with fail
  rw [HW.out]
  replace HX := Lib.hid (drew_block HX.out)
  replace HY := Lib.hid (drew_block HY.out)
  replace HR := Lib.hid (drew_block HR.out)
  replace N1 := Lib.hid (drew_nat N1.out)
  replace N2 := Lib.hid (drew_nat N2.out)
  replace N3 := Lib.hid (drew_nat N3.out)
  replace N4 := Lib.hid (drew_nat N4.out)
  replace HL := Lib.hid (HL.out.drew)
  go_region_held3 (fun W => W.cell? ⟨w.heap.size, 0, none⟩ = some (.bool m) ∧ W.cell? ⟨w.heap.size, 1, none⟩ = some (.slice A1 L1 C1) ∧ W.cell? ⟨w.heap.size, 2, none⟩ = some (.slice A2 L2 C2) ∧ W.cell? ⟨w.heap.size + 1, 0, none⟩ = some (.bool k) ∧ W.cell? ⟨w.heap.size + 1, 1, none⟩ = some (.slice A3 L3 C3) ∧ W.cell? ⟨w.heap.size + 1, 2, none⟩ = some (.slice A4 L4 C4))
    (first | (with_reducible exact cells6 HX.out HY.out) | (with_reducible exact cells6_set3 HX.out HY.out) | fail)
    ((first | (go_at_call 243; (with_reducible refine (T1.out _ N1.out N3.out).mono ?_); rintro e W1 ⟨B1, M1, D1, rfl, hp, hb⟩; have P1 := Lib.hid hp; clear hp; replace HX := Lib.hid (keep_block HX.out hb); replace HY := Lib.hid (keep_block HY.out hb); replace HR := Lib.hid (keep_block HR.out hb); replace N1 := Lib.hid (N1.out.below hb); replace N2 := Lib.hid (N2.out.below hb); replace N3 := Lib.hid (N3.out.below hb); replace N4 := Lib.hid (N4.out.below hb); replace HL := Lib.hid (HL.out.trans (hb.mono HL.out.size)); clear hb; (first | clear r0 r1 r2 rf0 rf1 rf2 | skip); obtain ⟨⟨r0, r1, r2⟩, rf0, rf1, rf2⟩ := three_at HR.out) | (go_at_call 243; (with_reducible refine (T2.out _ N2.out N4.out).mono ?_); rintro e W2 ⟨B2, M2, D2, rfl, hp, hb⟩; replace P1 := Lib.hid (P1.out.below hb); have P2 := Lib.hid hp; clear hp; replace HX := Lib.hid (keep_block HX.out hb); replace HY := Lib.hid (keep_block HY.out hb); replace HR := Lib.hid (keep_block HR.out hb); replace N1 := Lib.hid (N1.out.below hb); replace N2 := Lib.hid (N2.out.below hb); replace N3 := Lib.hid (N3.out.below hb); replace N4 := Lib.hid (N4.out.below hb); replace HL := Lib.hid (HL.out.trans (hb.mono HL.out.size)); clear hb; (first | clear r0 r1 r2 rf0 rf1 rf2 | skip); obtain ⟨⟨r0, r1, r2⟩, rf0, rf1, rf2⟩ := three_at HR.out)))
  obtain ⟨⟨n1, n2, nb⟩, e0, e1, e2⟩ := num_end (s := (!(m == k))) HR.out HL.out (by omega) P1.out P2.out
  go_wp2
  refine bodyPost_ret (v := .tuple #[.agg #[.bool (!(m == k)), .slice B1 M1 D1, .slice B2 M2 D2], .int .i64 0]) (by simp [results, Tryz.results289, go_sem, e0, e1, e2]) rfl ⟨_, _, _, _, _, _, _, _, _, rfl, ⟨rfl, ND.out, by have := LEN.out.1; omega, by have := LEN.out.2; omega⟩, n1, n2, nb⟩

set_option maxHeartbeats 4000000 in
set_option maxRecDepth 100000 in
theorem div_op (m k : Bool) (v1 v2 u1 u2 : Value) (a b c d : Nat) (w : World) (h1 : NatAt w v1 a) (h2 : NatAt w v2 b) (h3 : NatAt w u1 c) (h4 : NatAt w u2 d) (hb0 : b ≠ 0) (hd0 : d ≠ 0) (hc0 : c ≠ 0)
    (l1 : (digs LB a).length ≤ 400) (l2 : (digs LB b).length ≤ 400) (l3 : (digs LB c).length ≤ 400) (l4 : (digs LB d).length ≤ 400) :
    Calls Tryz.prog 242 #[.agg #[.bool m, v1, v2], .agg #[.bool k, u1, u2]] w (OpRet (ratOf m a b / ratOf k c d) w) := by
  rw [ratOf_div m k a b c d hc0 hd0]
  have LEN := Lib.hid (And.intro (digs_len_mul l1 l4) (digs_len_mul l2 l3))
  have ND := Lib.hid (Nat.mul_ne_zero hb0 hc0)
  obtain ⟨A1, L1, C1, rfl⟩ := h1.shape
  obtain ⟨A2, L2, C2, rfl⟩ := h2.shape
  obtain ⟨A3, L3, C3, rfl⟩ := h3.shape
  obtain ⟨A4, L4, C4, rfl⟩ := h4.shape
  have T1 := Lib.hid (fun W h h' => calls_shaped (times_any (.slice A1 L1 C1) (.slice A4 L4 C4) a d W h h' (by omega) (by omega)))
  have T2 := Lib.hid (fun W h h' => calls_shaped (times_any (.slice A2 L2 C2) (.slice A3 L3 C3) b c W h h' (by omega) (by omega)))
  have hcz : decide (c = 0) = false := decide_eq_false hc0
  obtain ⟨hx, hy, hr, hb⟩ := three_new w (.cells #[.bool m, .slice A1 L1 C1, .slice A2 L2 C2] 179) (.cells #[.bool k, .slice A3 L3 C3, .slice A4 L4 C4] 179) (.cells #[.bool false, .slice none 0 0, .slice none 0 0] 179)
  have HX := Lib.hid hx
  have HY := Lib.hid hy
  have HR := Lib.hid hr
  have N1 := Lib.hid (h1.below hb)
  have N2 := Lib.hid (h2.below hb)
  have N3 := Lib.hid (h3.below hb)
  have N4 := Lib.hid (h4.below hb)
  have HL := Lib.hid hb
  clear h1 h2 h3 h4 hx hy hr hb l1 l2 l3 l4 hb0 hd0
  obtain ⟨W0, hW0⟩ : ∃ W0, ((w.alloc (.cells #[.bool m, .slice A1 L1 C1, .slice A2 L2 C2] 179)).alloc (.cells #[.bool k, .slice A3 L3 C3, .slice A4 L4 C4] 179)).alloc (.cells #[.bool false, .slice none 0 0, .slice none 0 0] 179) = W0 := ⟨_, rfl⟩
  rw [hW0] at HX HY HR N1 N2 N3 N4 HL
  have HW := Lib.hid hW0
  clear hW0
  go_enter Tryz.func242, Tryz.ntmps242
  go_wp2_with fail
  rw [HW.out]
  obtain ⟨⟨x0, x1, x2⟩, xf0, xf1, xf2⟩ := three_at HX.out
  obtain ⟨⟨y0, y1, y2⟩, yf0, yf1, yf2⟩ := three_at HY.out
  refine (zero_any _ c _ N3.out).mono ?_
  rintro e w1 ⟨rfl, rfl⟩
  rw [hcz]
  go_wp2_with fail
  clear x0 x1 x2 xf0 xf1 xf2 y0 y1 y2 yf0 yf1 yf2
  replace HX := Lib.hid (drew_block HX.out)
  replace HY := Lib.hid (drew_block HY.out)
  replace HR := Lib.hid (drew_block HR.out)
  replace N1 := Lib.hid (drew_nat N1.out)
  replace N2 := Lib.hid (drew_nat N2.out)
  replace N3 := Lib.hid (drew_nat N3.out)
  replace N4 := Lib.hid (drew_nat N4.out)
  replace HL := Lib.hid (HL.out.drew)
  go_region_held3 (fun W => W.cell? ⟨w.heap.size, 0, none⟩ = some (.bool m) ∧ W.cell? ⟨w.heap.size, 1, none⟩ = some (.slice A1 L1 C1) ∧ W.cell? ⟨w.heap.size, 2, none⟩ = some (.slice A2 L2 C2) ∧ W.cell? ⟨w.heap.size + 1, 0, none⟩ = some (.bool k) ∧ W.cell? ⟨w.heap.size + 1, 1, none⟩ = some (.slice A3 L3 C3) ∧ W.cell? ⟨w.heap.size + 1, 2, none⟩ = some (.slice A4 L4 C4))
    (first | (with_reducible exact cells6 HX.out HY.out) | (with_reducible exact cells6_set3 HX.out HY.out) | fail)
    ((first | (go_at_call 243; (with_reducible refine (T1.out _ N1.out N4.out).mono ?_); rintro e W1 ⟨B1, M1, D1, rfl, hp, hb⟩; have P1 := Lib.hid hp; clear hp; replace HX := Lib.hid (keep_block HX.out hb); replace HY := Lib.hid (keep_block HY.out hb); replace HR := Lib.hid (keep_block HR.out hb); replace N1 := Lib.hid (N1.out.below hb); replace N2 := Lib.hid (N2.out.below hb); replace N3 := Lib.hid (N3.out.below hb); replace N4 := Lib.hid (N4.out.below hb); replace HL := Lib.hid (HL.out.trans (hb.mono HL.out.size)); clear hb; (first | clear r0 r1 r2 rf0 rf1 rf2 | skip); obtain ⟨⟨r0, r1, r2⟩, rf0, rf1, rf2⟩ := three_at HR.out) | (go_at_call 243; (with_reducible refine (T2.out _ N2.out N3.out).mono ?_); rintro e W2 ⟨B2, M2, D2, rfl, hp, hb⟩; replace P1 := Lib.hid (P1.out.below hb); have P2 := Lib.hid hp; clear hp; replace HX := Lib.hid (keep_block HX.out hb); replace HY := Lib.hid (keep_block HY.out hb); replace HR := Lib.hid (keep_block HR.out hb); replace N1 := Lib.hid (N1.out.below hb); replace N2 := Lib.hid (N2.out.below hb); replace N3 := Lib.hid (N3.out.below hb); replace N4 := Lib.hid (N4.out.below hb); replace HL := Lib.hid (HL.out.trans (hb.mono HL.out.size)); clear hb; (first | clear r0 r1 r2 rf0 rf1 rf2 | skip); obtain ⟨⟨r0, r1, r2⟩, rf0, rf1, rf2⟩ := three_at HR.out)))
  obtain ⟨⟨n1, n2, nb⟩, e0, e1, e2⟩ := num_end (s := (!(m == k))) HR.out HL.out (by omega) P1.out P2.out
  go_wp2
  refine bodyPost_ret (v := .tuple #[.agg #[.bool (!(m == k)), .slice B1 M1 D1, .slice B2 M2 D2], .int .i64 0]) (by simp [results, Tryz.results242, go_sem, e0, e1, e2]) rfl ⟨_, _, _, _, _, _, _, _, _, rfl, ⟨rfl, ND.out, by have := LEN.out.1; omega, by have := LEN.out.2; omega⟩, n1, n2, nb⟩
end Go.Proofs.YtnlaecjniellpaaGreatDoor.Num

/- package exact's 'two', Add, Sub, Mul, Div. Conditions: the fractions are valid; strconv's table of powers of ten lies as it is laid. -/
namespace Go.Proofs.YtnlaecjniellpaaGreatDoor.Num
open Go.RowKit Go.Lib

theorem wroteV_shape (R : Rat) : ∃ x y c, wroteV R = .tuple #[.agg #[.string x, .string y], .int .i64 c] := by
  by_cases h : fits R = true
  · rw [wroteV_ok h, fracV_is]; exact ⟨_, _, _, rfl⟩
  · rw [wroteV_no (by simpa using h)]; exact ⟨_, _, _, rfl⟩
theorem frac_end {w W : World} {R : Nat} {T : TypeId} {x y x0 y0 : Value} (hR : W.heap[R]? = some (.cells #[x0, y0] T (0, 0))) (hb : Below w.heap.size w W) (hge : w.heap.size ≤ R) :
    Below w.heap.size w ((W.setCell ⟨R, 0, none⟩ x).setCell ⟨R, 1, none⟩ y) ∧ ((W.setCell ⟨R, 0, none⟩ x).setCell ⟨R, 1, none⟩ y).cell? ⟨R, 0, none⟩ = some x ∧ ((W.setCell ⟨R, 0, none⟩ x).setCell ⟨R, 1, none⟩ y).cell? ⟨R, 1, none⟩ = some y := by
  have h2 := set2_at hR x y
  exact ⟨(hb.setCell (p := ⟨R, 0, none⟩) hge _).setCell (p := ⟨R, 1, none⟩) hge _, Lib.cell_of_heap h2 0, Lib.cell_of_heap h2 1⟩
theorem fits_limbs {q : Rat} (h : fits q = true) : (digs LB (up q)).length ≤ 300 ∧ (digs LB q.den).length ≤ 300 := ⟨dec_limbs (fits_up h) (by decide), dec_limbs (fits_den h) (by decide)⟩
/-- what an operation of two numbers must leave, or an error -/
def OpErr (c : Int) (w : World) (e : Ending) (w' : World) : Prop := e = .returned (.tuple #[.agg #[.bool false, .slice none 0 0, .slice none 0 0], .int .i64 c]) ∧ Below w.heap.size w w'

set_option maxHeartbeats 4000000 in
set_option maxRecDepth 100000 in
theorem two_ok (p q R : Rat) (F : FuncId) (w : World) (hp : fits p = true) (hq : fits q = true) (ht : Tab w) (eF : ∀ args w, (callFunc F args).run Tryz.prog w = .ok (.enter F args) w)
    (hF : ∀ W v1 v2 u1 u2, NatAt W v1 (up p) → NatAt W v2 p.den → NatAt W u1 (up q) → NatAt W u2 q.den → Calls Tryz.prog F #[.agg #[.bool (neg p), v1, v2], .agg #[.bool (neg q), u1, u2]] W (OpRet R W)) :
    Calls Tryz.prog 241 #[fracV p, fracV q, .func (.func F) #[] #[]] w fun e w' => e = .returned (wroteV R) ∧ Below w.heap.size w w' := by
  have TB := Lib.hid (fun W => both_ok p q W hp hq)
  obtain ⟨rx, ry, rc, hw⟩ := wroteV_shape R
  have HWR := Lib.hid hw
  rw [hw]
  rw [fracV_is p, fracV_is q] at TB ⊢
  have HF := Lib.hid hF
  obtain ⟨hx, hy, hr, hb⟩ := three_new w (.cells #[.string (numS p), .string (denS p)] 24) (.cells #[.string (numS q), .string (denS q)] 24) (.cells #[.string { data := #[] }, .string { data := #[] }] 24)
  obtain ⟨W0, hW0⟩ : ∃ W0, ((w.alloc (.cells #[.string (numS p), .string (denS p)] 24)).alloc (.cells #[.string (numS q), .string (denS q)] 24)).alloc (.cells #[.string { data := #[] }, .string { data := #[] }] 24) = W0 := ⟨_, rfl⟩
  rw [hW0] at hx hy hr hb
  have HR := Lib.hid hr
  have HL := Lib.hid hb
  have HW := Lib.hid hW0
  have HT := Lib.hid (ht.below hb)
  clear hx hy hr hb hW0 hw hF ht hp hq
  go_enter Tryz.func241, Tryz.ntmps241
  go_wp2_with fail
  rw [HW.out]
  refine (TB.out _).mono ?_
  rintro e W1 ⟨A1, L1, C1, A2, L2, C2, A3, L3, C3, A4, L4, C4, rfl, ⟨h1, h2⟩, ⟨h3, h4⟩, hb⟩
  have N1 := Lib.hid h1
  have N2 := Lib.hid h2
  have N3 := Lib.hid h3
  have N4 := Lib.hid h4
  clear h1 h2 h3 h4
  replace HR := Lib.hid (keep_block HR.out hb)
  replace HT := Lib.hid (HT.out.below hb)
  replace HL := Lib.hid (HL.out.trans (hb.mono HL.out.size))
  clear hb
  have hb : Below W1.heap.size W1 ((W1.alloc (.cells #[.bool (neg p), .slice A1 L1 C1, .slice A2 L2 C2] 179)).alloc (.cells #[.bool (neg q), .slice A3 L3 C3, .slice A4 L4 C4] 179)) := ((Below.refl _ _).alloc (Nat.le_refl _) _).alloc (by simp) _
  replace HR := Lib.hid (keep_block HR.out hb)
  replace HT := Lib.hid (HT.out.below hb)
  replace N1 := Lib.hid (N1.out.below hb)
  replace N2 := Lib.hid (N2.out.below hb)
  replace N3 := Lib.hid (N3.out.below hb)
  replace N4 := Lib.hid (N4.out.below hb)
  replace HL := Lib.hid (HL.out.trans (hb.mono HL.out.size))
  clear hb
  go_wp2_with fail
  refine (HF.out _ _ _ _ _ N1.out N2.out N3.out N4.out).mono ?_
  rintro e W2 ⟨s, n, d, A5, L5, C5, A6, L6, C6, rfl, ⟨hR, hd0, hln, hld⟩, h5, h6, hb⟩
  have HRR := Lib.hid hR
  have HLN := Lib.hid (And.intro hd0 (And.intro hln hld))
  have N5 := Lib.hid h5
  have N6 := Lib.hid h6
  clear hR hd0 hln hld h5 h6
  replace HR := Lib.hid (keep_block HR.out hb)
  replace HT := Lib.hid (HT.out.below hb)
  replace HL := Lib.hid (HL.out.trans (hb.mono HL.out.size))
  clear hb
  have hb : Below W2.heap.size W2 (W2.alloc (.cells #[.bool s, .slice A5 L5 C5, .slice A6 L6 C6] 179)) := (Below.refl _ _).alloc (Nat.le_refl _) _
  replace HR := Lib.hid (keep_block HR.out hb)
  replace HT := Lib.hid (HT.out.below hb)
  replace N5 := Lib.hid (N5.out.below hb)
  replace N6 := Lib.hid (N6.out.below hb)
  replace HL := Lib.hid (HL.out.trans (hb.mono HL.out.size))
  clear hb
  have TW := numWrite_any s (.slice A5 L5 C5) (.slice A6 L6 C6) n d (W2.alloc (.cells #[.bool s, .slice A5 L5 C5, .slice A6 L6 C6] 179)) HLN.out.1 N5.out N6.out HT.out HLN.out.2.1 HLN.out.2.2
  rw [HRR.out, HWR.out] at TW
  have TWH := Lib.hid TW
  clear TW
  go_wp2_with fail
  refine TWH.out.mono ?_
  rintro e W3 ⟨rfl, hb⟩
  replace HR := Lib.hid (keep_block HR.out hb)
  replace HL := Lib.hid (HL.out.trans (hb.mono HL.out.size))
  clear hb
  obtain ⟨⟨r0, r1⟩, rf0, rf1⟩ := two_at HR.out
  obtain ⟨nb, e0, e1⟩ := frac_end (x := .string rx) (y := .string ry) HR.out HL.out (by omega)
  go_wp2
  refine bodyPost_ret (v := .tuple #[.agg #[.string rx, .string ry], .int .i64 rc]) (by simp [results, Tryz.results241, go_sem, e0, e1]) rfl ⟨rfl, nb⟩
end Go.Proofs.YtnlaecjniellpaaGreatDoor.Num

/- package exact's Add, Sub, Mul, Div. Conditions: the fractions are valid; strconv's table of powers of ten lies as it is laid. -/
namespace Go.Proofs.YtnlaecjniellpaaGreatDoor.Num
open Go.RowKit Go.Lib

theorem noFrac_is : noFrac = .agg #[.string { data := #[] }, .string { data := #[] }] := rfl

set_option maxHeartbeats 4000000 in
set_option maxRecDepth 100000 in
theorem two_err (p q : Rat) (c : Int) (F : FuncId) (w : World) (hp : fits p = true) (hq : fits q = true) (hc : c ≠ 0) (eF : ∀ args w, (callFunc F args).run Tryz.prog w = .ok (.enter F args) w)
    (hF : ∀ W v1 v2 u1 u2, NatAt W v1 (up p) → NatAt W v2 p.den → NatAt W u1 (up q) → NatAt W u2 q.den → Calls Tryz.prog F #[.agg #[.bool (neg p), v1, v2], .agg #[.bool (neg q), u1, u2]] W (OpErr c W)) :
    Calls Tryz.prog 241 #[fracV p, fracV q, .func (.func F) #[] #[]] w fun e w' => e = .returned (.tuple #[noFrac, .int .i64 c]) ∧ Below w.heap.size w w' := by
  have TB := Lib.hid (fun W => both_ok p q W hp hq)
  rw [noFrac_is]
  have hcb : (c != 0) = true := by rw [bne_iff_ne]; exact hc
  rw [fracV_is p, fracV_is q] at TB ⊢
  have HF := Lib.hid hF
  obtain ⟨hx, hy, hr, hb⟩ := three_new w (.cells #[.string (numS p), .string (denS p)] 24) (.cells #[.string (numS q), .string (denS q)] 24) (.cells #[.string { data := #[] }, .string { data := #[] }] 24)
  obtain ⟨W0, hW0⟩ : ∃ W0, ((w.alloc (.cells #[.string (numS p), .string (denS p)] 24)).alloc (.cells #[.string (numS q), .string (denS q)] 24)).alloc (.cells #[.string { data := #[] }, .string { data := #[] }] 24) = W0 := ⟨_, rfl⟩
  rw [hW0] at hx hy hr hb
  have HR := Lib.hid hr
  have HL := Lib.hid hb
  have HW := Lib.hid hW0
  clear hx hy hr hb hW0 hF hp hq hc
  go_enter Tryz.func241, Tryz.ntmps241
  go_wp2_with fail
  rw [HW.out]
  refine (TB.out _).mono ?_
  rintro e W1 ⟨A1, L1, C1, A2, L2, C2, A3, L3, C3, A4, L4, C4, rfl, ⟨h1, h2⟩, ⟨h3, h4⟩, hb⟩
  have N1 := Lib.hid h1
  have N2 := Lib.hid h2
  have N3 := Lib.hid h3
  have N4 := Lib.hid h4
  clear h1 h2 h3 h4
  replace HR := Lib.hid (keep_block HR.out hb)
  replace HL := Lib.hid (HL.out.trans (hb.mono HL.out.size))
  clear hb
  have hb : Below W1.heap.size W1 ((W1.alloc (.cells #[.bool (neg p), .slice A1 L1 C1, .slice A2 L2 C2] 179)).alloc (.cells #[.bool (neg q), .slice A3 L3 C3, .slice A4 L4 C4] 179)) := ((Below.refl _ _).alloc (Nat.le_refl _) _).alloc (by simp) _
  replace HR := Lib.hid (keep_block HR.out hb)
  replace N1 := Lib.hid (N1.out.below hb)
  replace N2 := Lib.hid (N2.out.below hb)
  replace N3 := Lib.hid (N3.out.below hb)
  replace N4 := Lib.hid (N4.out.below hb)
  replace HL := Lib.hid (HL.out.trans (hb.mono HL.out.size))
  clear hb
  go_wp2_with fail
  refine (HF.out _ _ _ _ _ N1.out N2.out N3.out N4.out).mono ?_
  rintro e W2 ⟨rfl, hb⟩
  replace HR := Lib.hid (keep_block HR.out hb)
  replace HL := Lib.hid (HL.out.trans (hb.mono HL.out.size))
  clear hb
  have hb : Below W2.heap.size W2 (W2.alloc (.cells #[.bool false, .slice none 0 0, .slice none 0 0] 179)) := (Below.refl _ _).alloc (Nat.le_refl _) _
  have hRs := heap_lt HR.out
  obtain ⟨⟨r0, r1⟩, rf0, rf1⟩ := two_at HR.out
  go_wp2
  obtain ⟨e0, e1⟩ := set2_alloc HR.out (.string { data := #[] }) (.string { data := #[] }) (.cells #[.bool false, .slice none 0 0, .slice none 0 0] 179)
  refine bodyPost_ret (v := .tuple #[.agg #[.string { data := #[] }, .string { data := #[] }], .int .i64 c]) (by simp [results, Tryz.results241, go_sem, e0, e1]) rfl ⟨rfl, ?_⟩
  exact ((HL.out.setCell (p := ⟨w.heap.size + 1 + 1, 0, none⟩) (by simp only []; omega) _).setCell (p := ⟨w.heap.size + 1 + 1, 1, none⟩) (by simp only []; omega) _).alloc (by simp []; omega) _

set_option maxHeartbeats 4000000 in
set_option maxRecDepth 100000 in
theorem add_any (p q : Rat) (w : World) (hp : fits p = true) (hq : fits q = true) (ht : Tab w) :
    Calls Tryz.prog 239 #[fracV p, fracV q] w fun e w' => e = .returned (wroteV (p + q)) ∧ Below w.heap.size w w' := by
  have TT := Lib.hid (fun W g => two_ok p q (p + q) 290 W hp hq g (enters_of Tryz.func290 (by kernel_rfl) rfl) (fun W v1 v2 u1 u2 h1 h2 h3 h4 => by
    have h := add_op (neg p) (neg q) v1 v2 u1 u2 (up p) p.den (up q) q.den W h1 h2 h3 h4 p.den_nz q.den_nz (by have := fits_limbs hp; omega) (by have := fits_limbs hp; omega) (by have := fits_limbs hq; omega) (by have := fits_limbs hq; omega)
    rw [ratOf_self, ratOf_self] at h
    exact h))
  obtain ⟨rx, ry, rc, hw⟩ := wroteV_shape (p + q)
  rw [hw] at TT ⊢
  clear hw
  rw [fracV_is p, fracV_is q] at TT ⊢
  obtain ⟨hx, hy, hr, hb⟩ := three_new w (.cells #[.string (numS p), .string (denS p)] 24) (.cells #[.string (numS q), .string (denS q)] 24) (.cells #[.string { data := #[] }, .string { data := #[] }] 24)
  have HR := Lib.hid hr
  have HL := Lib.hid hb
  have HT := Lib.hid (ht.below hb)
  clear hx hy hr hb ht hp hq
  go_enter Tryz.func239, Tryz.ntmps239
  go_wp2_with fail
  refine (TT.out _ HT.out).mono ?_
  rintro e W1 ⟨rfl, hb⟩
  replace HR := Lib.hid (keep_block HR.out hb)
  replace HL := Lib.hid (HL.out.trans (hb.mono HL.out.size))
  clear hb
  obtain ⟨⟨r0, r1⟩, rf0, rf1⟩ := two_at HR.out
  obtain ⟨nb, e0, e1⟩ := frac_end (x := .string rx) (y := .string ry) HR.out HL.out (by omega)
  go_wp2
  refine bodyPost_ret (v := .tuple #[.agg #[.string rx, .string ry], .int .i64 rc]) (by simp [results, Tryz.results239, go_sem, e0, e1]) rfl ⟨rfl, nb⟩

set_option maxHeartbeats 4000000 in
set_option maxRecDepth 100000 in
theorem sub_any (p q : Rat) (w : World) (hp : fits p = true) (hq : fits q = true) (ht : Tab w) :
    Calls Tryz.prog 240 #[fracV p, fracV q] w fun e w' => e = .returned (wroteV (p - q)) ∧ Below w.heap.size w w' := by
  have TT := Lib.hid (fun W g => two_ok p q (p - q) 291 W hp hq g (enters_of Tryz.func291 (by kernel_rfl) rfl) (fun W v1 v2 u1 u2 h1 h2 h3 h4 => by
    have h := sub_op (neg p) (neg q) v1 v2 u1 u2 (up p) p.den (up q) q.den W h1 h2 h3 h4 p.den_nz q.den_nz (by have := fits_limbs hp; omega) (by have := fits_limbs hp; omega) (by have := fits_limbs hq; omega) (by have := fits_limbs hq; omega)
    rw [ratOf_self, ratOf_self] at h
    exact h))
  obtain ⟨rx, ry, rc, hw⟩ := wroteV_shape (p - q)
  rw [hw] at TT ⊢
  clear hw
  rw [fracV_is p, fracV_is q] at TT ⊢
  obtain ⟨hx, hy, hr, hb⟩ := three_new w (.cells #[.string (numS p), .string (denS p)] 24) (.cells #[.string (numS q), .string (denS q)] 24) (.cells #[.string { data := #[] }, .string { data := #[] }] 24)
  have HR := Lib.hid hr
  have HL := Lib.hid hb
  have HT := Lib.hid (ht.below hb)
  clear hx hy hr hb ht hp hq
  go_enter Tryz.func240, Tryz.ntmps240
  go_wp2_with fail
  refine (TT.out _ HT.out).mono ?_
  rintro e W1 ⟨rfl, hb⟩
  replace HR := Lib.hid (keep_block HR.out hb)
  replace HL := Lib.hid (HL.out.trans (hb.mono HL.out.size))
  clear hb
  obtain ⟨⟨r0, r1⟩, rf0, rf1⟩ := two_at HR.out
  obtain ⟨nb, e0, e1⟩ := frac_end (x := .string rx) (y := .string ry) HR.out HL.out (by omega)
  go_wp2
  refine bodyPost_ret (v := .tuple #[.agg #[.string rx, .string ry], .int .i64 rc]) (by simp [results, Tryz.results240, go_sem, e0, e1]) rfl ⟨rfl, nb⟩

set_option maxHeartbeats 4000000 in
set_option maxRecDepth 100000 in
theorem mul_any (p q : Rat) (w : World) (hp : fits p = true) (hq : fits q = true) (ht : Tab w) :
    Calls Tryz.prog 238 #[fracV p, fracV q] w fun e w' => e = .returned (wroteV (p * q)) ∧ Below w.heap.size w w' := by
  have TT := Lib.hid (fun W g => two_ok p q (p * q) 289 W hp hq g (enters_of Tryz.func289 (by kernel_rfl) rfl) (fun W v1 v2 u1 u2 h1 h2 h3 h4 => by
    have h := mul_op (neg p) (neg q) v1 v2 u1 u2 (up p) p.den (up q) q.den W h1 h2 h3 h4 p.den_nz q.den_nz (by have := fits_limbs hp; omega) (by have := fits_limbs hp; omega) (by have := fits_limbs hq; omega) (by have := fits_limbs hq; omega)
    rw [ratOf_self, ratOf_self] at h
    exact h))
  obtain ⟨rx, ry, rc, hw⟩ := wroteV_shape (p * q)
  rw [hw] at TT ⊢
  clear hw
  rw [fracV_is p, fracV_is q] at TT ⊢
  obtain ⟨hx, hy, hr, hb⟩ := three_new w (.cells #[.string (numS p), .string (denS p)] 24) (.cells #[.string (numS q), .string (denS q)] 24) (.cells #[.string { data := #[] }, .string { data := #[] }] 24)
  have HR := Lib.hid hr
  have HL := Lib.hid hb
  have HT := Lib.hid (ht.below hb)
  clear hx hy hr hb ht hp hq
  go_enter Tryz.func238, Tryz.ntmps238
  go_wp2_with fail
  refine (TT.out _ HT.out).mono ?_
  rintro e W1 ⟨rfl, hb⟩
  replace HR := Lib.hid (keep_block HR.out hb)
  replace HL := Lib.hid (HL.out.trans (hb.mono HL.out.size))
  clear hb
  obtain ⟨⟨r0, r1⟩, rf0, rf1⟩ := two_at HR.out
  obtain ⟨nb, e0, e1⟩ := frac_end (x := .string rx) (y := .string ry) HR.out HL.out (by omega)
  go_wp2
  refine bodyPost_ret (v := .tuple #[.agg #[.string rx, .string ry], .int .i64 rc]) (by simp [results, Tryz.results238, go_sem, e0, e1]) rfl ⟨rfl, nb⟩

set_option maxHeartbeats 4000000 in
set_option maxRecDepth 100000 in
theorem div_any (p q : Rat) (w : World) (hp : fits p = true) (hq : fits q = true) (h0 : q ≠ 0) (ht : Tab w) :
    Calls Tryz.prog 147 #[fracV p, fracV q] w fun e w' => e = .returned (wroteV (p / q)) ∧ Below w.heap.size w w' := by
  have TT := Lib.hid (fun W g => two_ok p q (p / q) 242 W hp hq g (enters_of Tryz.func242 (by kernel_rfl) rfl) (fun W v1 v2 u1 u2 h1 h2 h3 h4 => by
    have h := div_op (neg p) (neg q) v1 v2 u1 u2 (up p) p.den (up q) q.den W h1 h2 h3 h4 p.den_nz q.den_nz (fun h => h0 ((up_zero q).1 h)) (by have := fits_limbs hp; omega) (by have := fits_limbs hp; omega) (by have := fits_limbs hq; omega) (by have := fits_limbs hq; omega)
    rw [ratOf_self, ratOf_self] at h
    exact h))
  obtain ⟨rx, ry, rc, hw⟩ := wroteV_shape (p / q)
  rw [hw] at TT ⊢
  clear hw
  rw [fracV_is p, fracV_is q] at TT ⊢
  obtain ⟨hx, hy, hr, hb⟩ := three_new w (.cells #[.string (numS p), .string (denS p)] 24) (.cells #[.string (numS q), .string (denS q)] 24) (.cells #[.string { data := #[] }, .string { data := #[] }] 24)
  have HR := Lib.hid hr
  have HL := Lib.hid hb
  have HT := Lib.hid (ht.below hb)
  clear hx hy hr hb ht hp hq
  go_enter Tryz.func147, Tryz.ntmps147
  go_wp2_with fail
  refine (TT.out _ HT.out).mono ?_
  rintro e W1 ⟨rfl, hb⟩
  replace HR := Lib.hid (keep_block HR.out hb)
  replace HL := Lib.hid (HL.out.trans (hb.mono HL.out.size))
  clear hb
  obtain ⟨⟨r0, r1⟩, rf0, rf1⟩ := two_at HR.out
  obtain ⟨nb, e0, e1⟩ := frac_end (x := .string rx) (y := .string ry) HR.out HL.out (by omega)
  go_wp2
  refine bodyPost_ret (v := .tuple #[.agg #[.string rx, .string ry], .int .i64 rc]) (by simp [results, Tryz.results147, go_sem, e0, e1]) rfl ⟨rfl, nb⟩

set_option maxHeartbeats 4000000 in
set_option maxRecDepth 100000 in
theorem div_err (m k : Bool) (v1 v2 u1 u2 : Value) (a b d : Nat) (w : World) (h1 : NatAt w v1 a) (h2 : NatAt w v2 b) (h3 : NatAt w u1 0) (h4 : NatAt w u2 d) :
    Calls Tryz.prog 242 #[.agg #[.bool m, v1, v2], .agg #[.bool k, u1, u2]] w (OpErr 1 w) := by
  obtain ⟨A1, L1, C1, rfl⟩ := h1.shape
  obtain ⟨A2, L2, C2, rfl⟩ := h2.shape
  obtain ⟨A3, L3, C3, rfl⟩ := h3.shape
  obtain ⟨A4, L4, C4, rfl⟩ := h4.shape
  obtain ⟨hx, hy, hr, hb⟩ := three_new w (.cells #[.bool m, .slice A1 L1 C1, .slice A2 L2 C2] 179) (.cells #[.bool k, .slice A3 L3 C3, .slice A4 L4 C4] 179) (.cells #[.bool false, .slice none 0 0, .slice none 0 0] 179)
  have N3 := Lib.hid (h3.below hb)
  have HL := Lib.hid hb
  clear h1 h2 h3 h4 hx hy hr hb
  go_enter Tryz.func242, Tryz.ntmps242
  go_wp2_with fail
  refine (zero_any _ 0 _ N3.out).mono ?_
  rintro e w1 ⟨rfl, rfl⟩
  simp only [decide_true]
  go_wp2
  refine bodyPost_ret (v := .tuple #[.agg #[.bool false, .slice none 0 0, .slice none 0 0], .int .i64 1]) (by simp [results, Tryz.results242, go_sem]) rfl ⟨rfl, HL.out⟩

set_option maxHeartbeats 4000000 in
set_option maxRecDepth 100000 in
theorem div_zero (p : Rat) (w : World) (hp : fits p = true) :
    Calls Tryz.prog 147 #[fracV p, fracV 0] w fun e w' => e = .returned (.tuple #[noFrac, .int .i64 1]) ∧ Below w.heap.size w w' := by
  have TT := Lib.hid (fun W => two_err p 0 1 242 W hp fits_zero (by decide) (enters_of Tryz.func242 (by kernel_rfl) rfl) (fun W v1 v2 u1 u2 h1 h2 h3 h4 => div_err (neg p) (neg 0) v1 v2 u1 u2 (up p) p.den _ W h1 h2 h3 h4))
  rw [noFrac_is] at TT ⊢
  rw [fracV_is p, fracV_is 0] at TT ⊢
  obtain ⟨hx, hy, hr, hb⟩ := three_new w (.cells #[.string (numS p), .string (denS p)] 24) (.cells #[.string (numS 0), .string (denS 0)] 24) (.cells #[.string { data := #[] }, .string { data := #[] }] 24)
  have HR := Lib.hid hr
  have HL := Lib.hid hb
  clear hx hy hr hb hp
  go_enter Tryz.func147, Tryz.ntmps147
  go_wp2_with fail
  refine (TT.out _).mono ?_
  rintro e W1 ⟨rfl, hb⟩
  replace HR := Lib.hid (keep_block HR.out hb)
  replace HL := Lib.hid (HL.out.trans (hb.mono HL.out.size))
  clear hb
  obtain ⟨⟨r0, r1⟩, rf0, rf1⟩ := two_at HR.out
  obtain ⟨nb, e0, e1⟩ := frac_end (x := .string { data := #[] }) (y := .string { data := #[] }) HR.out HL.out (by omega)
  go_wp2
  refine bodyPost_ret (v := .tuple #[.agg #[.string { data := #[] }, .string { data := #[] }], .int .i64 1]) (by simp [results, Tryz.results147, go_sem, e0, e1]) rfl ⟨rfl, nb⟩
end Go.Proofs.YtnlaecjniellpaaGreatDoor.Num

/- package exact's Check, Neg, Floor, Compare, Int, Ratio. Conditions: the fractions are valid; strconv's table of powers of ten lies as it is laid. -/
namespace Go.Proofs.YtnlaecjniellpaaGreatDoor.Num
open Go.RowKit Go.Lib

theorem neg_iff (r : Rat) : neg r = true ↔ r < 0 := by
  unfold neg
  rw [decide_eq_true_iff, ← Rat.not_le, ← Rat.num_nonneg]
  omega
/-- how two fractions compare -/
def cmpR (p q : Rat) : Int := if p = q then 0 else if p < q then -1 else 1
theorem cmp_of {p q : Rat} {s : Bool} {n d : Nat} (h : ratOf s n d = p - q) (hd : d ≠ 0) : cmpR p q = if n = 0 then 0 else if s then -1 else 1 := by
  unfold cmpR
  by_cases hn : n = 0
  · subst hn
    rw [ratOf_zero] at h
    rw [if_pos rfl, if_pos]
    have h2 : p - q + q = p := Rat.sub_add_cancel
    rw [← h, Rat.zero_add] at h2
    exact h2.symm
  · rw [if_neg hn]
    have hs := ratOf_neg s n hd
    rw [h, decide_eq_true hn, Bool.and_true] at hs
    have hne : p ≠ q := by
      rintro rfl
      rw [Rat.sub_self] at h
      have := ratOf_up s n hd
      rw [h] at this
      have h3 : n.gcd d ≤ n := Nat.gcd_le_left d (Nat.pos_of_ne_zero hn)
      have h4 : 0 < n.gcd d := Nat.gcd_pos_of_pos_left _ (Nat.pos_of_ne_zero hn)
      have h5 := Nat.div_pos h3 h4
      rw [← this] at h5
      exact absurd h5 (by decide)
    rw [if_neg hne]
    have hlt : (p < q) ↔ s = true := by
      rw [← hs, neg_iff, Rat.lt_iff_sub_pos p q, Rat.lt_iff_sub_pos (p - q) 0]
      have : (0 : Rat) - (p - q) = q - p := by rw [Rat.sub_eq_add_neg, Rat.zero_add, Rat.neg_sub]
      rw [this]
    cases s with
    | true => rw [if_pos (hlt.2 rfl), if_pos rfl]
    | false => rw [if_neg (fun h => absurd (hlt.1 h) (by decide)), if_neg (by decide)]
theorem fits_neg (q : Rat) : fits (-q) = fits q := by
  unfold fits up
  rw [Rat.neg_num, Int.natAbs_neg, Rat.neg_den]
theorem neg_of (q : Rat) : ratOf (!neg q) (up q) q.den = -q := by rw [← ratOf_negate, ratOf_self]
/-- the quotient that rounding down makes -/
def floorNum (q : Rat) : Nat := up q / q.den + if neg q = true ∧ up q % q.den ≠ 0 then 1 else 0
theorem floor_of (q : Rat) : ratOf (neg q) (floorNum q) 1 = ((q.floor : Int) : Rat) := by
  rw [ratOf_floor]
  unfold ratOf floorNum
  rw [Rat.mkRat_one]
  congr 1
  cases h : neg q
  · simp
  · by_cases h0 : up q % q.den = 0 <;> simp [h0]
theorem floor_len {q : Rat} (h : (digs LB (up q)).length ≤ 300) : (digs LB (floorNum q)).length ≤ 301 := by
  unfold floorNum
  have h1 := div_limbs (g := q.den) h
  split
  · exact digs_len_add h1 (by rw [show (1 : Nat) = 1 from rfl, digs_pos LB_two (by decide), show 1 / LB = 0 from by decide, digs_zero]; decide)
  · rw [Nat.add_zero]; omega
theorem digs_one : digs LB 1 = [1] := by
  rw [digs_pos LB_two (by decide), show 1 / LB = 0 from by decide, digs_zero]; rfl
theorem one_new (w : World) (T : TypeId) : NatAt (w.alloc (.cells #[.int .u32 1] T)) (.slice (some ⟨w.heap.size, 0, none⟩) 1 1) 1 := by
  unfold NatAt
  rw [digs_one]
  refine ⟨_, _, rfl, Nat.le_refl _, fun i hi => ⟨w.heap.size, 0, rfl, ?_⟩⟩
  have : i = 0 := by simp at hi; omega
  subst this
  rw [Lib.cell_of_heap (heap_alloc_new w _) (0 + 0)]; rfl

set_option maxHeartbeats 4000000 in
set_option maxRecDepth 100000 in
theorem check_ok (q : Rat) (w : World) (hq : fits q = true) : Calls Tryz.prog 199 #[fracV q] w fun e w' => e = .returned (.int .i64 0) ∧ Below w.heap.size w w' := by
  have T := Lib.hid (fun W => read_s q W hq)
  rw [fracV_is q] at T ⊢
  have hb : Below w.heap.size w (w.alloc (.cells #[.string (numS q), .string (denS q)] 24)) := (Below.refl _ _).alloc (Nat.le_refl _) _
  have HL := Lib.hid hb
  clear hb hq
  go_enter Tryz.func199, Tryz.ntmps199
  go_wp2_with fail
  refine (T.out _).mono ?_
  rintro e W1 ⟨A1, L1, C1, A2, L2, C2, rfl, _, hb⟩
  replace HL := Lib.hid (HL.out.trans (hb.mono HL.out.size))
  clear hb
  have HZ := Lib.hid HL.out.size
  go_wp2
  go_ret
  exact ⟨rfl, HL.out.alloc HZ.out _⟩

set_option maxHeartbeats 4000000 in
set_option maxRecDepth 100000 in
theorem neg_any (q : Rat) (w : World) (hq : fits q = true) (ht : Tab w) : Calls Tryz.prog 231 #[fracV q] w fun e w' => e = .returned (.tuple #[fracV (-q), .int .i64 0]) ∧ Below w.heap.size w w' := by
  have T := Lib.hid (fun W => read_s q W hq)
  have TW := Lib.hid (fun W v1 v2 h1 h2 g => numWrite_any (!neg q) v1 v2 (up q) q.den W q.den_nz h1 h2 g (by have := fits_limbs hq; omega) (by have := fits_limbs hq; omega))
  rw [neg_of, wroteV_ok (by rw [fits_neg]; exact hq), fracV_is (-q)] at TW
  rw [fracV_is (-q)]
  rw [fracV_is q] at T ⊢
  obtain ⟨nx, hnx⟩ : ∃ s, numS (-q) = s := ⟨_, rfl⟩
  obtain ⟨ny, hny⟩ : ∃ s, denS (-q) = s := ⟨_, rfl⟩
  rw [hnx, hny] at TW ⊢
  clear hnx hny
  have hb : Below w.heap.size w ((w.alloc (.cells #[.string (numS q), .string (denS q)] 24)).alloc (.cells #[.string { data := #[] }, .string { data := #[] }] 24)) := ((Below.refl _ _).alloc (Nat.le_refl _) _).alloc (by simp) _
  have hr := heap_alloc_new (w.alloc (.cells #[.string (numS q), .string (denS q)] 24)) (.cells #[.string { data := #[] }, .string { data := #[] }] 24)
  rw [World.size_alloc] at hr
  have HR := Lib.hid hr
  have HL := Lib.hid hb
  have HT := Lib.hid (ht.below hb)
  clear hb hr ht hq
  have hnot : ∀ (x : Bool) (w : World), (Op.unary .not (.bool x)).run Tryz.prog w = .ok (.bool (!x)) w := fun _ _ => rfl
  go_enter Tryz.func231, Tryz.ntmps231
  go_wp2_with fail
  refine (T.out _).mono ?_
  rintro e W1 ⟨A1, L1, C1, A2, L2, C2, rfl, ⟨h1, h2⟩, hb⟩
  have N1 := Lib.hid h1
  have N2 := Lib.hid h2
  clear h1 h2
  replace HR := Lib.hid (keep_block HR.out hb)
  replace HT := Lib.hid (HT.out.below hb)
  replace HL := Lib.hid (HL.out.trans (hb.mono HL.out.size))
  clear hb
  have hb : Below W1.heap.size W1 (W1.alloc (.cells #[.bool (!neg q), .slice A1 L1 C1, .slice A2 L2 C2] 179)) := (Below.refl _ _).alloc (Nat.le_refl _) _
  replace HR := Lib.hid (keep_block HR.out hb)
  replace HT := Lib.hid (HT.out.below hb)
  replace N1 := Lib.hid (N1.out.below hb)
  replace N2 := Lib.hid (N2.out.below hb)
  replace HL := Lib.hid (HL.out.trans (hb.mono HL.out.size))
  clear hb
  go_wp2_with fail
  refine (TW.out _ _ _ N1.out N2.out HT.out).mono ?_
  rintro e W2 ⟨rfl, hb⟩
  replace HR := Lib.hid (keep_block HR.out hb)
  replace HL := Lib.hid (HL.out.trans (hb.mono HL.out.size))
  clear hb
  obtain ⟨⟨r0, r1⟩, rf0, rf1⟩ := two_at HR.out
  obtain ⟨nb, e0, e1⟩ := frac_end (x := .string nx) (y := .string ny) HR.out HL.out (by omega)
  go_wp2
  refine bodyPost_ret (v := .tuple #[.agg #[.string nx, .string ny], .int .i64 0]) (by simp [results, Tryz.results231, go_sem, e0, e1]) rfl ⟨rfl, nb⟩

set_option maxHeartbeats 4000000 in
set_option maxRecDepth 100000 in
theorem compare_q (p q : Rat) (w : World) (hp : fits p = true) (hq : fits q = true) : Calls Tryz.prog 139 #[fracV p, fracV q] w fun e w' => e = .returned (.tuple #[.int .i64 (cmpR p q), .int .i64 0]) ∧ Below w.heap.size w w' := by
  have T := Lib.hid (fun W => both_ok p q W hp hq)
  have TS := Lib.hid (fun W v1 v2 u1 u2 h1 h2 h3 h4 => sum_any (neg p) (!neg q) v1 v2 u1 u2 (up p) p.den (up q) q.den W h1 h2 h3 h4 (by have := fits_limbs hp; omega) (by have := fits_limbs hp; omega) (by have := fits_limbs hq; omega) (by have := fits_limbs hq; omega))
  have hsum := ratOf_add (neg p) (!neg q) (up p) p.den (up q) q.den p.den_nz q.den_nz
  rw [neg_of, ratOf_self, ← Rat.sub_eq_add_neg] at hsum
  have hcmp := cmp_of hsum.symm (Nat.mul_ne_zero p.den_nz q.den_nz)
  obtain ⟨s, hs⟩ : ∃ s, sumSign (neg p) (!neg q) (up p * q.den) (up q * p.den) = s := ⟨_, rfl⟩
  obtain ⟨n, hn⟩ : ∃ n, sumNum (neg p) (!neg q) (up p * q.den) (up q * p.den) = n := ⟨_, rfl⟩
  rw [hs, hn] at TS hcmp
  have HCM := Lib.hid hcmp
  obtain ⟨cc, hcc⟩ : ∃ c, cmpR p q = c := ⟨_, rfl⟩
  have HCC := Lib.hid hcc
  rw [hcc]
  clear hsum hcmp hs hn hcc hp hq
  rw [fracV_is p, fracV_is q] at T ⊢
  have hb : Below w.heap.size w ((w.alloc (.cells #[.string (numS p), .string (denS p)] 24)).alloc (.cells #[.string (numS q), .string (denS q)] 24)) := ((Below.refl _ _).alloc (Nat.le_refl _) _).alloc (by simp) _
  have HL := Lib.hid hb
  clear hb
  have hnot : ∀ (x : Bool) (w : World), (Op.unary .not (.bool x)).run Tryz.prog w = .ok (.bool (!x)) w := fun _ _ => rfl
  go_enter Tryz.func139, Tryz.ntmps139
  go_wp2_with fail
  refine (T.out _).mono ?_
  rintro e W1 ⟨A1, L1, C1, A2, L2, C2, A3, L3, C3, A4, L4, C4, rfl, ⟨h1, h2⟩, ⟨h3, h4⟩, hb⟩
  have N1 := Lib.hid h1
  have N2 := Lib.hid h2
  have N3 := Lib.hid h3
  have N4 := Lib.hid h4
  clear h1 h2 h3 h4
  replace HL := Lib.hid (HL.out.trans (hb.mono HL.out.size))
  clear hb
  have hb : Below W1.heap.size W1 ((W1.alloc (.cells #[.bool (neg p), .slice A1 L1 C1, .slice A2 L2 C2] 179)).alloc (.cells #[.bool (!neg q), .slice A3 L3 C3, .slice A4 L4 C4] 179)) := ((Below.refl _ _).alloc (Nat.le_refl _) _).alloc (by simp) _
  replace N1 := Lib.hid (N1.out.below hb)
  replace N2 := Lib.hid (N2.out.below hb)
  replace N3 := Lib.hid (N3.out.below hb)
  replace N4 := Lib.hid (N4.out.below hb)
  replace HL := Lib.hid (HL.out.trans (hb.mono HL.out.size))
  clear hb
  go_wp2_with fail
  refine (TS.out _ _ _ _ _ N1.out N2.out N3.out N4.out).mono ?_
  rintro e W2 ⟨A5, L5, C5, A6, L6, C6, rfl, h5, h6, hb⟩
  have N5 := Lib.hid h5
  clear h5 h6
  replace HL := Lib.hid (HL.out.trans (hb.mono HL.out.size))
  clear hb
  have hb : Below W2.heap.size W2 (W2.alloc (.cells #[.bool s, .slice A5 L5 C5, .slice A6 L6 C6] 179)) := (Below.refl _ _).alloc (Nat.le_refl _) _
  replace N5 := Lib.hid (N5.out.below hb)
  replace HL := Lib.hid (HL.out.trans (hb.mono HL.out.size))
  clear hb
  go_wp2_with fail
  refine (zero_any _ n _ N5.out).mono ?_
  rintro e W3 ⟨rfl, rfl⟩
  by_cases h0 : n = 0
  · have hd : decide (n = 0) = true := decide_eq_true h0
    have HE : Hid (cc = 0) := by rw [← HCC.out, HCM.out, if_pos h0]; exact Lib.hid rfl
    clear h0
    rw [hd]
    go_wp2
    go_ret2
    exact ⟨by rw [HE.out]; rfl, HL.out⟩
  · have hd : decide (n = 0) = false := decide_eq_false h0
    rw [hd]
    cases s with
    | true =>
      have HE : Hid (cc = -1) := by rw [← HCC.out, HCM.out, if_neg h0, if_pos rfl]; exact Lib.hid rfl
      clear h0
      go_wp2
      go_ret2
      exact ⟨by rw [HE.out]; rfl, HL.out⟩
    | false =>
      have HE : Hid (cc = 1) := by rw [← HCC.out, HCM.out, if_neg h0, if_neg (by decide)]; exact Lib.hid rfl
      clear h0
      go_wp2
      go_ret2
      exact ⟨by rw [HE.out]; rfl, HL.out⟩
end Go.Proofs.YtnlaecjniellpaaGreatDoor.Num

/- package exact's Floor, Int, Ratio. Conditions: the fractions are valid; strconv's table of powers of ten lies as it is laid. -/
namespace Go.Proofs.YtnlaecjniellpaaGreatDoor.Num
open Go.RowKit Go.Lib

theorem limbs_one : (digs LB 1).length = 1 := by rw [digs_one]; rfl

set_option maxHeartbeats 4000000 in
set_option maxRecDepth 100000 in
theorem floor_any (q : Rat) (w : World) (hq : fits q = true) (ht : Tab w) : Calls Tryz.prog 140 #[fracV q] w fun e w' => e = .returned (wroteV ((q.floor : Int) : Rat)) ∧ Below w.heap.size w w' := by
  have T := Lib.hid (fun W => read_s q W hq)
  have TD := Lib.hid (fun W v1 v2 h1 h2 => divide_any v1 v2 (up q) q.den W h1 h2 q.den_nz (by have := fits_limbs hq; omega) (by have := fits_limbs hq; omega))
  have TP := Lib.hid (fun W v1 v2 h1 h2 => calls_shaped (plus_any v1 v2 (up q / q.den) 1 W h1 h2 (by have := div_limbs (g := q.den) (fits_limbs hq).1; omega) (by have := limbs_one; omega)))
  have TW := Lib.hid (fun W v1 v2 h1 h2 g => numWrite_any (neg q) v1 v2 (floorNum q) 1 W (by decide) h1 h2 g (by have := floor_len (fits_limbs hq).1; omega) (by have := limbs_one; omega))
  rw [floor_of] at TW
  obtain ⟨rx, ry, rc, hw⟩ := wroteV_shape ((q.floor : Int) : Rat)
  rw [hw] at TW ⊢
  clear hw
  have HFN := Lib.hid (show floorNum q = up q / q.den + if neg q = true ∧ up q % q.den ≠ 0 then 1 else 0 from rfl)
  obtain ⟨fn, hfn⟩ : ∃ n, floorNum q = n := ⟨_, rfl⟩
  rw [hfn] at TW HFN
  rw [fracV_is q] at T ⊢
  have hb : Below w.heap.size w ((w.alloc (.cells #[.string (numS q), .string (denS q)] 24)).alloc (.cells #[.string { data := #[] }, .string { data := #[] }] 24)) := ((Below.refl _ _).alloc (Nat.le_refl _) _).alloc (by simp) _
  have hr := heap_alloc_new (w.alloc (.cells #[.string (numS q), .string (denS q)] 24)) (.cells #[.string { data := #[] }, .string { data := #[] }] 24)
  rw [World.size_alloc] at hr
  have HR := Lib.hid hr
  have HL := Lib.hid hb
  have HT := Lib.hid (ht.below hb)
  clear hb hr ht hq hfn
  have hnot : ∀ (x : Bool) (w : World), (Op.unary .not (.bool x)).run Tryz.prog w = .ok (.bool (!x)) w := fun _ _ => rfl
  go_enter Tryz.func140, Tryz.ntmps140
  go_wp2_with fail
  refine (T.out _).mono ?_
  rintro e W1 ⟨A1, L1, C1, A2, L2, C2, rfl, ⟨h1, h2⟩, hb⟩
  have N1 := Lib.hid h1
  have N2 := Lib.hid h2
  clear h1 h2
  replace HR := Lib.hid (keep_block HR.out hb)
  replace HT := Lib.hid (HT.out.below hb)
  replace HL := Lib.hid (HL.out.trans (hb.mono HL.out.size))
  clear hb
  have hb : Below W1.heap.size W1 (W1.alloc (.cells #[.bool (neg q), .slice A1 L1 C1, .slice A2 L2 C2] 179)) := (Below.refl _ _).alloc (Nat.le_refl _) _
  have HX := Lib.hid (heap_alloc_new W1 (.cells #[.bool (neg q), .slice A1 L1 C1, .slice A2 L2 C2] 179))
  replace HR := Lib.hid (keep_block HR.out hb)
  replace HT := Lib.hid (HT.out.below hb)
  replace N1 := Lib.hid (N1.out.below hb)
  replace N2 := Lib.hid (N2.out.below hb)
  replace HL := Lib.hid (HL.out.trans (hb.mono HL.out.size))
  clear hb
  go_wp2_with fail
  refine (TD.out _ _ _ N1.out N2.out).mono ?_
  rintro e W2 ⟨vq, vr, rfl, h3, h4, hb⟩
  obtain ⟨A3, L3, C3, rfl⟩ := h3.shape
  obtain ⟨A4, L4, C4, rfl⟩ := h4.shape
  have N3 := Lib.hid h3
  have N4 := Lib.hid h4
  clear h3 h4
  replace HR := Lib.hid (keep_block HR.out hb)
  replace HX := Lib.hid (keep_block HX.out hb)
  replace HT := Lib.hid (HT.out.below hb)
  replace HL := Lib.hid (HL.out.trans (hb.mono HL.out.size))
  clear hb
  obtain ⟨⟨x0, x1, x2⟩, xf0, xf1, xf2⟩ := three_at HX.out
  have hlx := heap_lt HX.out
  obtain ⟨ng, hng⟩ : ∃ b, neg q = b := ⟨_, rfl⟩
  rw [hng] at TW HFN HX x0 ⊢
  clear hng
  cases ng with
  | false =>
    have HV : Hid (fn = up q / q.den) := Lib.hid (by rw [HFN.out]; simp)
    have N5 := Lib.hid (show NatAt W2 (.slice A3 L3 C3) fn by rw [HV.out]; exact N3.out)
    have hb : Below W2.heap.size W2 (W2.alloc (.cells #[.int .u32 1] 198)) := (Below.refl _ _).alloc (Nat.le_refl _) _
    have N6 := Lib.hid (one_new W2 198)
    replace HR := Lib.hid (keep_block HR.out hb)
    replace HT := Lib.hid (HT.out.below hb)
    replace N5 := Lib.hid (N5.out.below hb)
    replace HL := Lib.hid (HL.out.trans (hb.mono HL.out.size))
    clear hb
    go_wp2_with fail
    refine (TW.out _ _ _ N5.out N6.out HT.out).mono ?_
    rintro e W3 ⟨rfl, hb⟩
    replace HR := Lib.hid (keep_block HR.out hb)
    replace HL := Lib.hid (HL.out.trans (hb.mono HL.out.size))
    clear hb
    obtain ⟨⟨r0, r1⟩, rf0, rf1⟩ := two_at HR.out
    obtain ⟨nb, e0, e1⟩ := frac_end (x := .string rx) (y := .string ry) HR.out HL.out (by omega)
    go_wp2
    refine bodyPost_ret (v := .tuple #[.agg #[.string rx, .string ry], .int .i64 rc]) (by simp [results, Tryz.results140, go_sem, e0, e1]) rfl ⟨rfl, nb⟩
  | true =>
    go_wp2_with fail
    refine (zero_any _ _ _ N4.out).mono ?_
    rintro e W3 ⟨rfl, rfl⟩
    by_cases h0 : up q % q.den = 0
    · have hd : decide (up q % q.den = 0) = true := decide_eq_true h0
      have HV : Hid (fn = up q / q.den) := Lib.hid (by rw [HFN.out]; simp [h0])
      have N5 := Lib.hid (show NatAt W3 (.slice A3 L3 C3) fn by rw [HV.out]; exact N3.out)
      have hb : Below W3.heap.size W3 (W3.alloc (.cells #[.int .u32 1] 198)) := (Below.refl _ _).alloc (Nat.le_refl _) _
      have N6 := Lib.hid (one_new W3 198)
      replace HR := Lib.hid (keep_block HR.out hb)
      replace HT := Lib.hid (HT.out.below hb)
      replace N5 := Lib.hid (N5.out.below hb)
      replace HL := Lib.hid (HL.out.trans (hb.mono HL.out.size))
      clear hb
      rw [hd]
      clear h0
      go_wp2_with fail
      refine (TW.out _ _ _ N5.out N6.out HT.out).mono ?_
      rintro e W4 ⟨rfl, hb⟩
      replace HR := Lib.hid (keep_block HR.out hb)
      replace HL := Lib.hid (HL.out.trans (hb.mono HL.out.size))
      clear hb
      obtain ⟨⟨r0, r1⟩, rf0, rf1⟩ := two_at HR.out
      obtain ⟨nb, e0, e1⟩ := frac_end (x := .string rx) (y := .string ry) HR.out HL.out (by omega)
      go_wp2
      refine bodyPost_ret (v := .tuple #[.agg #[.string rx, .string ry], .int .i64 rc]) (by simp [results, Tryz.results140, go_sem, e0, e1]) rfl ⟨rfl, nb⟩
    · have hd : decide (up q % q.den = 0) = false := decide_eq_false h0
      have HV : Hid (fn = up q / q.den + 1) := Lib.hid (by rw [HFN.out]; simp [h0])
      have hb : Below W3.heap.size W3 (W3.alloc (.cells #[.int .u32 1] 198)) := (Below.refl _ _).alloc (Nat.le_refl _) _
      have N6 := Lib.hid (one_new W3 198)
      replace HR := Lib.hid (keep_block HR.out hb)
      replace HX := Lib.hid (keep_block HX.out hb)
      replace HT := Lib.hid (HT.out.below hb)
      replace N3 := Lib.hid (N3.out.below hb)
      replace HL := Lib.hid (HL.out.trans (hb.mono HL.out.size))
      clear hb
      rw [hd]
      clear h0
      go_wp2_with fail
      refine (TP.out _ _ _ N3.out N6.out).mono ?_
      rintro e W4 ⟨A5, L5, C5, rfl, h5, hb⟩
      rw [← HV.out] at h5
      have N5 := Lib.hid h5
      clear h5 x0 x1 x2 xf0 xf1 xf2 hlx
      replace HR := Lib.hid (keep_block HR.out hb)
      replace HX := Lib.hid (keep_block HX.out hb)
      replace HT := Lib.hid (HT.out.below hb)
      replace HL := Lib.hid (HL.out.trans (hb.mono HL.out.size))
      clear hb
      obtain ⟨⟨x0, x1, x2⟩, xf0, xf1, xf2⟩ := three_at HX.out
      have hlx := heap_lt HX.out
      have hb : Below W4.heap.size W4 (W4.alloc (.cells #[.int .u32 1] 198)) := (Below.refl _ _).alloc (Nat.le_refl _) _
      have N7 := Lib.hid (one_new W4 198)
      replace HR := Lib.hid (keep_block HR.out hb)
      replace HT := Lib.hid (HT.out.below hb)
      replace N5 := Lib.hid (N5.out.below hb)
      replace HL := Lib.hid (HL.out.trans (hb.mono HL.out.size))
      clear hb
      go_wp2_with fail
      refine (TW.out _ _ _ N5.out N7.out HT.out).mono ?_
      rintro e W5 ⟨rfl, hb⟩
      replace HR := Lib.hid (keep_block HR.out hb)
      replace HL := Lib.hid (HL.out.trans (hb.mono HL.out.size))
      clear hb
      obtain ⟨⟨r0, r1⟩, rf0, rf1⟩ := two_at HR.out
      obtain ⟨nb, e0, e1⟩ := frac_end (x := .string rx) (y := .string ry) HR.out HL.out (by omega)
      go_wp2
      refine bodyPost_ret (v := .tuple #[.agg #[.string rx, .string ry], .int .i64 rc]) (by simp [results, Tryz.results140, go_sem, e0, e1]) rfl ⟨rfl, nb⟩
end Go.Proofs.YtnlaecjniellpaaGreatDoor.Num

/- package exact's Int and Ratio. Conditions: the numbers have at most 17 digits; strconv's table of powers of ten lies as it is laid. -/
namespace Go.Proofs.YtnlaecjniellpaaGreatDoor.Num
open Go.RowKit Go.Lib

theorem up_int (n : Int) : up (n : Rat) = n.natAbs := by unfold up; rw [Rat.num_intCast]
theorem neg_int (n : Int) : neg (n : Rat) = decide (n < 0) := by unfold neg; rw [Rat.num_intCast]
theorem den_int (n : Int) : (n : Rat).den = 1 := Rat.den_intCast n
theorem dec_len_of {n k : Nat} (hk : 0 < k) (h : n < 10 ^ k) : (Lib.decDigits n).length ≤ k := (decDigits_length_iff hk).2 h
theorem small_pow {a k : Nat} (hk : 18 < k) (h : a ≤ 1000000000000000000) : a < 10 ^ k := by
  have h18 : (10 : Nat) ^ 18 = 1000000000000000000 := by decide
  rw [← h18] at h
  exact Nat.lt_of_le_of_lt h (Nat.pow_lt_pow_right (by decide) hk)
theorem dec_small {a k : Nat} (hk : 18 < k) (h : a ≤ 1000000000000000000) : (Lib.decDigits a).length ≤ k := dec_len_of (by omega) (small_pow hk h)
theorem fits_int (n : Int) (h : n.natAbs ≤ 1000000000000000000) : fits (n : Rat) = true := by
  unfold fits
  rw [up_int, den_int, decide_eq_true (dec_small (k := 300) (by decide) h), decDigits_one]; rfl
theorem decNat_val (l : List UInt8) (h : AllDigits l) (hne : l ≠ []) : Lib.decNat l = some (decVal l) := by
  unfold Lib.decNat
  rw [decFrom_val l 0 h, Nat.zero_mul, Nat.zero_add]
  cases l with
  | nil => exact absurd rfl hne
  | cons c r => rfl
theorem atoi_itoa (n : Int) : Lib.atoi (Lib.itoa n) = some n := by
  unfold Lib.itoa
  by_cases h : n < 0
  · rw [if_pos h]
    show (Lib.decNat (Lib.decDigits n.natAbs)).map (fun (m : Nat) => -(m : Int)) = some n
    rw [decNat_val _ (decDigits_all _) (decDigits_ne _), decVal_decDigits, Option.map_some]
    congr 1
    omega
  · rw [if_neg h]
    rw [atoi_val _ (decDigits_all _) (decDigits_ne _), decVal_decDigits]
    congr 1
    omega
theorem numS_int (n : Int) : numS (n : Rat) = ⟨(Lib.itoa n).toArray⟩ := by unfold numS; rw [numText_int]
theorem denS_int (n : Int) : denS (n : Rat) = { data := #[49] } := by unfold denS; rw [denText_int]
theorem itoa_len (n : Int) (h : n.natAbs < 100000000000000000) : (Lib.itoa n).length ≤ 18 := by
  unfold Lib.itoa
  split
  · have := dec_len_of (n := n.natAbs) (k := 17) (by decide) (by omega)
    simp; omega
  · have := dec_len_of (n := n.toNat) (k := 17) (by decide) (by omega)
    omega

set_option maxHeartbeats 4000000 in
set_option maxRecDepth 100000 in
theorem int_ok (n : Int) (w : World) (h : n.natAbs < 100000000000000000) : Calls Tryz.prog 148 #[fracV (n : Rat)] w fun e w' => e = .returned (.tuple #[.int .i64 n, .bool true, .int .i64 0]) ∧ Below w.heap.size w w' := by
  have T := Lib.hid (fun W => check_ok (n : Rat) W (fits_int n (by omega)))
  have hat := atoi_itoa n
  have hln := itoa_len n h
  have TA := Lib.hid (fun W => Tryz.strconv_Atoi ⟨(Lib.itoa n).toArray⟩ n (by rw [bstr_size]; exact hln) hat W)
  rw [fracV_is, numS_int, denS_int] at T ⊢
  obtain ⟨S, hS⟩ : ∃ s : ByteArray, ⟨(Lib.itoa n).toArray⟩ = s := ⟨_, rfl⟩
  rw [hS] at T TA ⊢
  have hb : Below w.heap.size w (w.alloc (.cells #[.string S, .string { data := #[49] }] 24)) := (Below.refl _ _).alloc (Nat.le_refl _) _
  have HX := Lib.hid (heap_alloc_new w (.cells #[.string S, .string { data := #[49] }] 24))
  have HL := Lib.hid hb
  have d1 : decide (n < -4611686018427387904) = false := decide_eq_false (by omega)
  have d2 : decide (4611686018427387904 < n) = false := decide_eq_false (by omega)
  clear hb hat hln hS h
  go_enter Tryz.func148, Tryz.ntmps148
  go_wp2_with fail
  refine (T.out _).mono ?_
  rintro e W1 ⟨rfl, hb⟩
  replace HX := Lib.hid (keep_block HX.out hb)
  replace HL := Lib.hid (HL.out.trans (hb.mono HL.out.size))
  clear hb
  obtain ⟨⟨x0, x1⟩, xf0, xf1⟩ := two_at HX.out
  go_wp2_with fail
  refine (TA.out _).mono ?_
  rintro e W2 ⟨rfl, t, ht⟩
  have hb : Below W1.heap.size W1 W2 := by rw [ht]; exact Lib.bytesWorld_below _ _ _
  clear ht x0 x1 xf0 xf1
  replace HX := Lib.hid (keep_block HX.out hb)
  replace HL := Lib.hid (HL.out.trans (hb.mono HL.out.size))
  clear hb
  obtain ⟨⟨x0, x1⟩, xf0, xf1⟩ := two_at HX.out
  go_wp2
  go_ret3
  exact ⟨rfl, HL.out⟩

theorem ratio_of (n d : Int) (hd : d ≠ 0) : ratOf (neg (n : Rat) != neg (d : Rat)) n.natAbs d.natAbs = (n : Rat) / (d : Rat) := by
  have h := ratOf_div (neg (n : Rat)) (neg (d : Rat)) (up (n : Rat)) (n : Rat).den (up (d : Rat)) (d : Rat).den (by rw [up_int]; omega) (d : Rat).den_nz
  rw [ratOf_self, ratOf_self, up_int, up_int, den_int, den_int, Nat.mul_one, Nat.one_mul] at h
  exact h.symm

set_option maxHeartbeats 4000000 in
set_option maxRecDepth 100000 in
theorem ratio_any (n d : Int) (w : World) (hd : d ≠ 0) (hn1 : n.natAbs < 100000000000000000) (hd1 : d.natAbs < 100000000000000000) (ht : Tab w) :
    Calls Tryz.prog 388 #[.int .i64 n, .int .i64 d] w fun e w' => e = .returned (wroteV ((n : Rat) / (d : Rat))) ∧ Below w.heap.size w w' := by
  have I1 := Lib.hid (fun W g => itoa_any n W (by omega) (by omega) g)
  have I2 := Lib.hid (fun W g => itoa_any d W (by omega) (by omega) g)
  have K1 := Lib.hid (fun W => cut_num (n : Rat) W)
  have K2 := Lib.hid (fun W => cut_num (d : Rat) W)
  have ln := dec_len_of (n := n.natAbs) (k := 17) (by decide) (by omega)
  have ld := dec_len_of (n := d.natAbs) (k := 17) (by decide) (by omega)
  have P1 := Lib.hid (fun W => parse_dec n.natAbs W (by omega))
  have P2 := Lib.hid (fun W => parse_dec d.natAbs W (by omega))
  have TW := Lib.hid (fun W v1 v2 h1 h2 g => numWrite_any (neg (n : Rat) != neg (d : Rat)) v1 v2 n.natAbs d.natAbs W (by omega) h1 h2 g (by have := dec_limbs ln (by decide); omega) (by have := dec_limbs ld (by decide); omega))
  rw [ratio_of n d hd] at TW
  rw [numS_int] at K1 K2
  rw [show upS (n : Rat) = ⟨(Lib.decDigits n.natAbs).toArray⟩ by unfold upS; rw [up_int]] at K1
  rw [show upS (d : Rat) = ⟨(Lib.decDigits d.natAbs).toArray⟩ by unfold upS; rw [up_int]] at K2
  obtain ⟨rx, ry, rc, hw⟩ := wroteV_shape ((n : Rat) / (d : Rat))
  rw [hw] at TW ⊢
  clear hw ln ld
  obtain ⟨S1, hS1⟩ : ∃ s : ByteArray, ⟨(Lib.itoa n).toArray⟩ = s := ⟨_, rfl⟩
  obtain ⟨S2, hS2⟩ : ∃ s : ByteArray, ⟨(Lib.itoa d).toArray⟩ = s := ⟨_, rfl⟩
  obtain ⟨U1, hU1⟩ : ∃ s : ByteArray, ⟨(Lib.decDigits n.natAbs).toArray⟩ = s := ⟨_, rfl⟩
  obtain ⟨U2, hU2⟩ : ∃ s : ByteArray, ⟨(Lib.decDigits d.natAbs).toArray⟩ = s := ⟨_, rfl⟩
  obtain ⟨m1, hm1⟩ : ∃ b, neg (n : Rat) = b := ⟨_, rfl⟩
  obtain ⟨m2, hm2⟩ : ∃ b, neg (d : Rat) = b := ⟨_, rfl⟩
  rw [hS1] at I1 K1
  rw [hS2] at I2 K2
  rw [hU1] at K1 P1
  rw [hU2] at K2 P2
  rw [hm1] at K1 TW
  rw [hm2] at K2 TW
  have hb : Below w.heap.size w (w.alloc (.cells #[.string { data := #[] }, .string { data := #[] }] 24)) := (Below.refl _ _).alloc (Nat.le_refl _) _
  have HR := Lib.hid (heap_alloc_new w (.cells #[.string { data := #[] }, .string { data := #[] }] 24))
  have HL := Lib.hid hb
  have HT := Lib.hid (ht.below hb)
  have hd0 : (d == 0) = false := by rw [beq_eq_false_iff_ne]; exact hd
  clear hS1 hS2 hU1 hU2 hm1 hm2 hb ht hn1 hd1 hd
  go_enter Tryz.func388, Tryz.ntmps388
  go_wp2_with fail
  refine (I1.out _ HT.out).mono ?_
  rintro e W1 ⟨rfl, hb⟩
  replace HR := Lib.hid (keep_block HR.out hb)
  replace HT := Lib.hid (HT.out.below hb)
  replace HL := Lib.hid (HL.out.trans (hb.mono HL.out.size))
  clear hb
  go_wp2_with fail
  refine (K1.out _).mono ?_
  rintro e W2 ⟨rfl, rfl⟩
  go_wp2_with fail
  refine (I2.out _ HT.out).mono ?_
  rintro e W3 ⟨rfl, hb⟩
  replace HR := Lib.hid (keep_block HR.out hb)
  replace HT := Lib.hid (HT.out.below hb)
  replace HL := Lib.hid (HL.out.trans (hb.mono HL.out.size))
  clear hb
  go_wp2_with fail
  refine (K2.out _).mono ?_
  rintro e W4 ⟨rfl, rfl⟩
  go_wp2_with fail
  refine (P1.out _).mono ?_
  rintro e W5 ⟨A1, L1, C1, rfl, h1, hb⟩
  have N1 := Lib.hid h1
  clear h1
  replace HR := Lib.hid (keep_block HR.out hb)
  replace HT := Lib.hid (HT.out.below hb)
  replace HL := Lib.hid (HL.out.trans (hb.mono HL.out.size))
  clear hb
  go_wp2_with fail
  refine (P2.out _).mono ?_
  rintro e W6 ⟨A2, L2, C2, rfl, h2, hb⟩
  have N2 := Lib.hid h2
  clear h2
  replace HR := Lib.hid (keep_block HR.out hb)
  replace HT := Lib.hid (HT.out.below hb)
  replace N1 := Lib.hid (N1.out.below hb)
  replace HL := Lib.hid (HL.out.trans (hb.mono HL.out.size))
  clear hb
  go_wp2_with fail
  refine (TW.out _ _ _ N1.out N2.out HT.out).mono ?_
  rintro e W7 ⟨rfl, hb⟩
  replace HR := Lib.hid (keep_block HR.out hb)
  replace HL := Lib.hid (HL.out.trans (hb.mono HL.out.size))
  clear hb
  obtain ⟨⟨r0, r1⟩, rf0, rf1⟩ := two_at HR.out
  obtain ⟨nb, e0, e1⟩ := frac_end (x := .string rx) (y := .string ry) HR.out HL.out (by omega)
  go_wp2
  refine bodyPost_ret (v := .tuple #[.agg #[.string rx, .string ry], .int .i64 rc]) (by simp [results, Tryz.results388, go_sem, e0, e1]) rfl ⟨rfl, nb⟩
end Go.Proofs.YtnlaecjniellpaaGreatDoor.Num

/- package value: zeros, Check, valid, Number, Fault, Whole, scalar, ToNumber at valid numbers and error values. Conditions: the tables lie as they are laid. -/
namespace Go.Proofs.YtnlaecjniellpaaGreatDoor.Num
open Go.RowKit Go.Lib

/-- a number as a value of cells -/
def numVal (q : Rat) : Value := .agg #[.int .i64 1, .string (numS q), .string (denS q), .string { data := #[] }, .bool false, .int .i64 0, .int .i64 0, .int .i64 0, .slice none 0 0]
theorem numVal_is (q : Rat) : numVal q = .agg #[.int .i64 1, .string (numS q), .string (denS q), .string { data := #[] }, .bool false, .int .i64 0, .int .i64 0, .int .i64 0, .slice none 0 0] := rfl
/-- an error value -/
def faultVal (c : Int) : Value := .agg #[.int .i64 4, .string { data := #[] }, .string { data := #[] }, .string { data := #[] }, .bool false, .int .i64 c, .int .i64 0, .int .i64 0, .slice none 0 0]
theorem faultVal_is (c : Int) : faultVal c = .agg #[.int .i64 4, .string { data := #[] }, .string { data := #[] }, .string { data := #[] }, .bool false, .int .i64 c, .int .i64 0, .int .i64 0, .slice none 0 0] := rfl
def emptyVal : Value := .agg #[.int .i64 0, .string { data := #[] }, .string { data := #[] }, .string { data := #[] }, .bool false, .int .i64 0, .int .i64 0, .int .i64 0, .slice none 0 0]
theorem emptyVal_is : emptyVal = .agg #[.int .i64 0, .string { data := #[] }, .string { data := #[] }, .string { data := #[] }, .bool false, .int .i64 0, .int .i64 0, .int .i64 0, .slice none 0 0] := rfl
/-- an array as a value of cells -/
def arrVal (r s : Int) (A : Option Addr) (L C : Nat) : Value := .agg #[.int .i64 5, .string { data := #[] }, .string { data := #[] }, .string { data := #[] }, .bool false, .int .i64 0, .int .i64 r, .int .i64 s, .slice A L C]
theorem arrVal_is (r s : Int) (A : Option Addr) (L C : Nat) : arrVal r s A L C = .agg #[.int .i64 5, .string { data := #[] }, .string { data := #[] }, .string { data := #[] }, .bool false, .int .i64 0, .int .i64 r, .int .i64 s, .slice A L C] := rfl
/-- the texts of the error values -/
def faultTexts : Array Value := #[.string { data := #[] }, .string { data := #[35, 68, 73, 86, 47, 48, 33] }, .string { data := #[35, 86, 65, 76, 85, 69, 33] }, .string { data := #[35, 82, 69, 70, 33] }, .string { data := #[35, 78, 65, 77, 69, 63] }, .string { data := #[35, 78, 85, 77, 33] }, .string { data := #[35, 78, 47, 65] }, .string { data := #[35, 83, 80, 73, 76, 76, 33] }, .string { data := #[35, 67, 89, 67, 76, 69, 33] }]
/-- a block that comes behind the variables -/
def Past (b : Nat) : Prop := 0 < b ∧ 4 < b
/-- the variables that the functions read, as they are laid; all variables come ahead of what is made -/
structure Env (w : World) : Prop where
  tab : Tab w
  faults : ∀ i, i < 9 → w.cell? ⟨0, i, none⟩ = faultTexts[i]?
  room : Past w.heap.size
theorem Env.below {w w' : World} (h : Env w) (hb : Below w.heap.size w w') : Env w' :=
  ⟨h.tab.below hb, fun i hi => (hb.cell (p := ⟨0, i, none⟩) h.room.1).trans (h.faults i hi), Nat.lt_of_lt_of_le h.room.1 hb.size, Nat.lt_of_lt_of_le h.room.2 hb.size⟩

set_option maxHeartbeats 4000000 in
set_option maxRecDepth 100000 in
theorem zeros_num (q : Rat) (w : World) : Calls Tryz.prog 198 #[.agg #[.int .i64 1, .string (numS q), .string (denS q), .string { data := #[] }, .bool false, .int .i64 0, .int .i64 0, .int .i64 0, .slice none 0 0]] w fun e w' => e = .returned (.int .i64 0) ∧ Below w.heap.size w w' := by
  go_enter Tryz.func198, Tryz.ntmps198
  go_wp2
  go_ret
  exact ⟨rfl, (Below.refl _ _).alloc (Nat.le_refl _) _⟩

set_option maxHeartbeats 4000000 in
set_option maxRecDepth 100000 in
theorem zeros_fault (c : Int) (w : World) : Calls Tryz.prog 198 #[.agg #[.int .i64 4, .string { data := #[] }, .string { data := #[] }, .string { data := #[] }, .bool false, .int .i64 c, .int .i64 0, .int .i64 0, .slice none 0 0]] w fun e w' => e = .returned (.int .i64 0) ∧ Below w.heap.size w w' := by
  go_enter Tryz.func198, Tryz.ntmps198
  go_wp2
  go_ret
  exact ⟨rfl, (Below.refl _ _).alloc (Nat.le_refl _) _⟩

set_option maxHeartbeats 4000000 in
set_option maxRecDepth 100000 in
theorem zeros_empty (w : World) : Calls Tryz.prog 198 #[.agg #[.int .i64 0, .string { data := #[] }, .string { data := #[] }, .string { data := #[] }, .bool false, .int .i64 0, .int .i64 0, .int .i64 0, .slice none 0 0]] w fun e w' => e = .returned (.int .i64 0) ∧ Below w.heap.size w w' := by
  go_enter Tryz.func198, Tryz.ntmps198
  go_wp2
  go_ret
  exact ⟨rfl, (Below.refl _ _).alloc (Nat.le_refl _) _⟩

set_option maxHeartbeats 4000000 in
set_option maxRecDepth 100000 in
theorem zeros_arr (r s : Int) (A : Option Addr) (L C : Nat) (w : World) : Calls Tryz.prog 198 #[.agg #[.int .i64 5, .string { data := #[] }, .string { data := #[] }, .string { data := #[] }, .bool false, .int .i64 0, .int .i64 r, .int .i64 s, .slice A L C]] w fun e w' => e = .returned (.int .i64 0) ∧ Below w.heap.size w w' := by
  go_enter Tryz.func198, Tryz.ntmps198
  go_wp2
  go_ret
  exact ⟨rfl, (Below.refl _ _).alloc (Nat.le_refl _) _⟩

set_option maxHeartbeats 4000000 in
set_option maxRecDepth 100000 in
theorem faultText_any (c : Int) (h1 : 1 ≤ c) (h2 : c ≤ 8) (w : World) (hE : Env w) : Calls Tryz.prog 201 #[.int .i64 c] w fun e w' => ∃ t : ByteArray, e = .returned (.string t) ∧ (t.toList == []) = false ∧ w' = w := by
  obtain ⟨i, rfl⟩ : ∃ i : Nat, c = (i : Int) := ⟨c.toNat, by omega⟩
  have hi : i < 9 := by omega
  have hc := hE.faults i hi
  have hts : ∃ t : ByteArray, faultTexts[i]? = some (.string t) ∧ (t.toList == []) = false := by
    have : i = 1 ∨ i = 2 ∨ i = 3 ∨ i = 4 ∨ i = 5 ∨ i = 6 ∨ i = 7 ∨ i = 8 := by omega
    rcases this with rfl | rfl | rfl | rfl | rfl | rfl | rfl | rfl <;> exact ⟨_, rfl, by rw [Lib.toList_data]; rfl⟩
  obtain ⟨t, ht, hne⟩ := hts
  rw [ht] at hc
  have HN := Lib.hid hne
  clear ht hne hE
  go_enter Tryz.func201, Tryz.ntmps201
  go_wp2
  go_ret
  exact ⟨t, rfl, HN.out, rfl⟩

/-- a block of nine cells -/
def Nine (W : World) (b : Nat) (x0 x1 x2 x3 x4 x5 x6 x7 x8 : Value) : Prop :=
  (W.cell? ⟨b, 0, none⟩ = some x0 ∧ W.cell? ⟨b, 1, none⟩ = some x1 ∧ W.cell? ⟨b, 2, none⟩ = some x2 ∧ W.cell? ⟨b, 3, none⟩ = some x3 ∧ W.cell? ⟨b, 4, none⟩ = some x4 ∧ W.cell? ⟨b, 5, none⟩ = some x5 ∧ W.cell? ⟨b, 6, none⟩ = some x6 ∧ W.cell? ⟨b, 7, none⟩ = some x7 ∧ W.cell? ⟨b, 8, none⟩ = some x8) ∧
  W.frozen? ⟨b, 0, none⟩ = false ∧ W.frozen? ⟨b, 1, none⟩ = false ∧ W.frozen? ⟨b, 2, none⟩ = false ∧ W.frozen? ⟨b, 3, none⟩ = false ∧ W.frozen? ⟨b, 4, none⟩ = false ∧ W.frozen? ⟨b, 5, none⟩ = false ∧ W.frozen? ⟨b, 6, none⟩ = false ∧ W.frozen? ⟨b, 7, none⟩ = false ∧ W.frozen? ⟨b, 8, none⟩ = false
theorem nine_at {W : World} {b : Nat} {x0 x1 x2 x3 x4 x5 x6 x7 x8 : Value} {T : TypeId} (h : W.heap[b]? = some (.cells #[x0, x1, x2, x3, x4, x5, x6, x7, x8] T (0, 0))) : Nine W b x0 x1 x2 x3 x4 x5 x6 x7 x8 :=
  ⟨⟨Lib.cell_of_heap h 0, Lib.cell_of_heap h 1, Lib.cell_of_heap h 2, Lib.cell_of_heap h 3, Lib.cell_of_heap h 4, Lib.cell_of_heap h 5, Lib.cell_of_heap h 6, Lib.cell_of_heap h 7, Lib.cell_of_heap h 8⟩,
   by rw [Lib.frozen_of_heap h 0], by rw [Lib.frozen_of_heap h 1], by rw [Lib.frozen_of_heap h 2], by rw [Lib.frozen_of_heap h 3], by rw [Lib.frozen_of_heap h 4], by rw [Lib.frozen_of_heap h 5], by rw [Lib.frozen_of_heap h 6], by rw [Lib.frozen_of_heap h 7], by rw [Lib.frozen_of_heap h 8]⟩

set_option maxHeartbeats 4000000 in
set_option maxRecDepth 100000 in
theorem check_num (q : Rat) (w : World) (hq : fits q = true) (hE : Env w) : Calls Tryz.prog 97 #[.agg #[.int .i64 1, .string (numS q), .string (denS q), .string { data := #[] }, .bool false, .int .i64 0, .int .i64 0, .int .i64 0, .slice none 0 0]] w fun e w' => e = .returned (.int .i64 0) ∧ Below w.heap.size w w' := by
  have TC := Lib.hid (fun W => check_ok q W hq)
  rw [fracV_is q] at TC
  clear hq
  have HX := Lib.hid (heap_alloc_new w (.cells #[.int .i64 1, .string (numS q), .string (denS q), .string { data := #[] }, .bool false, .int .i64 0, .int .i64 0, .int .i64 0, .slice none 0 0] 27))
  have HL := Lib.hid (show Below w.heap.size w (w.alloc (.cells #[.int .i64 1, .string (numS q), .string (denS q), .string { data := #[] }, .bool false, .int .i64 0, .int .i64 0, .int .i64 0, .slice none 0 0] 27)) from (Below.refl _ _).alloc (Nat.le_refl _) _)
  have HE := Lib.hid (hE.below HL.out)
  clear hE
  go_enter Tryz.func97, Tryz.ntmps97
  go_wp2_with fail
  refine (zeros_num q _).mono ?_
  rintro e W1 ⟨rfl, hb⟩
  replace HX := Lib.hid (keep_block HX.out hb)
  replace HE := Lib.hid (HE.out.below hb)
  replace HL := Lib.hid (HL.out.trans (hb.mono HL.out.size))
  clear hb
  obtain ⟨⟨x0, x1, x2, x3, x4, x5, x6, x7, x8⟩, _⟩ := nine_at HX.out
  go_wp2_with fail
  refine (TC.out _).mono ?_
  rintro e W2 ⟨rfl, hb⟩
  replace HL := Lib.hid (HL.out.trans (hb.mono HL.out.size))
  clear hb
  go_wp2
  go_ret
  exact ⟨rfl, HL.out⟩

set_option maxHeartbeats 4000000 in
set_option maxRecDepth 100000 in
theorem check_fault (c : Int) (w : World) (h1 : 1 ≤ c) (h2 : c ≤ 8) (hE : Env w) : Calls Tryz.prog 97 #[.agg #[.int .i64 4, .string { data := #[] }, .string { data := #[] }, .string { data := #[] }, .bool false, .int .i64 c, .int .i64 0, .int .i64 0, .slice none 0 0]] w fun e w' => e = .returned (.int .i64 0) ∧ Below w.heap.size w w' := by
  have HX := Lib.hid (heap_alloc_new w (.cells #[.int .i64 4, .string { data := #[] }, .string { data := #[] }, .string { data := #[] }, .bool false, .int .i64 c, .int .i64 0, .int .i64 0, .slice none 0 0] 27))
  have HL := Lib.hid (show Below w.heap.size w (w.alloc (.cells #[.int .i64 4, .string { data := #[] }, .string { data := #[] }, .string { data := #[] }, .bool false, .int .i64 c, .int .i64 0, .int .i64 0, .slice none 0 0] 27)) from (Below.refl _ _).alloc (Nat.le_refl _) _)
  have HE := Lib.hid (hE.below HL.out)
  clear hE
  go_enter Tryz.func97, Tryz.ntmps97
  go_wp2_with fail
  refine (zeros_fault c _).mono ?_
  rintro e W1 ⟨rfl, hb⟩
  replace HX := Lib.hid (keep_block HX.out hb)
  replace HE := Lib.hid (HE.out.below hb)
  replace HL := Lib.hid (HL.out.trans (hb.mono HL.out.size))
  clear hb
  obtain ⟨⟨x0, x1, x2, x3, x4, x5, x6, x7, x8⟩, _⟩ := nine_at HX.out
  go_wp2_with fail
  refine (faultText_any c h1 h2 _ HE.out).mono ?_
  rintro e W2 ⟨t, rfl, ht, rfl⟩
  go_wp2
  go_ret
  exact ⟨rfl, HL.out⟩

set_option maxHeartbeats 4000000 in
set_option maxRecDepth 100000 in
theorem check_empty (w : World) (hE : Env w) : Calls Tryz.prog 97 #[.agg #[.int .i64 0, .string { data := #[] }, .string { data := #[] }, .string { data := #[] }, .bool false, .int .i64 0, .int .i64 0, .int .i64 0, .slice none 0 0]] w fun e w' => e = .returned (.int .i64 0) ∧ Below w.heap.size w w' := by
  have HX := Lib.hid (heap_alloc_new w (.cells #[.int .i64 0, .string { data := #[] }, .string { data := #[] }, .string { data := #[] }, .bool false, .int .i64 0, .int .i64 0, .int .i64 0, .slice none 0 0] 27))
  have HL := Lib.hid (show Below w.heap.size w (w.alloc (.cells #[.int .i64 0, .string { data := #[] }, .string { data := #[] }, .string { data := #[] }, .bool false, .int .i64 0, .int .i64 0, .int .i64 0, .slice none 0 0] 27)) from (Below.refl _ _).alloc (Nat.le_refl _) _)
  have HE := Lib.hid (hE.below HL.out)
  clear hE
  go_enter Tryz.func97, Tryz.ntmps97
  go_wp2_with fail
  refine (zeros_empty _).mono ?_
  rintro e W1 ⟨rfl, hb⟩
  replace HX := Lib.hid (keep_block HX.out hb)
  replace HE := Lib.hid (HE.out.below hb)
  replace HL := Lib.hid (HL.out.trans (hb.mono HL.out.size))
  clear hb
  obtain ⟨⟨x0, x1, x2, x3, x4, x5, x6, x7, x8⟩, _⟩ := nine_at HX.out
  go_wp2
  go_ret
  exact ⟨rfl, HL.out⟩

end Go.Proofs.YtnlaecjniellpaaGreatDoor.Num
