/- Contracts of the program's functions, joined from smaller texts. Conditions stand at each theorem. -/
import Derived.Test.YtjcdeeahjkfmoaaGreatDoorDeaB
import Derived.Deep.RegionHeld3
import Derived.Laws.IdiomStrings
import Derived.Laws.BytesArg
import Derived.OrdersHeld
import Derived.Test.YtjcdeeahjkfmoaaGreatDoorNumG
set_option linter.unusedVariables false
set_option linter.unusedSimpArgs false
set_option maxRecDepth 100000
set_option maxHeartbeats 4000000
namespace Go.Proofs.YtjcdeeahjkfmoaaGreatDoor
namespace Num
open Go.RowKit Go.Lib
theorem dcalls_shaped {P : Program} {f : FuncId} {args : Array Value} {w : World} {n : Nat} (h : Calls P f args w fun e w' => ∃ v', e = .returned v' ∧ DecAt w' v' n ∧ Below w.heap.size w w') :
  Calls P f args w fun e w' => ∃ A L C, e = .returned (.slice A L C) ∧ DecAt w' (.slice A L C) n ∧ Below w.heap.size w w' := h.mono fun _ _ ⟨_, he, hd, hb⟩ => let ⟨A, L, C, hs⟩ := hd.shape; ⟨A, L, C, by rw [← hs]; exact he, by rw [← hs]; exact hd, hb⟩
theorem dless_below {P : Program} {f : FuncId} {args : Array Value} {w : World} {n : Nat} (h : Calls P f args w fun e w' => ∃ v', e = .returned v' ∧ DecAt w' v' n ∧ (∀ g, v'.ownBlock = some g → w.heap.size ≤ g) ∧ Below w.heap.size w w') :
  Calls P f args w fun e w' => ∃ v', e = .returned v' ∧ DecAt w' v' n ∧ Below w.heap.size w w' := h.mono fun _ _ ⟨v, he, hd, _, hb⟩ => ⟨v, he, hd, hb⟩
theorem dcompare_below {P : Program} {f : FuncId} {args : Array Value} {w : World} {c : Int} (h : Calls P f args w fun e w' => e = .returned (.int .i64 c) ∧ ∃ q, w' = w.drewN q) :
  Calls P f args w fun e w' => e = .returned (.int .i64 c) ∧ Below w.heap.size w w' :=
 h.mono fun _ _ ⟨he, q, hq⟩ => ⟨he, by rw [hq]; exact ⟨rfl, rfl, rfl, Nat.le_refl _, fun _ _ => rfl⟩⟩
theorem rcells2 {W : World} {p : Nat} {x y : Value} {T : TypeId} (h : W.heap[p]? = some (.cells #[x, y] T (0, 0))) : W.cell? ⟨p, 0, none⟩ = some x ∧ W.cell? ⟨p, 1, none⟩ = some y := ⟨Lib.cell_of_heap h 0, Lib.cell_of_heap h 1⟩
def NoDig (W : World) (b : Nat) : Prop := ∀ (j : Nat) (d : Int), W.cell? ⟨b, j, none⟩ ≠ some (.int .i64 d)
theorem noDig_num {W : World} {b : Nat} {m : Bool} {A1 A2 : Option Addr} {L1 C1 L2 C2 : Nat} {T : TypeId} {fz : Nat × Nat} (h : W.heap[b]? = some (.cells #[.bool m, .slice A1 L1 C1, .slice A2 L2 C2] T fz)) : NoDig W b := by
 intro j d e
 rw [Lib.cell_of_heap h j] at e
 match j with
 | 0 => cases e
 | 1 => cases e
 | 2 => cases e
 | n + 3 => simp at e
theorem DigsAt.but {W W' : World} {b : Nat} {v : Value} {l : List Nat} (h : DigsAt W v l) (hb : NoDig W b) (ho : ∀ k, k ≠ b → W'.heap[k]? = W.heap[k]?) : DigsAt W' v l := by
 obtain ⟨A, C, rfl, hC, hc⟩ := h
 refine ⟨A, C, rfl, hC, fun i hi => ?_⟩
 obtain ⟨b', o, ha, hcell⟩ := hc i hi
 refine ⟨b', o, ha, ?_⟩
 by_cases he : b' = b
 ·subst he
  exact absurd hcell (hb _ _)
 ·simp only [World.cell?] at hcell ⊢
  rw [ho b' he]; exact hcell
theorem DecAt.set3 {W : World} {b : Nat} {m : Bool} {A1 A2 : Option Addr} {L1 C1 L2 C2 : Nat} {T : TypeId} {v : Value} {n : Nat} (hn : DecAt W v n) (h : W.heap[b]? = some (.cells #[.bool m, .slice A1 L1 C1, .slice A2 L2 C2] T (0, 0))) (x y z : Value) :
  DecAt (((W.setCell ⟨b, 0, none⟩ x).setCell ⟨b, 1, none⟩ y).setCell ⟨b, 2, none⟩ z) v n :=
 DigsAt.but hn (noDig_num h) (fun _ hk => set3_other W b x y z hk)
theorem rat_stored {w W : World} {R a b : Nat} {m m0 : Bool} {A A' A1 A2 : Option Addr} {L C L' C' L1 C1 L2 C2 : Nat} (hb : Below w.heap.size w W) (hge : w.heap.size ≤ R) (hR : W.heap[R]? = some (.cells #[.bool m0, .slice A1 L1 C1, .slice A2 L2 C2] 59 (0, 0))) (h1 : DecAt W (.slice A L C) a) (h2 : DecAt W (.slice A' L' C') b) :
  RawRet w m a b (.returned (.agg #[.bool m, .slice A L C, .slice A' L' C'])) (((W.setCell ⟨R, 0, none⟩ (.bool m)).setCell ⟨R, 1, none⟩ (.slice A L C)).setCell ⟨R, 2, none⟩ (.slice A' L' C')) ∧ (((W.setCell ⟨R, 0, none⟩ (.bool m)).setCell ⟨R, 1, none⟩ (.slice A L C)).setCell ⟨R, 2, none⟩ (.slice A' L' C')).cell? ⟨R, 0, none⟩ = some (.bool m) ∧ (((W.setCell ⟨R, 0, none⟩ (.bool m)).setCell ⟨R, 1, none⟩ (.slice A L C)).setCell ⟨R, 2, none⟩ (.slice A' L' C')).cell? ⟨R, 1, none⟩ = some (.slice A L C) ∧ (((W.setCell ⟨R, 0, none⟩ (.bool m)).setCell ⟨R, 1, none⟩ (.slice A L C)).setCell ⟨R, 2, none⟩ (.slice A' L' C')).cell? ⟨R, 2, none⟩ = some (.slice A' L' C') :=
 rat_end (((hb.setCell (p := ⟨R, 0, none⟩) hge _).setCell (p := ⟨R, 1, none⟩) hge _).setCell (p := ⟨R, 2, none⟩) hge _) (set3_at hR _ _ _) (h1.set3 hR _ _ _) (h2.set3 hR _ _ _)
theorem dlen_mul {a b k l : Nat} (h1 : (digs 10 a).length ≤ k) (h2 : (digs 10 b).length ≤ l) : (digs 10 (a * b)).length ≤ k + l := by
 refine digs_len_le ten2 ?_
 have ha := Nat.lt_of_lt_of_le (digs_upper ten2 a) (Nat.pow_le_pow_right (by decide) h1)
 have hb := Nat.lt_of_lt_of_le (digs_upper ten2 b) (Nat.pow_le_pow_right (by decide) h2)
 rw [Nat.pow_add]
 exact Nat.mul_lt_mul'' ha hb
theorem rmul_any (v u : Value) (m k : Bool) (a b c d : Nat) (w : World) (h1 : RawAt w v m a b) (h2 : RawAt w u k c d) (l1 : (digs 10 a).length ≤ 1000000) (l2 : (digs 10 b).length ≤ 1000000) (l3 : (digs 10 c).length ≤ 1000000) (l4 : (digs 10 d).length ≤ 1000000) :
  Calls Tryz.prog 40 #[v, u] w (RawRet w (m != k) (a * c) (b * d)) := by
 obtain ⟨A1, L1, C1, A2, L2, C2, rfl, p1, p2⟩ := h1
 obtain ⟨A3, L3, C3, A4, L4, C4, rfl, p3, p4⟩ := h2
 have T13 := hid (fun W h h' => dcalls_shaped (dtimes_any (.slice A1 L1 C1) (.slice A3 L3 C3) a c W h h' (by omega) (by omega)))
 have T24 := hid (fun W h h' => dcalls_shaped (dtimes_any (.slice A2 L2 C2) (.slice A4 L4 C4) b d W h h' (by omega) (by omega)))
 obtain ⟨qHX, qHY, qHR, hb⟩ := three_new w (.cells #[.bool m, .slice A1 L1 C1, .slice A2 L2 C2] 59) (.cells #[.bool k, .slice A3 L3 C3, .slice A4 L4 C4] 59) (.cells #[.bool false, .slice none 0 0, .slice none 0 0] 59)
 have HX := hid qHX
 have HY := hid qHY
 have HR := hid qHR
 have N1 := hid ((p1).below hb)
 have N2 := hid ((p2).below hb)
 have N3 := hid ((p3).below hb)
 have N4 := hid ((p4).below hb)
 have HL := hid hb
 clear hb qHX qHY qHR p1 p2 p3 p4 l1 l2 l3 l4
 obtain ⟨W0, hW0⟩ : ∃ W0, (((w.alloc (.cells #[.bool m, .slice A1 L1 C1, .slice A2 L2 C2] 59)).alloc (.cells #[.bool k, .slice A3 L3 C3, .slice A4 L4 C4] 59)).alloc (.cells #[.bool false, .slice none 0 0, .slice none 0 0] 59)) = W0 := ⟨_, rfl⟩
 rw [hW0] at HL HX HY HR N1 N2 N3 N4
 have HW := hid hW0
 clear hW0
 go_enter Tryz.func40, Tryz.ntmps40
 go_wp2_with fail
 rw [HW.out]
 replace HX := hid (drew_block HX.out)
 replace HY := hid (drew_block HY.out)
 replace HR := hid (drew_block HR.out)
 replace N1 := hid (N1.out.below (Below.refl _ W0).drew)
 replace N2 := hid (N2.out.below (Below.refl _ W0).drew)
 replace N3 := hid (N3.out.below (Below.refl _ W0).drew)
 replace N4 := hid (N4.out.below (Below.refl _ W0).drew)
 replace HL := hid (show Below w.heap.size w W0.drew from HL.out.drew)
 go_region_held3 (fun W => W.cell? ⟨w.heap.size, 0, none⟩ = some (.bool m) ∧ W.cell? ⟨w.heap.size, 1, none⟩ = some (.slice A1 L1 C1) ∧ W.cell? ⟨w.heap.size, 2, none⟩ = some (.slice A2 L2 C2) ∧ W.cell? ⟨w.heap.size + 1, 0, none⟩ = some (.bool k) ∧ W.cell? ⟨w.heap.size + 1, 1, none⟩ = some (.slice A3 L3 C3) ∧ W.cell? ⟨w.heap.size + 1, 2, none⟩ = some (.slice A4 L4 C4))
  (first | (with_reducible exact cells6 HX.out HY.out) | (with_reducible exact cells6_set3 HX.out HY.out) | fail)
  ((first | (go_at_call 57; (with_reducible refine (T13.out _ N1.out N3.out).mono ?_); rintro e W1 ⟨B1, M1, D1, rfl, hp, hb⟩; replace HX := hid (keep_block HX.out hb); replace HY := hid (keep_block HY.out hb); replace HR := hid (keep_block HR.out hb); replace N1 := hid (N1.out.below hb); replace N2 := hid (N2.out.below hb); replace N3 := hid (N3.out.below hb); replace N4 := hid (N4.out.below hb); replace HL := hid (HL.out.trans (hb.mono HL.out.size)); have P1 := hid hp; clear hp; clear hb) | (go_at_call 57; (with_reducible refine (T24.out _ N2.out N4.out).mono ?_); rintro e W2 ⟨B2, M2, D2, rfl, hp, hb⟩; replace HX := hid (keep_block HX.out hb); replace HY := hid (keep_block HY.out hb); replace HR := hid (keep_block HR.out hb); replace N1 := hid (N1.out.below hb); replace N2 := hid (N2.out.below hb); replace N3 := hid (N3.out.below hb); replace N4 := hid (N4.out.below hb); replace P1 := hid (P1.out.below hb); replace HL := hid (HL.out.trans (hb.mono HL.out.size)); have P2 := hid hp; clear hp; clear hb; obtain ⟨⟨r0, r1, r2⟩, rf0, rf1, rf2⟩ := three_at HR.out)))
 have hge : w.heap.size ≤ w.heap.size + 1 + 1 := by omega
 obtain ⟨hret, e0, e1, e2⟩ := rat_stored (m := (!m == k)) HL.out hge HR.out P1.out P2.out
 go_wp2
 refine bodyPost_ret (v := .agg #[.bool (!m == k), .slice B1 M1 D1, .slice B2 M2 D2]) (by simp [results, Tryz.results40, go_sem, e0, e1, e2]) rfl (by rw [show (m != k) = (!m == k) by cases m <;> cases k <;> rfl]; exact hret)
theorem cells6_setc {W : World} {p q b j : Nat} {u x0 x1 x2 y0 y1 y2 : Value} {T U : TypeId} (hx : W.heap[p]? = some (.cells #[x0, x1, x2] T (0, 0))) (hy : W.heap[q]? = some (.cells #[y0, y1, y2] U (0, 0))) (hp : p ≠ b) (hq : q ≠ b) :
  (W.setCell ⟨b, j, none⟩ u).cell? ⟨p, 0, none⟩ = some x0 ∧ (W.setCell ⟨b, j, none⟩ u).cell? ⟨p, 1, none⟩ = some x1 ∧ (W.setCell ⟨b, j, none⟩ u).cell? ⟨p, 2, none⟩ = some x2 ∧ (W.setCell ⟨b, j, none⟩ u).cell? ⟨q, 0, none⟩ = some y0 ∧ (W.setCell ⟨b, j, none⟩ u).cell? ⟨q, 1, none⟩ = some y1 ∧ (W.setCell ⟨b, j, none⟩ u).cell? ⟨q, 2, none⟩ = some y2 :=
 cells6 ((Below.heap_setCell W ⟨b, j, none⟩ u p hp).trans hx) ((Below.heap_setCell W ⟨b, j, none⟩ u q hq).trans hy)
theorem cells6_setc2 {W : World} {p q b j i : Nat} {u t x0 x1 x2 y0 y1 y2 : Value} {T U : TypeId} (hx : W.heap[p]? = some (.cells #[x0, x1, x2] T (0, 0))) (hy : W.heap[q]? = some (.cells #[y0, y1, y2] U (0, 0))) (hp : p ≠ b) (hq : q ≠ b) :
  ((W.setCell ⟨b, j, none⟩ u).setCell ⟨b, i, none⟩ t).cell? ⟨p, 0, none⟩ = some x0 ∧ ((W.setCell ⟨b, j, none⟩ u).setCell ⟨b, i, none⟩ t).cell? ⟨p, 1, none⟩ = some x1 ∧ ((W.setCell ⟨b, j, none⟩ u).setCell ⟨b, i, none⟩ t).cell? ⟨p, 2, none⟩ = some x2 ∧ ((W.setCell ⟨b, j, none⟩ u).setCell ⟨b, i, none⟩ t).cell? ⟨q, 0, none⟩ = some y0 ∧ ((W.setCell ⟨b, j, none⟩ u).setCell ⟨b, i, none⟩ t).cell? ⟨q, 1, none⟩ = some y1 ∧ ((W.setCell ⟨b, j, none⟩ u).setCell ⟨b, i, none⟩ t).cell? ⟨q, 2, none⟩ = some y2 :=
 cells6_setc ((Below.heap_setCell W ⟨b, j, none⟩ u p hp).trans hx) ((Below.heap_setCell W ⟨b, j, none⟩ u q hq).trans hy) hp hq
theorem DecAt.setc {W : World} {b j : Nat} {u : Value} {m : Bool} {A1 A2 : Option Addr} {L1 C1 L2 C2 : Nat} {T : TypeId} {v : Value} {n : Nat} (hn : DecAt W v n) (h : W.heap[b]? = some (.cells #[.bool m, .slice A1 L1 C1, .slice A2 L2 C2] T (0, 0))) : DecAt (W.setCell ⟨b, j, none⟩ u) v n :=
 DigsAt.but hn (noDig_num h) (fun k hk => Below.heap_setCell W ⟨b, j, none⟩ u k hk)
theorem out_stored {w W : World} {o R a b : Nat} {m : Bool} {A A' : Option Addr} {L C L' C' : Nat} {OR : Obj} (hb : Below w.heap.size w W) (hge : w.heap.size ≤ o) (hO : W.heap[o]? = some (.cells #[.bool false, .slice none 0 0, .slice A' L' C'] 59 (0, 0))) (hR : W.heap[R]? = some OR) (hne : R ≠ o) (h1 : DecAt W (.slice A L C) a) (h2 : DecAt W (.slice A' L' C') b) {W' : World} (hW : (W.setCell ⟨o, 0, none⟩ (.bool m)).setCell ⟨o, 1, none⟩ (.slice A L C) = W') :
  Below w.heap.size w W' ∧ W'.heap[o]? = some (.cells #[.bool m, .slice A L C, .slice A' L' C'] 59 (0, 0)) ∧ W'.heap[R]? = some OR ∧ DecAt W' (.slice A L C) a ∧ DecAt W' (.slice A' L' C') b := by
 have k1 := heap_setCell_at hO 0 (.bool m)
 have k2 := heap_setCell_at k1 1 (.slice A L C)
 rw [← hW]
 exact ⟨(hb.setCell (p := ⟨o, 0, none⟩) hge _).setCell (p := ⟨o, 1, none⟩) hge _, k2, (Below.heap_setCell _ ⟨o, 1, none⟩ _ R hne).trans ((Below.heap_setCell _ ⟨o, 0, none⟩ _ R hne).trans hR), (h1.setc hO).setc k1, (h2.setc hO).setc k1⟩
theorem radd_any (v u : Value) (m k : Bool) (a b c d : Nat) (w : World) (h1 : RawAt w v m a b) (h2 : RawAt w u k c d) (l1 : (digs 10 a).length ≤ 1000000) (l2 : (digs 10 b).length ≤ 1000000) (l3 : (digs 10 c).length ≤ 1000000) (l4 : (digs 10 d).length ≤ 1000000) :
  Calls Tryz.prog 42 #[v, u] w (RawRet w (sumSign m k (a * d) (c * b)) (sumNum m k (a * d) (c * b)) (b * d)) := by
 obtain ⟨A1, L1, C1, A2, L2, C2, rfl, p1, p2⟩ := h1
 obtain ⟨A3, L3, C3, A4, L4, C4, rfl, p3, p4⟩ := h2
 have T14 := hid (fun W h h' => dcalls_shaped (dtimes_any (.slice A1 L1 C1) (.slice A4 L4 C4) a d W h h' (by omega) (by omega)))
 have T32 := hid (fun W h h' => dcalls_shaped (dtimes_any (.slice A3 L3 C3) (.slice A2 L2 C2) c b W h h' (by omega) (by omega)))
 have T24 := hid (fun W h h' => dcalls_shaped (dtimes_any (.slice A2 L2 C2) (.slice A4 L4 C4) b d W h h' (by omega) (by omega)))
 have TP := hid (fun W v v' h h' => dcalls_shaped (dplus_any v v' (a * d) (c * b) W h h' (by have := dlen_mul l1 l4; omega) (by have := dlen_mul l3 l2; omega)))
 have TC := hid (fun W v v' h h' => dcompare_below (dcompare_any v v' (a * d) (c * b) W h h' (by have := dlen_mul l1 l4; omega) (by have := dlen_mul l3 l2; omega)))
 have TM1 := hid (fun W v v' h h' hle => dcalls_shaped (dless_below (dless_any v v' (a * d) (c * b) W h h' hle (by have := dlen_mul l1 l4; omega))))
 have TM2 := hid (fun W v v' h h' hle => dcalls_shaped (dless_below (dless_any v v' (c * b) (a * d) W h h' hle (by have := dlen_mul l3 l2; omega))))
 obtain ⟨qHX, qHY, qHR, hb⟩ := three_new w (.cells #[.bool m, .slice A1 L1 C1, .slice A2 L2 C2] 59) (.cells #[.bool k, .slice A3 L3 C3, .slice A4 L4 C4] 59) (.cells #[.bool false, .slice none 0 0, .slice none 0 0] 59)
 have HX := hid qHX
 have HY := hid qHY
 have HR := hid qHR
 have N1 := hid ((p1).below hb)
 have N2 := hid ((p2).below hb)
 have N3 := hid ((p3).below hb)
 have N4 := hid ((p4).below hb)
 have HL := hid hb
 clear hb qHX qHY qHR p1 p2 p3 p4 l1 l2 l3 l4
 obtain ⟨W0, hW0⟩ : ∃ W0, (((w.alloc (.cells #[.bool m, .slice A1 L1 C1, .slice A2 L2 C2] 59)).alloc (.cells #[.bool k, .slice A3 L3 C3, .slice A4 L4 C4] 59)).alloc (.cells #[.bool false, .slice none 0 0, .slice none 0 0] 59)) = W0 := ⟨_, rfl⟩
 rw [hW0] at HL HX HY HR N1 N2 N3 N4
 have HW := hid hW0
 clear hW0
 go_enter Tryz.func42, Tryz.ntmps42
 go_wp2_with fail
 rw [HW.out]
 replace HX := hid (drew_block HX.out)
 replace HY := hid (drew_block HY.out)
 replace HR := hid (drew_block HR.out)
 replace N1 := hid (N1.out.below (Below.refl _ W0).drew)
 replace N2 := hid (N2.out.below (Below.refl _ W0).drew)
 replace N3 := hid (N3.out.below (Below.refl _ W0).drew)
 replace N4 := hid (N4.out.below (Below.refl _ W0).drew)
 replace HL := hid (show Below w.heap.size w W0.drew from HL.out.drew)
 go_region_held3 (fun W => W.cell? ⟨w.heap.size, 0, none⟩ = some (.bool m) ∧ W.cell? ⟨w.heap.size, 1, none⟩ = some (.slice A1 L1 C1) ∧ W.cell? ⟨w.heap.size, 2, none⟩ = some (.slice A2 L2 C2) ∧ W.cell? ⟨w.heap.size + 1, 0, none⟩ = some (.bool k) ∧ W.cell? ⟨w.heap.size + 1, 1, none⟩ = some (.slice A3 L3 C3) ∧ W.cell? ⟨w.heap.size + 1, 2, none⟩ = some (.slice A4 L4 C4))
  (first | (with_reducible exact cells6 HX.out HY.out) | fail)
  ((first | (go_at_call 57; (with_reducible refine (T14.out _ N1.out N4.out).mono ?_); rintro e W1 ⟨B1, M1, D1, rfl, hp, hb⟩; replace HX := hid (keep_block HX.out hb); replace HY := hid (keep_block HY.out hb); replace HR := hid (keep_block HR.out hb); replace N1 := hid (N1.out.below hb); replace N2 := hid (N2.out.below hb); replace N3 := hid (N3.out.below hb); replace N4 := hid (N4.out.below hb); replace HL := hid (HL.out.trans (hb.mono HL.out.size)); have P1 := hid hp; clear hp; clear hb) | (go_at_call 57; (with_reducible refine (T32.out _ N3.out N2.out).mono ?_); rintro e W2 ⟨B2, M2, D2, rfl, hp, hb⟩; replace HX := hid (keep_block HX.out hb); replace HY := hid (keep_block HY.out hb); replace HR := hid (keep_block HR.out hb); replace N1 := hid (N1.out.below hb); replace N2 := hid (N2.out.below hb); replace N3 := hid (N3.out.below hb); replace N4 := hid (N4.out.below hb); replace P1 := hid (P1.out.below hb); replace HL := hid (HL.out.trans (hb.mono HL.out.size)); have P2 := hid hp; clear hp; clear hb)))
 obtain ⟨⟨cHX0, cHX1, cHX2⟩, fHX0, fHX1, fHX2⟩ := three_at HX.out
 obtain ⟨⟨cHY0, cHY1, cHY2⟩, fHY0, fHY1, fHY2⟩ := three_at HY.out
 go_wp2_with fail
 refine (T24.out _ N2.out N4.out).mono ?_
 rintro e W3 ⟨B3, M3, D3, rfl, hp, hb⟩
 clear cHX0 cHX1 cHX2 fHX0 fHX1 fHX2 cHY0 cHY1 cHY2 fHY0 fHY1 fHY2
 replace HX := hid (keep_block HX.out hb)
 replace HY := hid (keep_block HY.out hb)
 replace HR := hid (keep_block HR.out hb)
 replace N1 := hid (N1.out.below hb)
 replace N2 := hid (N2.out.below hb)
 replace N3 := hid (N3.out.below hb)
 replace N4 := hid (N4.out.below hb)
 replace P1 := hid (P1.out.below hb)
 replace P2 := hid (P2.out.below hb)
 replace HL := hid (HL.out.trans (hb.mono HL.out.size))
 have P3 := hid hp
 clear hb hp
 have hq : Below W3.heap.size W3 (W3.alloc (.cells #[.bool false, .slice none 0 0, .slice B3 M3 D3] 59)) := (Below.refl _ _).alloc (Nat.le_refl _) _
 have gHO := heap_lt HR.out
 replace HX := hid (keep_block HX.out hq)
 replace HY := hid (keep_block HY.out hq)
 replace HR := hid (keep_block HR.out hq)
 replace N1 := hid (N1.out.below hq)
 replace N2 := hid (N2.out.below hq)
 replace N3 := hid (N3.out.below hq)
 replace N4 := hid (N4.out.below hq)
 replace P1 := hid (P1.out.below hq)
 replace P2 := hid (P2.out.below hq)
 replace P3 := hid (P3.out.below hq)
 replace HL := hid (HL.out.trans (hq.mono HL.out.size))
 have HO := hid (heap_alloc_new W3 (.cells #[.bool false, .slice none 0 0, .slice B3 M3 D3] 59))
 clear hq
 have hne : w.heap.size + 1 + 1 ≠ W3.heap.size := by omega
 have hnx : w.heap.size ≠ W3.heap.size := by omega
 have hny : w.heap.size + 1 ≠ W3.heap.size := by omega
 have hgw : w.heap.size ≤ W3.heap.size := by omega
 have hge : w.heap.size ≤ w.heap.size + 1 + 1 := by omega
 obtain ⟨⟨cHX0, cHX1, cHX2⟩, fHX0, fHX1, fHX2⟩ := three_at HX.out
 obtain ⟨⟨cHY0, cHY1, cHY2⟩, fHY0, fHY1, fHY2⟩ := three_at HY.out
 by_cases hmk : m = k
 ·subst hmk
  have HS := hid (show sumSign m m (a * d) (c * b) = m by unfold sumSign; simp)
  have HN := hid (show sumNum m m (a * d) (c * b) = a * d + c * b by unfold sumNum; simp)
  have hq : (m == m) = true := by simp
  go_wp2_with fail
  replace HX := hid (drew_block HX.out)
  replace HY := hid (drew_block HY.out)
  replace HR := hid (drew_block HR.out)
  replace HO := hid (drew_block HO.out)
  replace N1 := hid (N1.out.below (Below.refl _ (W3.alloc (.cells #[.bool false, .slice none 0 0, .slice B3 M3 D3] 59))).drew)
  replace N2 := hid (N2.out.below (Below.refl _ (W3.alloc (.cells #[.bool false, .slice none 0 0, .slice B3 M3 D3] 59))).drew)
  replace N3 := hid (N3.out.below (Below.refl _ (W3.alloc (.cells #[.bool false, .slice none 0 0, .slice B3 M3 D3] 59))).drew)
  replace N4 := hid (N4.out.below (Below.refl _ (W3.alloc (.cells #[.bool false, .slice none 0 0, .slice B3 M3 D3] 59))).drew)
  replace P1 := hid (P1.out.below (Below.refl _ (W3.alloc (.cells #[.bool false, .slice none 0 0, .slice B3 M3 D3] 59))).drew)
  replace P2 := hid (P2.out.below (Below.refl _ (W3.alloc (.cells #[.bool false, .slice none 0 0, .slice B3 M3 D3] 59))).drew)
  replace P3 := hid (P3.out.below (Below.refl _ (W3.alloc (.cells #[.bool false, .slice none 0 0, .slice B3 M3 D3] 59))).drew)
  replace HL := hid (show Below w.heap.size w (W3.alloc (.cells #[.bool false, .slice none 0 0, .slice B3 M3 D3] 59)).drew from HL.out.drew)
  go_region_held3 (fun W => W.cell? ⟨w.heap.size, 0, none⟩ = some (.bool m) ∧ W.cell? ⟨w.heap.size, 1, none⟩ = some (.slice A1 L1 C1) ∧ W.cell? ⟨w.heap.size, 2, none⟩ = some (.slice A2 L2 C2) ∧ W.cell? ⟨w.heap.size + 1, 0, none⟩ = some (.bool m) ∧ W.cell? ⟨w.heap.size + 1, 1, none⟩ = some (.slice A3 L3 C3) ∧ W.cell? ⟨w.heap.size + 1, 2, none⟩ = some (.slice A4 L4 C4))
   (first | (with_reducible exact cells6 HX.out HY.out) | (with_reducible exact cells6_setc HX.out HY.out hnx hny) | (with_reducible exact cells6_setc2 HX.out HY.out hnx hny) | fail)
   ((first | (go_at_call 118; (with_reducible refine (TP.out _ _ _ P1.out P2.out).mono ?_); rintro e W4 ⟨B5, M5, D5, rfl, hp, hb⟩; replace HX := hid (keep_block HX.out hb); replace HY := hid (keep_block HY.out hb); replace HR := hid (keep_block HR.out hb); replace HO := hid (keep_block HO.out hb); replace N1 := hid (N1.out.below hb); replace N2 := hid (N2.out.below hb); replace N3 := hid (N3.out.below hb); replace N4 := hid (N4.out.below hb); replace P1 := hid (P1.out.below hb); replace P2 := hid (P2.out.below hb); replace P3 := hid (P3.out.below hb); replace HL := hid (HL.out.trans (hb.mono HL.out.size)); have P5 := hid hp; clear hp; clear hb; obtain ⟨⟨o0, o1, o2⟩, of0, of1, of2⟩ := three_at HO.out)))
  clear o0 o1 o2 of0 of1 of2
  obtain ⟨WS, hWS⟩ : ∃ Z, (W4.setCell ⟨W3.heap.size, 0, none⟩ (.bool m)).setCell ⟨W3.heap.size, 1, none⟩ (.slice B5 M5 D5) = Z := ⟨_, rfl⟩
  obtain ⟨s1, s2, s3, s4, s5⟩ := out_stored HL.out hgw HO.out HR.out hne P5.out P3.out hWS
  rw [hWS]
  clear hWS
  obtain ⟨⟨o0, o1, o2⟩, of0, of1, of2⟩ := three_at s2
  obtain ⟨⟨r0, r1, r2⟩, rf0, rf1, rf2⟩ := three_at s3
  obtain ⟨hret, e0, e1, e2⟩ := rat_stored (m := m) s1 hge s3 s4 s5
  clear s1 s2 s3 s4 s5
  go_wp2
  refine bodyPost_ret (v := .agg #[.bool m, .slice B5 M5 D5, .slice B3 M3 D3]) (by simp [results, Tryz.results42, go_sem, e0, e1, e2]) rfl (by rw [HS.out, HN.out]; exact hret)
 ·have hq : (m == k) = false := by rw [beq_eq_false_iff_ne]; exact hmk
  go_wp2_with fail
  refine (TC.out _ _ _ P1.out P2.out).mono ?_
  rintro e W5 ⟨rfl, hb⟩
  clear cHX0 cHX1 cHX2 fHX0 fHX1 fHX2 cHY0 cHY1 cHY2 fHY0 fHY1 fHY2
  replace HX := hid (keep_block HX.out hb)
  replace HY := hid (keep_block HY.out hb)
  replace HR := hid (keep_block HR.out hb)
  replace HO := hid (keep_block HO.out hb)
  replace N1 := hid (N1.out.below hb)
  replace N2 := hid (N2.out.below hb)
  replace N3 := hid (N3.out.below hb)
  replace N4 := hid (N4.out.below hb)
  replace P1 := hid (P1.out.below hb)
  replace P2 := hid (P2.out.below hb)
  replace P3 := hid (P3.out.below hb)
  replace HL := hid (HL.out.trans (hb.mono HL.out.size))
  clear hb
  obtain ⟨⟨cHX0, cHX1, cHX2⟩, fHX0, fHX1, fHX2⟩ := three_at HX.out
  obtain ⟨⟨cHY0, cHY1, cHY2⟩, fHY0, fHY1, fHY2⟩ := three_at HY.out
  by_cases hle : c * b ≤ a * d
  ·have HS := hid (show sumSign m k (a * d) (c * b) = m by unfold sumSign; rw [if_neg (by rw [hq]; decide), if_pos hle])
   have HN := hid (show sumNum m k (a * d) (c * b) = a * d - c * b by unfold sumNum; rw [if_neg (by rw [hq]; decide), if_pos hle])
   have hcb : decide ((0 : Int) ≤ cmpN (a * d) (c * b)) = true := decide_eq_true (by unfold cmpN; rw [if_neg (by omega)]; split <;> omega)
   have TM := hid (fun W v v' h h' => TM1.out W v v' h h' hle)
   clear hle
   go_wp2_with fail
   replace HX := hid (drew_block HX.out)
   replace HY := hid (drew_block HY.out)
   replace HR := hid (drew_block HR.out)
   replace HO := hid (drew_block HO.out)
   replace N1 := hid (N1.out.below (Below.refl _ W5).drew)
   replace N2 := hid (N2.out.below (Below.refl _ W5).drew)
   replace N3 := hid (N3.out.below (Below.refl _ W5).drew)
   replace N4 := hid (N4.out.below (Below.refl _ W5).drew)
   replace P1 := hid (P1.out.below (Below.refl _ W5).drew)
   replace P2 := hid (P2.out.below (Below.refl _ W5).drew)
   replace P3 := hid (P3.out.below (Below.refl _ W5).drew)
   replace HL := hid (show Below w.heap.size w W5.drew from HL.out.drew)
   go_region_held3 (fun W => W.cell? ⟨w.heap.size, 0, none⟩ = some (.bool m) ∧ W.cell? ⟨w.heap.size, 1, none⟩ = some (.slice A1 L1 C1) ∧ W.cell? ⟨w.heap.size, 2, none⟩ = some (.slice A2 L2 C2) ∧ W.cell? ⟨w.heap.size + 1, 0, none⟩ = some (.bool k) ∧ W.cell? ⟨w.heap.size + 1, 1, none⟩ = some (.slice A3 L3 C3) ∧ W.cell? ⟨w.heap.size + 1, 2, none⟩ = some (.slice A4 L4 C4))
    (first | (with_reducible exact cells6 HX.out HY.out) | (with_reducible exact cells6_setc HX.out HY.out hnx hny) | (with_reducible exact cells6_setc2 HX.out HY.out hnx hny) | fail)
    ((first | (go_at_call 120; (with_reducible refine (TM.out _ _ _ P1.out P2.out).mono ?_); rintro e W6 ⟨B5, M5, D5, rfl, hp, hb⟩; replace HX := hid (keep_block HX.out hb); replace HY := hid (keep_block HY.out hb); replace HR := hid (keep_block HR.out hb); replace HO := hid (keep_block HO.out hb); replace N1 := hid (N1.out.below hb); replace N2 := hid (N2.out.below hb); replace N3 := hid (N3.out.below hb); replace N4 := hid (N4.out.below hb); replace P1 := hid (P1.out.below hb); replace P2 := hid (P2.out.below hb); replace P3 := hid (P3.out.below hb); replace HL := hid (HL.out.trans (hb.mono HL.out.size)); have P5 := hid hp; clear hp; clear hb; obtain ⟨⟨o0, o1, o2⟩, of0, of1, of2⟩ := three_at HO.out)))
   clear o0 o1 o2 of0 of1 of2
   obtain ⟨WS, hWS⟩ : ∃ Z, (W6.setCell ⟨W3.heap.size, 0, none⟩ (.bool m)).setCell ⟨W3.heap.size, 1, none⟩ (.slice B5 M5 D5) = Z := ⟨_, rfl⟩
   obtain ⟨s1, s2, s3, s4, s5⟩ := out_stored HL.out hgw HO.out HR.out hne P5.out P3.out hWS
   rw [hWS]
   clear hWS
   obtain ⟨⟨o0, o1, o2⟩, of0, of1, of2⟩ := three_at s2
   obtain ⟨⟨r0, r1, r2⟩, rf0, rf1, rf2⟩ := three_at s3
   obtain ⟨hret, e0, e1, e2⟩ := rat_stored (m := m) s1 hge s3 s4 s5
   clear s1 s2 s3 s4 s5
   go_wp2
   refine bodyPost_ret (v := .agg #[.bool m, .slice B5 M5 D5, .slice B3 M3 D3]) (by simp [results, Tryz.results42, go_sem, e0, e1, e2]) rfl (by rw [HS.out, HN.out]; exact hret)
  ·have HS := hid (show sumSign m k (a * d) (c * b) = k by unfold sumSign; rw [if_neg (by rw [hq]; decide), if_neg hle])
   have HN := hid (show sumNum m k (a * d) (c * b) = c * b - a * d by unfold sumNum; rw [if_neg (by rw [hq]; decide), if_neg hle])
   have hcb : decide ((0 : Int) ≤ cmpN (a * d) (c * b)) = false := decide_eq_false (by unfold cmpN; rw [if_pos (by omega)]; omega)
   have TM := hid (fun W v v' h h' => TM2.out W v v' h h' (Nat.le_of_lt (Nat.lt_of_not_le hle)))
   clear hle
   go_wp2_with fail
   replace HX := hid (drew_block HX.out)
   replace HY := hid (drew_block HY.out)
   replace HR := hid (drew_block HR.out)
   replace HO := hid (drew_block HO.out)
   replace N1 := hid (N1.out.below (Below.refl _ W5).drew)
   replace N2 := hid (N2.out.below (Below.refl _ W5).drew)
   replace N3 := hid (N3.out.below (Below.refl _ W5).drew)
   replace N4 := hid (N4.out.below (Below.refl _ W5).drew)
   replace P1 := hid (P1.out.below (Below.refl _ W5).drew)
   replace P2 := hid (P2.out.below (Below.refl _ W5).drew)
   replace P3 := hid (P3.out.below (Below.refl _ W5).drew)
   replace HL := hid (show Below w.heap.size w W5.drew from HL.out.drew)
   go_region_held3 (fun W => W.cell? ⟨w.heap.size, 0, none⟩ = some (.bool m) ∧ W.cell? ⟨w.heap.size, 1, none⟩ = some (.slice A1 L1 C1) ∧ W.cell? ⟨w.heap.size, 2, none⟩ = some (.slice A2 L2 C2) ∧ W.cell? ⟨w.heap.size + 1, 0, none⟩ = some (.bool k) ∧ W.cell? ⟨w.heap.size + 1, 1, none⟩ = some (.slice A3 L3 C3) ∧ W.cell? ⟨w.heap.size + 1, 2, none⟩ = some (.slice A4 L4 C4))
    (first | (with_reducible exact cells6 HX.out HY.out) | (with_reducible exact cells6_setc HX.out HY.out hnx hny) | (with_reducible exact cells6_setc2 HX.out HY.out hnx hny) | fail)
    ((first | (go_at_call 120; (with_reducible refine (TM.out _ _ _ P2.out P1.out).mono ?_); rintro e W7 ⟨B5, M5, D5, rfl, hp, hb⟩; replace HX := hid (keep_block HX.out hb); replace HY := hid (keep_block HY.out hb); replace HR := hid (keep_block HR.out hb); replace HO := hid (keep_block HO.out hb); replace N1 := hid (N1.out.below hb); replace N2 := hid (N2.out.below hb); replace N3 := hid (N3.out.below hb); replace N4 := hid (N4.out.below hb); replace P1 := hid (P1.out.below hb); replace P2 := hid (P2.out.below hb); replace P3 := hid (P3.out.below hb); replace HL := hid (HL.out.trans (hb.mono HL.out.size)); have P5 := hid hp; clear hp; clear hb; obtain ⟨⟨o0, o1, o2⟩, of0, of1, of2⟩ := three_at HO.out)))
   clear o0 o1 o2 of0 of1 of2
   obtain ⟨WS, hWS⟩ : ∃ Z, (W7.setCell ⟨W3.heap.size, 0, none⟩ (.bool k)).setCell ⟨W3.heap.size, 1, none⟩ (.slice B5 M5 D5) = Z := ⟨_, rfl⟩
   obtain ⟨s1, s2, s3, s4, s5⟩ := out_stored HL.out hgw HO.out HR.out hne P5.out P3.out hWS
   rw [hWS]
   clear hWS
   obtain ⟨⟨o0, o1, o2⟩, of0, of1, of2⟩ := three_at s2
   obtain ⟨⟨r0, r1, r2⟩, rf0, rf1, rf2⟩ := three_at s3
   obtain ⟨hret, e0, e1, e2⟩ := rat_stored (m := k) s1 hge s3 s4 s5
   clear s1 s2 s3 s4 s5
   go_wp2
   refine bodyPost_ret (v := .agg #[.bool k, .slice B5 M5 D5, .slice B3 M3 D3]) (by simp [results, Tryz.results42, go_sem, e0, e1, e2]) rfl (by rw [HS.out, HN.out]; exact hret)
end Num
namespace Num
open Go.RowKit Go.Lib
theorem rev_take (l : List UInt8) (i : Nat) (h : i < l.length) : (l.drop i).reverse = (l.drop (i + 1)).reverse ++ [l[i]] := by
 rw [List.drop_eq_getElem_cons h, List.reverse_cons]
theorem natOf_any (s : ByteArray) (w : World) (hs : s.size ≤ 1000000000) (hd : AllDigits s.data.toList) :
  Calls Tryz.prog 54 #[.string s] w fun e w' => ∃ v', e = .returned v' ∧ DecAt w' v' (decVal s.data.toList) ∧ Below w.heap.size w w' := by
 obtain ⟨i0, hi0, hz0, hz1, hz2⟩ := info_dint
 obtain ⟨B, hB⟩ : ∃ B, w.heap.size = B := ⟨_, rfl⟩
 have HB := hid hB
 have HD := hid hd
 have HSZ : Hid (s.data.toList.length = s.size) := by show _ = _; rw [Array.length_toList]; rfl
 clear hd
 go_enter Tryz.func54, Tryz.ntmps54
 go_wp2
 go_loopg [3, 4] s.size (fun g v3 v4 wx => ∃ (i : Nat), i = g ∧ i ≤ s.size ∧ v4 = .int .i64 ((i : Int) - 1) ∧ OwnD B v3 ((s.data.toList.drop i).reverse.map dig) wx ∧ Below B w wx ∧ B ≤ wx.heap.size)
 case atStart => exact ⟨s.size, rfl, Nat.le_refl _, by go_num, by rw [List.drop_of_length_le (by rw [HSZ.out]; exact Nat.le_refl _)]; exact World.ownsRow_nil _ _ _ _, by rw [← HB.out]; exact Below.refl _ _, by rw [HB.out]; exact Nat.le_refl _⟩
 case round =>
  obtain ⟨i, rfl, hi, rfl, hown, hb, hs0⟩ := hrel
  have HO := hid hown; have HBW := hid hb
  clear hown hb
  by_cases h0 : i = 0
  ·subst h0
   have hge : decide ((0 : Int) ≤ ((0 : Nat) : Int) - 1) = false := rfl
   have HF := hid (show OwnD B _ (s.data.toList.reverse.map dig) wr from HO.out)
   go_wp2_with fail
   refine (dtrim_own _ _ wr HF.out.at (rev_lt HD.out) (by simp; exact hs)).mono ?_
   rintro e w1 ⟨v', rfl, hd', _, rfl⟩
   rw [val_rev] at hd'
   have HDD := hid hd'
   go_wp2
   go_ret
   exact ⟨_, rfl, HDD.out, by rw [HB.out]; exact HBW.out⟩
  ·obtain ⟨j, rfl⟩ : ∃ j, i = j + 1 := ⟨i - 1, by omega⟩
   have hge : decide ((0 : Int) ≤ (j : Int)) = true := decide_eq_true (by omega)
   have hij : (((j + 1 : Nat) : Int) - 1) = (j : Int) := by omega
   have hjl : j < s.data.toList.length := by rw [HSZ.out]; omega
   have hjs : j < s.size := by omega
   obtain ⟨c, hc⟩ : ∃ c, s.data.toList[j] = c := ⟨_, rfl⟩
   obtain ⟨hcl, hcu⟩ := HD.out c (by rw [← hc]; exact List.getElem_mem hjl)
   obtain ⟨x0, hx⟩ : ∃ x0, (s[j]'hjs).toNat = x0 := ⟨_, rfl⟩
   have hcx : c.toNat = x0 := by rw [← hc, ← hx]; rfl
   rw [hcx] at hcl hcu
   have m0 : x0 < 256 := by omega
   have HN : Hid ((s.data.toList.drop j).reverse.map dig = (s.data.toList.drop (j + 1)).reverse.map dig ++ [x0 - 48]) := by
    show _ = _
    rw [rev_take _ j hjl, List.map_append, hc]
    simp only [List.map_cons, List.map_nil, dig, hcx]
   obtain ⟨o, ho⟩ : ∃ o, (s.data.toList.drop (j + 1)).reverse.map dig = o := ⟨_, rfl⟩
   rw [ho] at HO HN
   have HOL : Hid (o.length = s.size - (j + 1)) := by show _ = _; rw [← ho]; simp [HSZ.out]
   have hlen3 : o.length + 1 ≤ 1000000003 := by have := HOL.out; omega
   clear hc hcx ho
   have hj0 : (0 : Int) ≤ (j : Int) := by omega
   have hjk : (j : Int) < (s.size : Int) := by omega
   obtain ⟨av, cv, rfl⟩ := owns_form HO.out
   have hsub : ((x0 : Int) - 48) = ((x0 - 48 : Nat) : Int) := by omega
   have hw8 : IntKind.u8.wrap ((x0 : Int) - 48) = (x0 : Int) - 48 := by rw [IntKind.wrap_u8]; omega
   have HBODY : Hid (∀ (v3 : Value) (w3 : World), w3.ownsRow B 3 1 v3 (o.length + 1) (digsV o ++ [.int .i64 ((x0 : Int) - 48)]) → (wr.alloc (.cells #[.int .i64 ((x0 : Int) - 48)] 3)).grownBy w3 (Value.slice av o.length cv).ownBlock → OwnD B v3 (o ++ [x0 - 48]) w3 ∧ Below B w w3 ∧ B ≤ w3.heap.size) := by
    intro v3 w3 hown3 hgrow3
    exact ⟨OwnD.snoc (by rw [hsub] at hown3; exact hown3), (HBW.out.alloc hs0 _).grown hgrow3 (by simp; omega) (fun k e => (HO.out.lt k e).1), Nat.le_trans hs0 (Nat.le_trans (by simp) hgrow3.size)⟩
   clear hsub
   go_wp2_with (at_builtin; refine wpList_append_own _ rfl _ _ 57 rfl B 3 i0 (.int .i64 0) 1 8 Tryz.underlying57 hi0 hz0 hz1 hz2 rfl (by decide) (.slice av o.length cv) o.length (digsV o) rfl (HO.out.alloc (.cells #[.int .i64 ((x0 : Int) - 48)] 3)) ⟨wr.heap.size, 0, none⟩ 1 1 [.int .i64 ((x0 : Int) - 48)] rfl rfl (cell_one_new _ _ _) (by simp [Value.oneCell']) (by unfold maxLen; omega) (by omega) (by simp; omega) ?_)
   intro v3 w3 hown3 hgrow3 _
   obtain ⟨hn3, hb3, hs3⟩ := HBODY.out v3 w3 hown3 hgrow3
   have HN3 := hid hn3; have HB3 := hid hb3
   clear hown3 hgrow3 hn3 hb3
   go_wp2
   go_roundg j
   case measure => omega
   case rel => exact ⟨j, rfl, by omega, by go_num, by rw [HN.out]; exact HN3.out, HB3.out, hs3⟩
theorem info_byte : ∃ i0, Tryz.prog.info? 5 = some i0 ∧ i0.zero = some (.int .u8 0) ∧ i0.size = 1 ∧ i0.bytes = 1 := info_parts (by kernel_rfl)
theorem bytes_row {B : Nat} {w : World} {v : Value} {l : List UInt8} (h : w.ownsRow B 5 1 v l.length (Lib.byteCells l)) (hne : l ≠ []) :
  (convert 125 9 v).run Tryz.prog w = .ok (.string ⟨l.toArray⟩) w := by
 have hpos := List.length_pos_iff.2 hne
 rcases h.2 with ⟨_, h0⟩ | ⟨g, cap, cur, rfl, hb, hg, hc1, hc2, hcs, htk⟩
 ·omega
 ·refine run_convert_bytes_back w 125 9 5 ⟨g, 0, none⟩ cap l Tryz.underlying125 Tryz.underlying5 Tryz.underlying9 (fun j hj => ?_)
  rw [Addr.add_lit, Nat.zero_add, Lib.cell_of_heap hg j]
  have e : (cur.toList.take (l.length * 1))[j]? = some (.int .u8 (l[j].toNat : Int)) := by
   rw [htk, Lib.byteCells, List.getElem?_map, List.getElem?_eq_getElem hj]; rfl
  rw [List.getElem?_take_of_lt (by omega)] at e
  simpa using e
theorem text_take (n i : Nat) (h : i < (digs 10 n).length) : ((digs 10 n).drop i).reverse.map (fun d => UInt8.ofNat (48 + d)) = ((digs 10 n).drop (i + 1)).reverse.map (fun d => UInt8.ofNat (48 + d)) ++ [UInt8.ofNat (48 + (digs 10 n).getD i 0)] := by
 rw [List.drop_eq_getElem_cons h, List.reverse_cons, List.map_append]
 simp [List.getD, h]
theorem dtext_any (v : Value) (n : Nat) (w : World) (h : DecAt w v n) (hl : (digs 10 n).length ≤ 1000000000) :
  Calls Tryz.prog 121 #[v] w fun e w' => e = .returned (.string ⟨(Lib.decDigits n).toArray⟩) ∧ Below w.heap.size w w' := by
 obtain ⟨A, L, C, rfl, hL, hz⟩ := h.len0
 have HD := hid h; clear h
 by_cases hn : n = 0
 ·have hL0 : L = 0 := hz.2 hn
  subst hL0
  subst hn
  rw [decDigits_zero]
  clear hL hz hl
  go_enter Tryz.func121, Tryz.ntmps121
  go_wp2
  go_ret
  exact ⟨rfl, Below.refl _ _⟩
 ·have hL0 : ¬ L = 0 := fun e => hn (hz.1 e)
  have hLb : ((L : Int) == 0) = false := by rw [beq_eq_false_iff_ne]; omega
  have hLn : (L == 0) = false := by rw [beq_eq_false_iff_ne]; exact hL0
  obtain ⟨i0, hi0, hz0, hz1, hz2⟩ := info_byte
  obtain ⟨B, hB⟩ : ∃ B, w.heap.size = B := ⟨_, rfl⟩
  have HB := hid hB
  have HN := hid hn
  have HL := hid hL
  rw [← hL] at hl
  clear hn hz hL hL0
  go_enter Tryz.func121, Tryz.ntmps121
  go_wp2
  go_loopg [3, 4] L (fun g v3 v4 wx => ∃ (i : Nat) (o : List UInt8), i = g ∧ i ≤ L ∧ v4 = .int .i64 ((i : Int) - 1) ∧ o = ((digs 10 n).drop i).reverse.map (fun d => UInt8.ofNat (48 + d)) ∧ wx.ownsRow B 5 1 v3 o.length (Lib.byteCells o) ∧ Below B w wx ∧ B ≤ wx.heap.size)
  case atStart => exact ⟨L, _, rfl, Nat.le_refl _, by go_num, rfl, by rw [List.drop_of_length_le (by rw [HL.out]; exact Nat.le_refl _)]; exact World.ownsRow_nil _ _ _ _, by rw [← HB.out]; exact Below.refl _ _, by rw [HB.out]; exact Nat.le_refl _⟩
  case round =>
   obtain ⟨i, o, rfl, hi, rfl, ho, hown, hb, hs0⟩ := hrel
   have HO := hid hown; have HBW := hid hb; have HOE := hid ho
   clear hown hb ho
   by_cases h0 : i = 0
   ·subst h0
    have hge : decide ((0 : Int) ≤ ((0 : Nat) : Int) - 1) = false := rfl
    have hoe : o = Lib.decDigits n := by rw [HOE.out, ← digs_ten_rev n HN.out]; rfl
    have hcv := bytes_row HO.out (by rw [hoe]; exact decDigits_ne n)
    rw [hoe] at hcv
    clear hoe
    go_wp2
    go_ret
    exact ⟨rfl, by rw [HB.out]; exact HBW.out⟩
   ·obtain ⟨j, rfl⟩ : ∃ j, i = j + 1 := ⟨i - 1, by omega⟩
    have hge : decide ((0 : Int) ≤ (j : Int)) = true := decide_eq_true (by omega)
    have hij : (((j + 1 : Nat) : Int) - 1) = (j : Int) := by omega
    have hjl : j < (digs 10 n).length := by rw [← HL.out]; omega
    have HDJ : DigsAt wr (.slice A (digs 10 n).length C) (digs 10 n) := by
     have h1 := HD.out
     unfold DecAt at h1
     rw [HL.out] at h1
     exact h1.below (by rw [HB.out]; exact HBW.out)
    obtain ⟨b1, o1, rfl, e1⟩ := HDJ.cellD j hjl
    obtain ⟨d, hd⟩ : ∃ d, (digs 10 n).getD j 0 = d := ⟨_, rfl⟩
    have hd10 : d < 10 := by rw [← hd]; exact getD_lt (by decide) (digs_lt ten2 n) j
    have htk := text_take n j hjl
    rw [hd] at e1 htk
    rw [← HOE.out] at htk
    have HTK := hid htk
    have HOL : Hid (o.length = L - (j + 1)) := by show _ = _; rw [HOE.out, HL.out]; simp
    have hlen3 : o.length + 1 ≤ 1000000003 := by have := HOL.out; omega
    clear htk hd hjl HDJ
    have hj0 : (0 : Int) ≤ (j : Int) := by omega
    have hjk : (j : Int) < (L : Int) := by omega
    obtain ⟨av, cv, rfl⟩ := owns_form HO.out
    have hw8 : IntKind.u8.wrap ((48 : Int) + d) = (48 : Int) + d := by rw [IntKind.wrap_u8]; omega
    have hbc : (48 : Int) + d = ((UInt8.ofNat (48 + d)).toNat : Int) := by rw [dig_toNat hd10]; omega
    have HBODY : Hid (∀ (v3 : Value) (w3 : World), w3.ownsRow B 5 1 v3 (o.length + 1) (Lib.byteCells o ++ [.int .u8 ((48 : Int) + d)]) → (wr.alloc (.cells #[.int .u8 ((48 : Int) + d)] 5)).grownBy w3 (Value.slice av o.length cv).ownBlock → w3.ownsRow B 5 1 v3 (o ++ [UInt8.ofNat (48 + d)]).length (Lib.byteCells (o ++ [UInt8.ofNat (48 + d)])) ∧ Below B w w3 ∧ B ≤ w3.heap.size) := by
     intro v3 w3 hown3 hgrow3
     refine ⟨?_, (HBW.out.alloc hs0 _).grown hgrow3 (by simp; omega) (fun k e => (HO.out.lt k e).1), Nat.le_trans hs0 (Nat.le_trans (by simp) hgrow3.size)⟩
     rw [hbc] at hown3
     rw [List.length_append, Lib.byteCells, List.map_append]
     exact hown3
    clear hbc
    go_wp2_with (at_builtin; refine wpList_append_own _ rfl _ _ 125 rfl B 5 i0 (.int .u8 0) 1 1 Tryz.underlying125 hi0 hz0 hz1 hz2 rfl (by decide) (.slice av o.length cv) o.length (Lib.byteCells o) rfl (HO.out.alloc (.cells #[.int .u8 ((48 : Int) + d)] 5)) ⟨wr.heap.size, 0, none⟩ 1 1 [.int .u8 ((48 : Int) + d)] rfl rfl (cell_one_new _ _ _) (by simp [Value.oneCell']) (by unfold maxLen; omega) (by omega) (by simp; omega) ?_)
    intro v3 w3 hown3 hgrow3 _
    obtain ⟨hn3, hb3, hs3⟩ := HBODY.out v3 w3 hown3 hgrow3
    have HN3 := hid hn3; have HB3 := hid hb3
    clear hown3 hgrow3 hn3 hb3
    go_wp2
    go_roundg j
    case measure => omega
    case rel => exact ⟨j, _, rfl, by omega, by go_num, HTK.out.symm, HN3.out, HB3.out, hs3⟩
end Num
namespace Num
section
variable {P : Program} {ops : Array Oper} {Q : Exit → Act → World → Prop} {md : Region.Mode}
def unl (ops : Array Oper) (listed : Array Bool) : List Nat := (List.range ops.size).filter fun j => !(listed.getD j true)
theorem unl_set {listed : Array Bool} {i : Nat} (hi : i < ops.size) (hun : listed.getD i true = false) : (unl ops (listed.setIfInBounds i true)).length < (unl ops listed).length := by
 have hsz : i < listed.size := by
  rcases Nat.lt_or_ge i listed.size with h | h
  ·exact h
  ·simp [Array.getElem?_eq_none h] at hun
 have e : unl ops (listed.setIfInBounds i true) = (unl ops listed).filter fun j => !(j == i) := by
  unfold unl
  rw [List.filter_filter]
  apply List.filter_congr
  intro j hj
  by_cases hji : i = j
  ·subst hji; simp [hsz]
  ·have : (j == i) = false := by simp; omega
   rw [getD_set_ne true hji, this]; simp
 rw [e, List.length_filter_lt_length_iff_exists]
 refine ⟨i, ?_, by simp⟩
 unfold unl
 rw [List.mem_filter, List.mem_range]
 exact ⟨hi, by rw [hun]; rfl⟩
theorem unl_ready {listed : Array Bool} {i : Nat} (h : i ∈ Region.ready md ops listed) : 0 < (unl ops listed).length := by
 obtain ⟨h0, o, ho, _⟩ := mem_ready.1 h
 have hi : i < ops.size := (Array.getElem?_eq_some_iff.1 ho).1
 refine List.length_pos_of_mem (a := i) ?_
 unfold unl
 rw [List.mem_filter, List.mem_range]
 exact ⟨hi, by rw [h0]; rfl⟩
theorem wpAny_inv (I : Array Bool → Act → World → Prop)
  (hstep : ∀ listed a w, I listed a w → ∀ i o, ops[i]? = some o → listed.getD i true = false → (∀ e ∈ o.after, Region.binds md e = true → listed.getD e.on false = true) → wpOp P ops Q i (fun a' w' => I (listed.setIfInBounds i true) a' w') a w)
  (hdone : ∀ listed a w, I listed a w → Region.ready md ops listed = [] → Q .normal a w) :
  ∀ fuel listed a w, (unl ops listed).length ≤ fuel → I listed a w → wpAny P md ops Q fuel listed a w := by
 intro fuel
 induction fuel with
 | zero =>
  intro listed a w hu hI
  have hr : Region.ready md ops listed = [] := by
   cases hr : Region.ready md ops listed with
   | nil => rfl
   | cons i r => have := unl_ready (md := md) (ops := ops) (listed := listed) (i := i) (by rw [hr]; simp); omega
  exact ⟨hr, hdone listed a w hI hr⟩
 | succ n ih =>
  intro listed a w hu hI
  refine ⟨fun hr => hdone listed a w hI hr, fun i hi => ?_⟩
  obtain ⟨h0, o, ho, hall⟩ := mem_ready.1 hi
  refine wpOp_mono (fun a' w' h => ih _ a' w' ?_ h) (hstep listed a w hI i o ho h0 hall)
  have := unl_set (ops := ops) (Array.getElem?_eq_some_iff.1 ho).1 h0
  omega
theorem wp_region_inv {id : Nat} {a : Act} {w : World} (hm : P.follows .mixedOrders = true) (I : Array Bool → Act → World → Prop)
  (h0 : I (Array.replicate ops.size false) a w.drew)
  (hstep : ∀ listed a w, I listed a w → ∀ i o, ops[i]? = some o → listed.getD i true = false → (∀ e ∈ o.after, Region.binds .any e = true → listed.getD e.on false = true) → wpOp P ops Q i (fun a' w' => I (listed.setIfInBounds i true) a' w') a w)
  (hdone : ∀ listed a w, I listed a w → Region.ready .any ops listed = [] → Q .normal a w) : (Code.region id ops true).wp P Q a w :=
 wp_region_any hm (wpAny_inv I hstep hdone _ _ _ _ (by
  unfold unl
  refine Nat.le_trans (List.length_filter_le _ _) ?_
  rw [List.length_range]; exact Nat.le_refl _) h0)
def needs (md : Region.Mode) (ops : Array Oper) (i : Nat) : List Nat :=
 match ops[i]? with
 | some o => (o.after.toList.filter fun e => Region.binds md e).map (·.on)
 | none => []
def backB (ops : Array Oper) : Bool := (List.range ops.size).all fun i => match ops[i]? with
 | some o => o.after.toList.all fun e => !Region.binds .any e || decide (e.on < i)
 | none => true
theorem all_listed {listed : Array Bool} (hsz : listed.size = ops.size) (hb : backB ops = true) (hr : Region.ready .any ops listed = []) : ∀ j, j < ops.size → listed.getD j false = true := by
 intro j
 induction j using Nat.strongRecOn with
 | ind j ih =>
  intro hj
  cases hl : listed.getD j false with
  | true => rfl
  | false =>
   have hun : listed.getD j true = false := by
    have hj' : j < listed.size := by omega
    simp [hj'] at hl ⊢
    exact hl
   have ho : ops[j]? = some ops[j] := Array.getElem?_eq_getElem hj
   have hbj := List.all_eq_true.1 hb j (List.mem_range.2 hj)
   rw [ho] at hbj
   have : j ∈ Region.ready .any ops listed := mem_ready.2 ⟨hun, ops[j], ho, fun e he hbd => by
    have h1 := List.all_eq_true.1 hbj e (Array.mem_toList_iff.2 he)
    rw [hbd] at h1
    have := of_decide_eq_true h1
    exact ih e.on this (by omega)⟩
   rw [hr] at this
   cases this
theorem step_of {i : Nat} {K : Act → World → Prop} {a : Act} {w : World} (o : Oper) (ho : ops[i]? = some o)
  (h : ∀ K' : Act → World → Prop, Shut (∀ a w, K a w → K' a w) → if Region.wanted o (yielded ops a.tmps) = true then Oper.wp P o a w K' Q else K' (a.put o.dst undef) w) : wpOp P ops Q i K a w :=
 wpOp_step ho (fun K' hK => h K' hK)
theorem bit_mono {listed : Array Bool} {i j : Nat} (h : listed.getD j false = true) : (listed.setIfInBounds i true).getD j false = true := by
 by_cases e : i = j
 ·subst e
  have hsz : i < listed.size := by
   rcases Nat.lt_or_ge i listed.size with h' | h'
   ·exact h'
   ·simp [Array.getElem?_eq_none h'] at h
  simp [hsz]
 ·rwa [getD_set_ne false e]
theorem bit_off {listed : Array Bool} {i : Nat} (h : listed.getD i true = false) : ¬ listed.getD i false = true := by
 have hsz : i < listed.size := by
  rcases Nat.lt_or_ge i listed.size with h' | h'
  ·exact h'
  ·simp [Array.getElem?_eq_none h'] at h
 simp [hsz] at h ⊢
 exact h
theorem bit_none {n i : Nat} : ¬ (Array.replicate n false).getD i false = true := by
 simp [Array.getElem?_replicate]
 split <;> simp
theorem bit_self {listed : Array Bool} {i : Nat} (h : listed.getD i true = false) : (listed.setIfInBounds i true).getD i false = true := by
 have hsz : i < listed.size := by
  rcases Nat.lt_or_ge i listed.size with h' | h'
  ·exact h'
  ·simp [Array.getElem?_eq_none h'] at h
 simp [hsz]
end
end Num
namespace Num
open Go.RowKit Go.Lib
inductive RK where
 | pure (v : Value)
 | row (cs : Array Value) (T : TypeId) (n : Nat)
 | box (g : Option Nat) (z f : Array Value) (T : TypeId) (st : Nat)
 | put (al : Nat)
 | any (R : Value → World → Prop)
 | blk (g : Option Nat) (z f : List Value) (sts : List (Option Nat)) (T : TypeId)
 | free
def RK.owns : RK → Bool
 | .row .. => true
 | .box .. => true
 | .blk .. => true
 | _ => false
def RK.isAny : RK → Bool
 | .any _ => true
 | .blk .. => true
 | _ => false
def blkOf : Value → Option Nat
 | .pointer (some p) => some p.block
 | .slice (some p) _ _ => some p.block
 | _ => none
def mixL (listed : Array Bool) : List Value → List Value → List (Option Nat) → List Value
 | a :: z, b :: f, some st :: sts => (if listed.getD st false = true then b else a) :: mixL listed z f sts
 | a :: z, _ :: f, none :: sts => a :: mixL listed z f sts
 | z, _, _ => z
theorem mix_ne {listed : Array Bool} {i : Nat} : ∀ (z f : List Value) (sts : List (Option Nat)), (∀ s ∈ sts, s ≠ some i) → mixL (listed.setIfInBounds i true) z f sts = mixL listed z f sts
 | a :: z, b :: f, some st :: sts, h => by
  have h1 : i ≠ st := fun e => h (some st) List.mem_cons_self (by rw [e])
  show (if (listed.setIfInBounds i true).getD st false = true then b else a) :: _ = (if listed.getD st false = true then b else a) :: _
  rw [getD_set_ne false h1, mix_ne z f sts (fun s hs => h s (List.mem_cons_of_mem _ hs))]
 | a :: z, _ :: f, none :: sts, h => by
  show a :: mixL _ z f sts = a :: mixL _ z f sts
  rw [mix_ne z f sts (fun s hs => h s (List.mem_cons_of_mem _ hs))]
 | [], [], _, _ => by simp [mixL]
 | [], _ :: _, _, _ => by simp [mixL]
 | _ :: _, [], _, _ => by simp [mixL]
 | _ :: _, _ :: _, [], _ => by simp [mixL]
def RK.holds (B : Nat) (listed : Array Bool) (v : Value) (W : World) : RK → Prop
 | .pure c => v = c
 | .row cs T n => ∃ G, v = .slice (some ⟨G, 0, none⟩) n n ∧ B ≤ G ∧ W.heap[G]? = some (.cells cs T (0, 0))
 | .box g z f T st => ∃ G, v = .pointer (some ⟨G, 0, none⟩) ∧ (∀ k, g = some k → G = k) ∧ B ≤ G ∧ W.heap[G]? = some (.cells (if listed.getD st false = true then f else z) T (0, 0))
 | .put _ => True
 | .free => True
 | .any R => R v W
 | .blk g z f sts T => ∃ G, v = .pointer (some ⟨G, 0, none⟩) ∧ (∀ k, g = some k → G = k) ∧ B ≤ G ∧ W.heap[G]? = some (.cells (mixL listed z f sts).toArray T (0, 0))
def RK.putsB : RK → Nat → Bool
 | .put al, j => al == j
 | _, _ => false
def RK.boxB (n : Nat) (ks : List RK) (j : Nat) : RK → Bool
 | .box _ _ _ _ st => decide (n ≤ st) || match ks[st]? with
  | some k => k.putsB j
  | none => false
 | .put _ => decide (j < n)
 | .blk _ _ _ sts _ => sts.all fun s => match s with
  | none => true
  | some st => match ks[st]? with
   | some k => k.putsB j
   | none => false
 | _ => true
def okB (n : Nat) (ks : List RK) : Bool := (List.range ks.length).all fun j => match ks[j]? with
 | some k => k.boxB n ks j
 | none => true
def RK.lasts : RK → Prop
 | .any R => ∀ v W W', R v W → Below W.heap.size W W' → R v W'
 | _ => True
def NoAny (ks : List RK) : Prop := (∀ (i : Nat) (R : Value → World → Prop), ks[i]? ≠ some (.any R)) ∧ ∀ (i : Nat) (g : Option Nat) (z f : List Value) (sts : List (Option Nat)) (T : TypeId), ks[i]? ≠ some (.blk g z f sts T)
theorem noAny_of {ks : List RK} (h : (ks.all fun k => !k.isAny) = true) : NoAny ks :=
 ⟨fun i R hi => (by have := List.all_eq_true.1 h _ (List.mem_of_getElem? hi); cases this), fun i g z f sts T hi => (by have := List.all_eq_true.1 h _ (List.mem_of_getElem? hi); cases this)⟩
theorem lasts_of' {ks : List RK} (h : ∀ (i : Nat) (R : Value → World → Prop), ks[i]? ≠ some (.any R)) : ∀ (i : Nat) (k : RK), ks[i]? = some k → k.lasts := by
 intro i k hi
 cases k with
 | any R => exact absurd hi (h i R)
 | pure v => trivial
 | row cs T n => trivial
 | box g z f T st => trivial
 | put al => trivial
 | free => trivial
 | blk g z f sts T => trivial
theorem lasts_of {ks : List RK} (h : NoAny ks) : ∀ (i : Nat) (k : RK), ks[i]? = some k → k.lasts := lasts_of' h.1
theorem okB_blk {n : Nat} {ks : List RK} (h : okB n ks = true) {j i : Nat} {g : Option Nat} {z f : List Value} {sts : List (Option Nat)} {T : TypeId} (hj : ks[j]? = some (.blk g z f sts T)) (hi : some i ∈ sts) : ks[i]? = some (.put j) := by
 have hlt := (List.getElem?_eq_some_iff.1 hj).1
 have := List.all_eq_true.1 h j (List.mem_range.2 hlt)
 rw [hj] at this
 have this := List.all_eq_true.1 this (some i) hi
 have this : (match ks[i]? with | some k => k.putsB j | none => false) = true := this
 cases hs : ks[i]? with
 | none => rw [hs] at this; cases this
 | some k =>
  rw [hs] at this
  cases k with
  | put al =>
   have e : (al == j) = true := this
   rw [beq_iff_eq.1 e]
  | pure v => cases this
  | row cs T n => cases this
  | box g z f T st => cases this
  | any R => cases this
  | free => cases this
  | blk g z f sts T => cases this
theorem okB_box {n : Nat} {ks : List RK} (h : okB n ks = true) {j : Nat} {z f : Array Value} {T : TypeId} {st : Nat} {g : Option Nat} (hj : ks[j]? = some (.box g z f T st)) : n ≤ st ∨ ks[st]? = some (.put j) := by
 have hlt := (List.getElem?_eq_some_iff.1 hj).1
 have := List.all_eq_true.1 h j (List.mem_range.2 hlt)
 rw [hj] at this
 have this : (decide (n ≤ st) || match ks[st]? with | some k => k.putsB j | none => false) = true := this
 rw [Bool.or_eq_true] at this
 rcases this with h | this
 ·exact .inl (of_decide_eq_true h)
 right
 cases hs : ks[st]? with
 | none => rw [hs] at this; cases this
 | some k =>
  rw [hs] at this
  cases k with
  | put al =>
   have e : (al == j) = true := this
   rw [beq_iff_eq.1 e]
  | pure v => cases this
  | row cs T n => cases this
  | box g z f T st => cases this
  | any R => cases this
  | free => cases this
  | blk g z f sts T => cases this
theorem okB_put {n : Nat} {ks : List RK} (h : okB n ks = true) {j al : Nat} (hj : ks[j]? = some (.put al)) : j < n := by
 have hlt := (List.getElem?_eq_some_iff.1 hj).1
 have := List.all_eq_true.1 h j (List.mem_range.2 hlt)
 rw [hj] at this
 exact of_decide_eq_true this
def On (n : Nat) (listed : Array Bool) (i : Nat) : Prop := n ≤ i ∨ listed.getD i false = true
structure Fs (nd : Nat → Nat → Bool) (n : Nat) (ks : List RK) (w : World) (row : Option Nat) (listed : Array Bool) (vs : List Value) (W : World) : Prop where
 lsz : listed.size = n
 len : vs.length = ks.length
 low : w.grownBy W row
 get : ∀ i k, ks[i]? = some k → On n listed i → k.holds w.heap.size listed (vs.getD i undef) W
 ne : ∀ i j ki kj, i ≠ j → ks[i]? = some ki → ks[j]? = some kj → ki.owns = true → kj.owns = true → On n listed i → On n listed j → blkOf (vs.getD i undef) ≠ blkOf (vs.getD j undef)
 puts : ∀ i al, ks[i]? = some (.put al) → listed.getD i false = true → On n listed al
 back : ∀ i j, listed.getD i false = true → nd i j = true → listed.getD j false = true
theorem On.mono {n : Nat} {listed : Array Bool} {i j : Nat} (h : On n listed j) : On n (listed.setIfInBounds i true) j := h.imp id bit_mono
theorem On.of_set {n : Nat} {listed : Array Bool} {i j : Nat} (h : On n (listed.setIfInBounds i true) j) (hne : i ≠ j) : On n listed j := h.imp id fun h => by rwa [getD_set_ne false hne] at h
theorem getD_vset (vs : List Value) (i : Nat) (v d : Value) (hi : i < vs.length) : (vs.set i v).getD i d = v := by
 simp [List.getD, hi]
theorem getD_vset_ne {vs : List Value} {i j : Nat} {v d : Value} (h : i ≠ j) : (vs.set i v).getD j d = vs.getD j d := by
 simp [List.getD, List.getElem?_set_ne h]
theorem RK.blkAt {k : RK} {B : Nat} {listed : Array Bool} {v : Value} {W : World} (h : k.holds B listed v W) (ho : k.owns = true) : ∃ G, blkOf v = some G ∧ B ≤ G ∧ G < W.heap.size := by
 cases k with
 | row cs T n => obtain ⟨G, rfl, hB, hG⟩ := h; exact ⟨G, rfl, hB, heap_lt hG⟩
 | box g z f T st => obtain ⟨G, rfl, _, hB, hG⟩ := h; exact ⟨G, rfl, hB, heap_lt hG⟩
 | pure v => cases ho
 | put al => cases ho
 | free => cases ho
 | any R => cases ho
 | blk g z f sts T => obtain ⟨G, rfl, _, hB, hG⟩ := h; exact ⟨G, rfl, hB, heap_lt hG⟩
theorem back_set {nd : Nat → Nat → Bool} {listed : Array Bool} {i : Nat} (h : ∀ i j, listed.getD i false = true → nd i j = true → listed.getD j false = true) (hpre : ∀ j, nd i j = true → listed.getD j false = true) :
  ∀ a b, (listed.setIfInBounds i true).getD a false = true → nd a b = true → (listed.setIfInBounds i true).getD b false = true := by
 intro a b ha hn
 by_cases e : i = a
 ·subst e; exact bit_mono (hpre b hn)
 ·rw [getD_set_ne false e] at ha
  exact bit_mono (h a b ha hn)
theorem below_only {w W W' : World} {row : Option Nat} (h : w.grownBy W row) (hb : Below w.heap.size W W') : w.grownBy W' row :=
 ⟨hb.os.trans h.os, hb.tape.trans h.tape, hb.output.trans h.output, Nat.le_trans h.size hb.size, fun k hk hr => (hb.block k hk).trans (h.block k hk hr)⟩
theorem Fs.grow {nd : Nat → Nat → Bool} {n : Nat} {ks : List RK} {w : World} {row : Option Nat} {listed : Array Bool} {vs : List Value} {W W' : World} (hF : Fs nd n ks w row listed vs W) (hok : okB n ks = true) (hl : ∀ (i : Nat) (k : RK), ks[i]? = some k → k.lasts)
  {i : Nat} {k : RK} {v : Value} (hpre : ∀ j, nd i j = true → listed.getD j false = true) (hk : ks[i]? = some k) (hnp : ∀ al, k ≠ .put al) (hb : Below W.heap.size W W') (hv : k.holds w.heap.size (listed.setIfInBounds i true) v W')
  (hfresh : k.owns = true → ∃ G, blkOf v = some G ∧ W.heap.size ≤ G) : Fs nd n ks w row (listed.setIfInBounds i true) (vs.set i v) W' := by
 have hi : i < vs.length := by rw [hF.len]; exact (List.getElem?_eq_some_iff.1 hk).1
 refine ⟨by simpa using hF.lsz, by rw [List.length_set]; exact hF.len, only_trans hF.low (only_of_below hb row), ?_, ?_, ?_, back_set hF.back hpre⟩
 ·intro j kj hj hlj
  by_cases e : i = j
  ·subst e
   rw [hk] at hj
   cases hj
   rw [getD_vset _ _ _ _ hi]; exact hv
  ·have hlj' := hlj.of_set e
   rw [getD_vset_ne e]
   have h := hF.get j kj hj hlj'
   cases kj with
   | pure c => exact h
   | row cs T n => obtain ⟨G, hG, hB, hh⟩ := h; exact ⟨G, hG, hB, keep_block hh hb⟩
   | box g z f T st =>
    obtain ⟨G, hG, hgg, hB, hh⟩ := h
    have hne : listed.getD st false = (listed.setIfInBounds i true).getD st false := by
     rcases okB_box hok hj with hst | hst
     ·have h1 : ¬ st < listed.size := by rw [hF.lsz]; omega
      simp [h1]
     ·have hne : i ≠ st := by
       rintro rfl
       rw [hk] at hst
       exact hnp j (Option.some.inj hst)
      rw [getD_set_ne false hne]
    refine ⟨G, hG, hgg, hB, ?_⟩
    rw [← hne]
    exact keep_block hh hb
   | put al => trivial
   | free => trivial
   | any R => exact hl j _ hj _ _ _ h hb
   | blk g z f sts T =>
    obtain ⟨G, hG, hgg, hB, hh⟩ := h
    refine ⟨G, hG, hgg, hB, ?_⟩
    rw [mix_ne z f sts (fun x hx => by
     rintro rfl
     have hst := okB_blk hok hj hx
     rw [hk] at hst
     exact hnp j (Option.some.inj hst))]
    exact keep_block hh hb
 ·intro a b ka kb hab ha hb' oa ob la lb
  by_cases ea : i = a
  ·subst ea
   rw [hk] at ha
   cases ha
   have lb' := lb.of_set hab
   rw [getD_vset _ _ _ _ hi, getD_vset_ne hab]
   obtain ⟨G, hG, hge⟩ := hfresh oa
   obtain ⟨G', hG', _, hlt⟩ := RK.blkAt (hF.get b kb hb' lb') ob
   rw [hG, hG']
   intro h
   have := Option.some.inj h
   omega
  ·have la' := la.of_set ea
   rw [getD_vset_ne ea]
   by_cases eb : i = b
   ·subst eb
    rw [hk] at hb'
    cases hb'
    rw [getD_vset _ _ _ _ hi]
    obtain ⟨G, hG, hge⟩ := hfresh ob
    obtain ⟨G', hG', _, hlt⟩ := RK.blkAt (hF.get a ka ha la') oa
    rw [hG, hG']
    intro h
    have := Option.some.inj h
    omega
   ·rw [getD_vset_ne eb]
    exact hF.ne a b ka kb hab ha hb' oa ob la' (lb.of_set eb)
 ·intro a al ha la
  by_cases ea : i = a
  ·subst ea
   rw [hk] at ha
   exact absurd (Option.some.inj ha) (hnp al)
  ·rw [getD_set_ne false ea] at la
   exact (hF.puts a al ha la).mono
section
variable {nd : Nat → Nat → Bool} {n : Nat} {ks : List RK} {w : World} {rr : Option Nat} {listed : Array Bool} {vs : List Value} {W W' : World} {i : Nat}
theorem Fs.pure (hF : Fs nd n ks w rr listed vs W) (hok : okB n ks = true) (hl : ∀ (i : Nat) (k : RK), ks[i]? = some k → k.lasts) (hpre : ∀ j, nd i j = true → listed.getD j false = true) {c : Value} (hk : ks[i]? = some (.pure c)) (hb : Below W.heap.size W W') : Fs nd n ks w rr (listed.setIfInBounds i true) (vs.set i c) W' :=
 hF.grow hok hl hpre hk (fun _ h => by cases h) hb rfl (fun h => by cases h)
theorem Fs.any (hF : Fs nd n ks w rr listed vs W) (hok : okB n ks = true) (hl : ∀ (i : Nat) (k : RK), ks[i]? = some k → k.lasts) (hpre : ∀ j, nd i j = true → listed.getD j false = true) {R : Value → World → Prop} (hk : ks[i]? = some (.any R)) {v : Value} (hb : Below W.heap.size W W') (hv : R v W') : Fs nd n ks w rr (listed.setIfInBounds i true) (vs.set i v) W' :=
 hF.grow hok hl hpre hk (fun _ h => by cases h) hb hv (fun h => by cases h)
theorem Fs.row (hF : Fs nd n ks w rr listed vs W) (hok : okB n ks = true) (hl : ∀ (i : Nat) (k : RK), ks[i]? = some k → k.lasts) (hpre : ∀ j, nd i j = true → listed.getD j false = true) {cs : Array Value} {T : TypeId} {m : Nat} (hk : ks[i]? = some (.row cs T m)) : Fs nd n ks w rr (listed.setIfInBounds i true) (vs.set i (.slice (some ⟨W.heap.size, 0, none⟩) m m)) (W.alloc (.cells cs T)) :=
 hF.grow hok hl hpre hk (fun _ h => by cases h) ((Below.refl _ _).alloc (Nat.le_refl _) _) ⟨_, rfl, hF.low.size, heap_alloc_new W _⟩ (fun _ => ⟨_, rfl, Nat.le_refl _⟩)
theorem Fs.box (hF : Fs nd n ks w rr listed vs W) (hok : okB n ks = true) (hl : ∀ (i : Nat) (k : RK), ks[i]? = some k → k.lasts) (hpre : ∀ j, nd i j = true → listed.getD j false = true) (hun : listed.getD i true = false) {z f : Array Value} {T : TypeId} {st : Nat} (hk : ks[i]? = some (.box none z f T st)) : Fs nd n ks w rr (listed.setIfInBounds i true) (vs.set i (.pointer (some ⟨W.heap.size, 0, none⟩))) (W.alloc (.cells z T)) := by
 have hin : i < listed.size := by
  rcases Nat.lt_or_ge i listed.size with h | h
  ·exact h
  ·simp [Array.getElem?_eq_none h] at hun
 have hoff : ¬ (listed.setIfInBounds i true).getD st false = true := by
  rcases okB_box hok hk with hst | hst
  ·have h1 : ¬ st < listed.size := by rw [hF.lsz]; omega
   simp [h1]
  ·have hne : i ≠ st := by
    rintro rfl
    rw [hk] at hst
    cases hst
   rw [getD_set_ne false hne]
   intro h
   rcases hF.puts st i hst h with h | h
   ·have := hF.lsz; omega
   ·exact bit_off hun h
 refine hF.grow hok hl hpre hk (fun _ h => by cases h) ((Below.refl _ _).alloc (Nat.le_refl _) _) ⟨_, rfl, fun _ h => (by cases h), hF.low.size, ?_⟩ (fun _ => ⟨_, rfl, Nat.le_refl _⟩)
 rw [if_neg hoff]
 exact heap_alloc_new W _
theorem Fs.put' (hF : Fs nd n ks w rr listed vs W) (hok : okB n ks = true) (hna : ∀ (i : Nat) (R : Value → World → Prop), ks[i]? ≠ some (.any R)) (hpre : ∀ j, nd i j = true → listed.getD j false = true) (hun : listed.getD i true = false) {al : Nat} (hk : ks[i]? = some (.put al)) {z f : Array Value} {T : TypeId} {G : Nat} {g : Option Nat} (v : Value)
  (hbox : ks[al]? = some (.box g z f T i)) (hal : On n listed al) (hG : vs.getD al undef = .pointer (some ⟨G, 0, none⟩)) (hnew : W'.heap[G]? = some (.cells f T (0, 0))) (hoth : ∀ k, k ≠ G → W'.heap[k]? = W.heap[k]?) (hb : Below w.heap.size W W') : Fs nd n ks w rr (listed.setIfInBounds i true) (vs.set i v) W' := by
 have hi : i < vs.length := by rw [hF.len]; exact (List.getElem?_eq_some_iff.1 hk).1
 have hin := okB_put hok hk
 have hia : i ≠ al := by
  rintro rfl
  rw [hk] at hbox
  cases hbox
 refine ⟨by simpa using hF.lsz, by rw [List.length_set]; exact hF.len, below_only hF.low hb, ?_, ?_, ?_, back_set hF.back hpre⟩
 ·intro j kj hj hlj
  by_cases e : i = j
  ·subst e
   rw [hk] at hj
   cases hj
   trivial
  ·have hlj' := hlj.of_set e
   rw [getD_vset_ne e]
   have h := hF.get j kj hj hlj'
   have far : kj.owns = true → j ≠ al → ∀ G', blkOf (vs.getD j undef) = some G' → G' ≠ G := by
    intro o hja G' hG' e'
    have := hF.ne j al kj _ hja hj hbox o rfl hlj' hal
    rw [hG', hG, e'] at this
    exact this rfl
   cases kj with
   | pure c => exact h
   | row cs T' m =>
    obtain ⟨G', hG', hB, hh⟩ := h
    have hja : j ≠ al := by rintro rfl; rw [hj] at hbox; cases hbox
    have hne := far rfl hja G' (by rw [hG']; rfl)
    exact ⟨G', hG', hB, (hoth _ hne).trans hh⟩
   | box g' z' f' T' st =>
    obtain ⟨G', hG', hgg, hB, hh⟩ := h
    by_cases hja : j = al
    ·subst hja
     rw [hbox] at hj
     cases hj
     rw [hG] at hG'
     have : G = G' := by
      have := congrArg blkOf hG'
      exact Option.some.inj this
     subst this
     refine ⟨G, hG, hgg, hB, ?_⟩
     rw [if_pos (bit_self hun)]
     exact hnew
    ·have hne := far rfl hja G' (by rw [hG']; rfl)
     have hns : i ≠ st := by
      rintro rfl
      rcases okB_box hok hj with hst | hst
      ·omega
      ·rw [hk] at hst
       have := Option.some.inj hst
       injection this with this
       exact hja this.symm
     refine ⟨G', hG', hgg, hB, ?_⟩
     rw [getD_set_ne false hns]
     exact (hoth _ hne).trans hh
   | put _ => trivial
   | free => trivial
   | any R => exact absurd hj (hna j R)
   | blk g' z' f' sts' T' =>
    obtain ⟨G', hG', hgg, hB, hh⟩ := h
    have hja : j ≠ al := by rintro rfl; rw [hj] at hbox; cases hbox
    have hne := far rfl hja G' (by rw [hG']; rfl)
    refine ⟨G', hG', hgg, hB, ?_⟩
    rw [mix_ne z' f' sts' (fun x hx => by
     rintro rfl
     have hst := okB_blk hok hj hx
     rw [hk] at hst
     have := Option.some.inj hst
     injection this with this
     exact hja this.symm)]
    exact (hoth _ hne).trans hh
 ·intro a b ka kb hab ha hb' oa ob la lb
  have ea : i ≠ a := by rintro rfl; rw [hk] at ha; cases ha; cases oa
  have eb : i ≠ b := by rintro rfl; rw [hk] at hb'; cases hb'; cases ob
  rw [getD_vset_ne ea, getD_vset_ne eb]
  exact hF.ne a b ka kb hab ha hb' oa ob (la.of_set ea) (lb.of_set eb)
 ·intro a al' ha la
  by_cases ea : i = a
  ·subst ea
   rw [hk] at ha
   have := Option.some.inj ha
   injection this with this
   subst this
   exact hal.mono
  ·rw [getD_set_ne false ea] at la
   exact (hF.puts a al' ha la).mono
theorem Fs.put (hF : Fs nd n ks w rr listed vs W) (hok : okB n ks = true) (hna : NoAny ks) (hpre : ∀ j, nd i j = true → listed.getD j false = true) (hun : listed.getD i true = false) {al : Nat} (hk : ks[i]? = some (.put al)) {z f : Array Value} {T : TypeId} {G : Nat} {g : Option Nat} (v : Value)
  (hbox : ks[al]? = some (.box g z f T i)) (hal : On n listed al) (hG : vs.getD al undef = .pointer (some ⟨G, 0, none⟩)) (hnew : W'.heap[G]? = some (.cells f T (0, 0))) (hoth : ∀ k, k ≠ G → W'.heap[k]? = W.heap[k]?) (hb : Below w.heap.size W W') : Fs nd n ks w rr (listed.setIfInBounds i true) (vs.set i v) W' :=
 Fs.put' hF hok hna.1 hpre hun hk v hbox hal hG hnew hoth hb
theorem Fs.start (hlen : vs.length = ks.length) (hn : ks.length = n) : Fs nd n ks w rr (Array.replicate n false) vs w.drew :=
 ⟨by simp, hlen, only_of_below (Below.refl _ _).drew rr, fun i k hk h => absurd (h.resolve_left (by have := (List.getElem?_eq_some_iff.1 hk).1; omega)) bit_none, fun i _ k _ _ hk _ _ _ h => absurd (h.resolve_left (by have := (List.getElem?_eq_some_iff.1 hk).1; omega)) bit_none, fun _ _ _ h => absurd h bit_none, fun _ _ h => absurd h bit_none⟩
end
def layT : List (Option Nat) → List Value → Array Value → Array Value
 | some d :: sl, v :: vs, t => layT sl vs (t.setIfInBounds d v)
 | none :: sl, _ :: vs, t => layT sl vs t
 | _, _, t => t
theorem layT_some (d : Nat) (sl : List (Option Nat)) (v : Value) (vs : List Value) (t : Array Value) : layT (some d :: sl) (v :: vs) t = layT sl vs (t.setIfInBounds d v) := rfl
theorem layT_none (sl : List (Option Nat)) (v : Value) (vs : List Value) (t : Array Value) : layT (none :: sl) (v :: vs) t = layT sl vs t := rfl
theorem layT_nil (vs : List Value) (t : Array Value) : layT [] vs t = t := by cases vs <;> rfl
def putO (a : Act) (sl : List (Option Nat)) (vs : List Value) : Act := { a with tmps := layT sl vs a.tmps }
def ndOf (ops : Array Oper) (i j : Nat) : Bool := (needs .any ops i).contains j
def ExL : Nat → (List Value → Prop) → Prop
 | 0, p => p []
 | n + 1, p => ∃ v, ExL n (fun l => p (v :: l))
theorem exl_of : ∀ (n : Nat) (vs : List Value) (p : List Value → Prop), vs.length = n → p vs → ExL n p
 | 0, [], _, _, h => h
 | n + 1, v :: l, p, h, hp => ⟨v, exl_of n l (fun l => p (v :: l)) (by simpa using h) hp⟩
theorem put2_below {B G : Nat} (h : B ≤ G) (W : World) (x y : Value) : Below B W ((W.setCell ⟨G, 0, none⟩ x).setCell ⟨G, 1, none⟩ y) :=
 ((Below.refl _ _).setCell (p := ⟨G, 0, none⟩) h x).setCell (p := ⟨G, 1, none⟩) h y
end Num
end Go.Proofs.YtjcdeeahjkfmoaaGreatDoor
