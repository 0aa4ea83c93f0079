/- Numbers as texts of digits, fractions, values and the functions of fmath: contracts of the program's functions, joined from smaller texts. Conditions stand at each theorem. -/
import Derived.Test.YtphfefmlappidaaGreatDoorFyaA
import Derived.Test.YtphfefmlappidaaGreatDoorNumE
import Derived.Test.YtphfefmlappidaaGreatDoorNumG
import Derived.Test.YtphfefmlappidaaGreatDoorNumH

/- package exact's powers of fractions. Conditions: the results have at most 34 limbs; strconv's table of powers of ten lies as it is laid. -/
namespace Go.Proofs.YtphfefmlappidaaGreatDoor.Num
open Go.RowKit Go.Lib

theorem power_s (v1 : Value) (a0 : Nat) (n : Int) (w : World) (h1 : NatAt w v1 a0) (hn0 : -1000000 ≤ n) (hn1 : n ≤ 1000000) (hl : (digs LB (a0 ^ n.natAbs)).length ≤ 34) :
    Calls Tryz.prog 314 #[v1, .int .i64 n] w fun e w' => ∃ A L C, e = .returned (.tuple #[.slice A L C, .bool true]) ∧ NatAt w' (.slice A L C) (a0 ^ n.natAbs) ∧ Below w.heap.size w w' :=
  (power_any v1 a0 n w h1 hn0 hn1 hl).mono fun e w' ⟨v', he, h, hb⟩ => by
    obtain ⟨A, L, C, rfl⟩ := h.shape
    exact ⟨A, L, C, he, h, hb⟩
theorem odd_abs (n : Int) : (n.tmod 2 != 0) = decide (n.natAbs % 2 = 1) := by
  have h := rest_abs n
  rw [Bool.eq_iff_iff, bne_iff_ne, decide_eq_true_iff]
  omega
theorem odd_mod (n : Int) (h : ¬ n < 0) : (n % 2 != 0) = decide (n.natAbs % 2 = 1) := by
  rw [Bool.eq_iff_iff, bne_iff_ne, decide_eq_true_iff]
  omega
theorem powR_neg (q : Rat) (n : Int) (h : n < 0) : powR q n = (q ^ n.natAbs)⁻¹ := if_pos h
theorem powR_pos (q : Rat) (n : Int) (h : ¬ n < 0) : powR q n = q ^ n.natAbs := if_neg h
theorem swap_at {W : World} {b : Nat} {x y z : Value} {T : TypeId} (h : W.heap[b]? = some (.cells #[x, y, z] T (0, 0))) (y' z' : Value) : ((W.setCell ⟨b, 1, none⟩ y').setCell ⟨b, 2, none⟩ z').heap[b]? = some (.cells #[x, y', z'] T (0, 0)) := by
  have h1 := heap_setCell_at h 1 y'
  have h2 := heap_setCell_at h1 2 z'
  rw [h2]; rfl
theorem swap_below {w W : World} {b : Nat} (hb : Below w.heap.size w W) (hge : w.heap.size ≤ b) (y' z' : Value) : Below w.heap.size w ((W.setCell ⟨b, 1, none⟩ y').setCell ⟨b, 2, none⟩ z') :=
  (hb.setCell (p := ⟨b, 1, none⟩) hge _).setCell (p := ⟨b, 2, none⟩) hge _
theorem swap_other (W : World) (b : Nat) (y' z' : Value) {k : Nat} (hk : k ≠ b) : ((W.setCell ⟨b, 1, none⟩ y').setCell ⟨b, 2, none⟩ z').heap[k]? = W.heap[k]? :=
  (Below.heap_setCell _ ⟨b, 2, none⟩ z' k hk).trans (Below.heap_setCell W ⟨b, 1, none⟩ y' k hk)
theorem LimbsAt.same {W W' : World} {A : Option Addr} {L C g : Nat} {l : List Nat} (h : LimbsAt W (.slice A L C) l) (hn : ∀ k, k ≠ g → W'.heap[k]? = W.heap[k]?) (hg : ∀ i v, W.cell? ⟨g, i, none⟩ = some (.int .u32 v) → False) : LimbsAt W' (.slice A L C) l := by
  obtain ⟨A', C', e, hC, hc⟩ := h
  refine ⟨A', C', e, hC, fun i hi => ?_⟩
  obtain ⟨b, o, ha, hcell⟩ := hc i hi
  refine ⟨b, o, ha, ?_⟩
  have hne : b ≠ g := by
    rintro rfl
    exact hg _ _ hcell
  rw [World.cell?_of_block (hn b hne)]
  exact hcell
/-- the block of a number holds no limbs -/
theorem three_nolimb {W : World} {b : Nat} {m : Bool} {A1 A2 : Option Addr} {L1 C1 L2 C2 : Nat} {T : TypeId} (h : W.heap[b]? = some (.cells #[.bool m, .slice A1 L1 C1, .slice A2 L2 C2] T (0, 0))) : ∀ i v, W.cell? ⟨b, i, none⟩ = some (.int .u32 v) → False := by
  intro i v hc
  rw [Lib.cell_of_heap h i] at hc
  match i with
  | 0 => cases hc
  | 1 => cases hc
  | 2 => cases hc
  | i + 3 => simp at hc

set_option maxHeartbeats 4000000 in
set_option maxRecDepth 100000 in
theorem powerQ_pp (q : Rat) (n : Int) (w : World) (hq : fits q = true) (hneg : ¬ n < 0) (hs : neg q = false) (hn0 : -1000000 ≤ n) (hn1 : n ≤ 1000000) (hl1 : (digs LB (up q ^ n.natAbs)).length ≤ 34) (hl2 : (digs LB (q.den ^ n.natAbs)).length ≤ 34) (ht : Tab w) :
    Calls Tryz.prog 226 #[fracV q, .int .i64 n] w fun e w' => e = .returned (wroteV (powR q n)) ∧ Below w.heap.size w w' := by
  have T := Lib.hid (fun W => read_s q W hq)
  have P1 := Lib.hid (fun W v h => power_s v (up q) n W h hn0 hn1 hl1)
  have P2 := Lib.hid (fun W v h => power_s v q.den n W h hn0 hn1 hl2)
  have TW := Lib.hid (fun W v1 v2 h1 h2 g => numWrite_any (neg q && decide (n.natAbs % 2 = 1)) v1 v2 (up q ^ n.natAbs) (q.den ^ n.natAbs) W (Nat.pos_iff_ne_zero.1 (Nat.pow_pos (Nat.pos_of_ne_zero q.den_nz))) h1 h2 g (by omega) (by omega))
  rw [ratOf_pow, ← powR_pos q n hneg] at TW
  rw [hs] at T TW
  have hodd := odd_mod n hneg
  obtain ⟨od, hod⟩ : ∃ b, decide (n.natAbs % 2 = 1) = b := ⟨_, rfl⟩
  rw [hod] at hodd TW
  simp only [Bool.false_and] at TW
  have hnot : ∀ (x : Bool) (w : World), (Op.unary .not (.bool x)).run Tryz.prog w = .ok (.bool (!x)) w := fun _ _ => rfl
  obtain ⟨rx, ry, rc, hw⟩ := wroteV_shape (powR q n)
  rw [hw] at TW ⊢
  obtain ⟨u, hu⟩ : ∃ u, up q ^ n.natAbs = u := ⟨_, rfl⟩
  obtain ⟨d, hd⟩ : ∃ d, q.den ^ n.natAbs = d := ⟨_, rfl⟩
  rw [hu] at P1 TW
  rw [hd] at P2 TW
  have d0 : decide (n < 0) = false := decide_eq_false hneg
  clear hw hod hu hd hl1 hl2 hs
  rw [fracV_is q] at T ⊢
  have hb : Below w.heap.size w ((w.alloc (.cells #[.string (numS q), .string (denS q)] 23)).alloc (.cells #[.string { data := #[] }, .string { data := #[] }] 23)) := ((Below.refl _ _).alloc (Nat.le_refl _) _).alloc (by simp) _
  have hr := heap_alloc_new (w.alloc (.cells #[.string (numS q), .string (denS q)] 23)) (.cells #[.string { data := #[] }, .string { data := #[] }] 23)
  rw [World.size_alloc] at hr
  have HR := Lib.hid hr
  have HL := Lib.hid hb
  have HT := Lib.hid (ht.below hb)
  have HT0 := Lib.hid ht
  clear hb hr ht hq
  go_enter Tryz.func226, Tryz.ntmps226
  go_wp2_with fail
  refine (T.out _).mono ?_
  rintro e W1 ⟨A1, L1, C1, A2, L2, C2, rfl, ⟨h1, h2⟩, hb⟩
  have N1 := Lib.hid h1
  have N2 := Lib.hid h2
  clear h1 h2
  replace HR := Lib.hid (keep_block HR.out hb)
  replace HT := Lib.hid (HT.out.below hb)
  replace HL := Lib.hid (HL.out.trans (hb.mono HL.out.size))
  clear hb
  have hb : Below W1.heap.size W1 (W1.alloc (.cells #[.bool false, .slice A1 L1 C1, .slice A2 L2 C2] 53)) := (Below.refl _ _).alloc (Nat.le_refl _) _
  have HX := Lib.hid (heap_alloc_new W1 (.cells #[.bool false, .slice A1 L1 C1, .slice A2 L2 C2] 53))
  have HW1 := Lib.hid HL.out.size
  have HLT := Lib.hid (heap_lt HR.out)
  replace HR := Lib.hid (keep_block HR.out hb)
  replace HT := Lib.hid (HT.out.below hb)
  replace N1 := Lib.hid (N1.out.below hb)
  replace N2 := Lib.hid (N2.out.below hb)
  replace HL := Lib.hid (HL.out.trans (hb.mono HL.out.size))
  clear hb
  obtain ⟨W2, hW2⟩ : ∃ Z, W1.alloc (.cells #[.bool false, .slice A1 L1 C1, .slice A2 L2 C2] 53) = Z := ⟨_, rfl⟩
  rw [hW2] at HX HR HT N1 N2 HL
  have EW2 := Lib.hid hW2
  clear hW2
  obtain ⟨⟨x0, x1, x2⟩, xf0, xf1, xf2⟩ := three_at HX.out
  go_wp2_with fail
  rw [EW2.out]
  refine (P1.out _ _ N1.out).mono ?_
  rintro e W3 ⟨A3, L3, C3, rfl, h3, hb⟩
  have N3 := Lib.hid h3
  clear h3 x0 x1 x2 xf0 xf1 xf2
  replace HR := Lib.hid (keep_block HR.out hb)
  replace HX := Lib.hid (keep_block HX.out hb)
  replace HT := Lib.hid (HT.out.below hb)
  replace N2 := Lib.hid (N2.out.below hb)
  replace HL := Lib.hid (HL.out.trans (hb.mono HL.out.size))
  clear hb
  obtain ⟨⟨x0, x1, x2⟩, xf0, xf1, xf2⟩ := three_at HX.out
  go_wp2_with fail
  refine (P2.out _ _ N2.out).mono ?_
  rintro e W4 ⟨A4, L4, C4, rfl, h4, hb⟩
  have N4 := Lib.hid h4
  clear h4 x0 x1 x2 xf0 xf1 xf2
  replace HR := Lib.hid (keep_block HR.out hb)
  replace HX := Lib.hid (keep_block HX.out hb)
  replace HT := Lib.hid (HT.out.below hb)
  replace N3 := Lib.hid (N3.out.below hb)
  replace HL := Lib.hid (HL.out.trans (hb.mono HL.out.size))
  clear hb
  obtain ⟨⟨x0, x1, x2⟩, xf0, xf1, xf2⟩ := three_at HX.out
  go_wp2_with fail
  refine (TW.out _ _ _ N3.out N4.out HT.out).mono ?_
  rintro e W5 ⟨rfl, hb⟩
  replace HR := Lib.hid (keep_block HR.out hb)
  replace HL := Lib.hid (HL.out.trans (hb.mono HL.out.size))
  clear hb
  obtain ⟨⟨r0, r1⟩, rf0, rf1⟩ := two_at HR.out
  obtain ⟨nb, e0, e1⟩ := frac_end (x := .string rx) (y := .string ry) HR.out HL.out (by omega)
  go_wp2
  refine bodyPost_ret (v := .tuple #[.agg #[.string rx, .string ry], .int .i64 rc]) (by simp [results, Tryz.results226, go_sem, e0, e1]) rfl ⟨rfl, nb⟩

set_option maxHeartbeats 4000000 in
set_option maxRecDepth 100000 in
theorem powerQ_pm (q : Rat) (n : Int) (w : World) (hq : fits q = true) (hneg : ¬ n < 0) (hs : neg q = true) (hn0 : -1000000 ≤ n) (hn1 : n ≤ 1000000) (hl1 : (digs LB (up q ^ n.natAbs)).length ≤ 34) (hl2 : (digs LB (q.den ^ n.natAbs)).length ≤ 34) (ht : Tab w) :
    Calls Tryz.prog 226 #[fracV q, .int .i64 n] w fun e w' => e = .returned (wroteV (powR q n)) ∧ Below w.heap.size w w' := by
  have T := Lib.hid (fun W => read_s q W hq)
  have P1 := Lib.hid (fun W v h => power_s v (up q) n W h hn0 hn1 hl1)
  have P2 := Lib.hid (fun W v h => power_s v q.den n W h hn0 hn1 hl2)
  have TW := Lib.hid (fun W v1 v2 h1 h2 g => numWrite_any (neg q && decide (n.natAbs % 2 = 1)) v1 v2 (up q ^ n.natAbs) (q.den ^ n.natAbs) W (Nat.pos_iff_ne_zero.1 (Nat.pow_pos (Nat.pos_of_ne_zero q.den_nz))) h1 h2 g (by omega) (by omega))
  rw [ratOf_pow, ← powR_pos q n hneg] at TW
  rw [hs] at T TW
  have hodd := odd_mod n hneg
  obtain ⟨od, hod⟩ : ∃ b, decide (n.natAbs % 2 = 1) = b := ⟨_, rfl⟩
  rw [hod] at hodd TW
  simp only [Bool.true_and] at TW
  have hnot : ∀ (x : Bool) (w : World), (Op.unary .not (.bool x)).run Tryz.prog w = .ok (.bool (!x)) w := fun _ _ => rfl
  obtain ⟨rx, ry, rc, hw⟩ := wroteV_shape (powR q n)
  rw [hw] at TW ⊢
  obtain ⟨u, hu⟩ : ∃ u, up q ^ n.natAbs = u := ⟨_, rfl⟩
  obtain ⟨d, hd⟩ : ∃ d, q.den ^ n.natAbs = d := ⟨_, rfl⟩
  rw [hu] at P1 TW
  rw [hd] at P2 TW
  have d0 : decide (n < 0) = false := decide_eq_false hneg
  clear hw hod hu hd hl1 hl2 hs
  rw [fracV_is q] at T ⊢
  have hb : Below w.heap.size w ((w.alloc (.cells #[.string (numS q), .string (denS q)] 23)).alloc (.cells #[.string { data := #[] }, .string { data := #[] }] 23)) := ((Below.refl _ _).alloc (Nat.le_refl _) _).alloc (by simp) _
  have hr := heap_alloc_new (w.alloc (.cells #[.string (numS q), .string (denS q)] 23)) (.cells #[.string { data := #[] }, .string { data := #[] }] 23)
  rw [World.size_alloc] at hr
  have HR := Lib.hid hr
  have HL := Lib.hid hb
  have HT := Lib.hid (ht.below hb)
  have HT0 := Lib.hid ht
  clear hb hr ht hq
  go_enter Tryz.func226, Tryz.ntmps226
  go_wp2_with fail
  refine (T.out _).mono ?_
  rintro e W1 ⟨A1, L1, C1, A2, L2, C2, rfl, ⟨h1, h2⟩, hb⟩
  have N1 := Lib.hid h1
  have N2 := Lib.hid h2
  clear h1 h2
  replace HR := Lib.hid (keep_block HR.out hb)
  replace HT := Lib.hid (HT.out.below hb)
  replace HL := Lib.hid (HL.out.trans (hb.mono HL.out.size))
  clear hb
  have hb : Below W1.heap.size W1 (W1.alloc (.cells #[.bool true, .slice A1 L1 C1, .slice A2 L2 C2] 53)) := (Below.refl _ _).alloc (Nat.le_refl _) _
  have HX := Lib.hid (heap_alloc_new W1 (.cells #[.bool true, .slice A1 L1 C1, .slice A2 L2 C2] 53))
  have HW1 := Lib.hid HL.out.size
  have HLT := Lib.hid (heap_lt HR.out)
  replace HR := Lib.hid (keep_block HR.out hb)
  replace HT := Lib.hid (HT.out.below hb)
  replace N1 := Lib.hid (N1.out.below hb)
  replace N2 := Lib.hid (N2.out.below hb)
  replace HL := Lib.hid (HL.out.trans (hb.mono HL.out.size))
  clear hb
  obtain ⟨W2, hW2⟩ : ∃ Z, W1.alloc (.cells #[.bool true, .slice A1 L1 C1, .slice A2 L2 C2] 53) = Z := ⟨_, rfl⟩
  rw [hW2] at HX HR HT N1 N2 HL
  have EW2 := Lib.hid hW2
  clear hW2
  obtain ⟨⟨x0, x1, x2⟩, xf0, xf1, xf2⟩ := three_at HX.out
  go_wp2_with fail
  rw [EW2.out]
  refine (P1.out _ _ N1.out).mono ?_
  rintro e W3 ⟨A3, L3, C3, rfl, h3, hb⟩
  have N3 := Lib.hid h3
  clear h3 x0 x1 x2 xf0 xf1 xf2
  replace HR := Lib.hid (keep_block HR.out hb)
  replace HX := Lib.hid (keep_block HX.out hb)
  replace HT := Lib.hid (HT.out.below hb)
  replace N2 := Lib.hid (N2.out.below hb)
  replace HL := Lib.hid (HL.out.trans (hb.mono HL.out.size))
  clear hb
  obtain ⟨⟨x0, x1, x2⟩, xf0, xf1, xf2⟩ := three_at HX.out
  go_wp2_with fail
  refine (P2.out _ _ N2.out).mono ?_
  rintro e W4 ⟨A4, L4, C4, rfl, h4, hb⟩
  have N4 := Lib.hid h4
  clear h4 x0 x1 x2 xf0 xf1 xf2
  replace HR := Lib.hid (keep_block HR.out hb)
  replace HX := Lib.hid (keep_block HX.out hb)
  replace HT := Lib.hid (HT.out.below hb)
  replace N3 := Lib.hid (N3.out.below hb)
  replace HL := Lib.hid (HL.out.trans (hb.mono HL.out.size))
  clear hb
  obtain ⟨⟨x0, x1, x2⟩, xf0, xf1, xf2⟩ := three_at HX.out
  go_wp2_with fail
  refine (TW.out _ _ _ N3.out N4.out HT.out).mono ?_
  rintro e W5 ⟨rfl, hb⟩
  replace HR := Lib.hid (keep_block HR.out hb)
  replace HL := Lib.hid (HL.out.trans (hb.mono HL.out.size))
  clear hb
  obtain ⟨⟨r0, r1⟩, rf0, rf1⟩ := two_at HR.out
  obtain ⟨nb, e0, e1⟩ := frac_end (x := .string rx) (y := .string ry) HR.out HL.out (by omega)
  go_wp2
  refine bodyPost_ret (v := .tuple #[.agg #[.string rx, .string ry], .int .i64 rc]) (by simp [results, Tryz.results226, go_sem, e0, e1]) rfl ⟨rfl, nb⟩

set_option maxHeartbeats 4000000 in
set_option maxRecDepth 100000 in
theorem powerQ_np (q : Rat) (n : Int) (w : World) (hq : fits q = true) (hneg : n < 0) (hs : neg q = false) (hq0 : n < 0 → q ≠ 0) (hn0 : -1000000 ≤ n) (hn1 : n ≤ 1000000) (hl1 : (digs LB (up q ^ n.natAbs)).length ≤ 34) (hl2 : (digs LB (q.den ^ n.natAbs)).length ≤ 34) (ht : Tab w) :
    Calls Tryz.prog 226 #[fracV q, .int .i64 n] w fun e w' => e = .returned (wroteV (powR q n)) ∧ Below w.heap.size w w' := by
  have T := Lib.hid (fun W => read_s q W hq)
  have P1 := Lib.hid (fun W v h => power_s v (up q) n W h hn0 hn1 hl1)
  have P2 := Lib.hid (fun W v h => power_s v q.den n W h hn0 hn1 hl2)
  have TW := Lib.hid (fun W v1 v2 h1 h2 g => numWrite_any (neg q && decide (n.natAbs % 2 = 1)) v1 v2 (q.den ^ n.natAbs) (up q ^ n.natAbs) W (Nat.pos_iff_ne_zero.1 (Nat.pow_pos (Nat.pos_of_ne_zero (fun e => hq0 hneg ((up_zero q).1 e))))) h1 h2 g (by omega) (by omega))
  rw [ratOf_pow_inv q n.natAbs (hq0 hneg), ← powR_neg q n hneg] at TW
  rw [hs] at T TW
  have hodd := odd_abs n
  have Z := Lib.hid (fun W v h => zero_any v (up q) W h)
  rw [decide_eq_false (fun e => hq0 hneg ((up_zero q).1 e))] at Z
  obtain ⟨od, hod⟩ : ∃ b, decide (n.natAbs % 2 = 1) = b := ⟨_, rfl⟩
  rw [hod] at hodd TW
  simp only [Bool.false_and] at TW
  have hnot : ∀ (x : Bool) (w : World), (Op.unary .not (.bool x)).run Tryz.prog w = .ok (.bool (!x)) w := fun _ _ => rfl
  obtain ⟨rx, ry, rc, hw⟩ := wroteV_shape (powR q n)
  rw [hw] at TW ⊢
  obtain ⟨u, hu⟩ : ∃ u, up q ^ n.natAbs = u := ⟨_, rfl⟩
  obtain ⟨d, hd⟩ : ∃ d, q.den ^ n.natAbs = d := ⟨_, rfl⟩
  rw [hu] at P1 TW
  rw [hd] at P2 TW
  have d0 : decide (n < 0) = true := decide_eq_true hneg
  clear hw hod hu hd hl1 hl2 hs
  rw [fracV_is q] at T ⊢
  have hb : Below w.heap.size w ((w.alloc (.cells #[.string (numS q), .string (denS q)] 23)).alloc (.cells #[.string { data := #[] }, .string { data := #[] }] 23)) := ((Below.refl _ _).alloc (Nat.le_refl _) _).alloc (by simp) _
  have hr := heap_alloc_new (w.alloc (.cells #[.string (numS q), .string (denS q)] 23)) (.cells #[.string { data := #[] }, .string { data := #[] }] 23)
  rw [World.size_alloc] at hr
  have HR := Lib.hid hr
  have HL := Lib.hid hb
  have HT := Lib.hid (ht.below hb)
  have HT0 := Lib.hid ht
  clear hb hr ht hq
  go_enter Tryz.func226, Tryz.ntmps226
  go_wp2_with fail
  refine (T.out _).mono ?_
  rintro e W1 ⟨A1, L1, C1, A2, L2, C2, rfl, ⟨h1, h2⟩, hb⟩
  have N1 := Lib.hid h1
  have N2 := Lib.hid h2
  clear h1 h2
  replace HR := Lib.hid (keep_block HR.out hb)
  replace HT := Lib.hid (HT.out.below hb)
  replace HL := Lib.hid (HL.out.trans (hb.mono HL.out.size))
  clear hb
  have hb : Below W1.heap.size W1 (W1.alloc (.cells #[.bool false, .slice A1 L1 C1, .slice A2 L2 C2] 53)) := (Below.refl _ _).alloc (Nat.le_refl _) _
  have HX := Lib.hid (heap_alloc_new W1 (.cells #[.bool false, .slice A1 L1 C1, .slice A2 L2 C2] 53))
  have HW1 := Lib.hid HL.out.size
  have HLT := Lib.hid (heap_lt HR.out)
  replace HR := Lib.hid (keep_block HR.out hb)
  replace HT := Lib.hid (HT.out.below hb)
  replace N1 := Lib.hid (N1.out.below hb)
  replace N2 := Lib.hid (N2.out.below hb)
  replace HL := Lib.hid (HL.out.trans (hb.mono HL.out.size))
  clear hb
  obtain ⟨W2, hW2⟩ : ∃ Z, W1.alloc (.cells #[.bool false, .slice A1 L1 C1, .slice A2 L2 C2] 53) = Z := ⟨_, rfl⟩
  rw [hW2] at HX HR HT N1 N2 HL
  have EW2 := Lib.hid hW2
  clear hW2
  obtain ⟨⟨x0, x1, x2⟩, xf0, xf1, xf2⟩ := three_at HX.out
  go_wp2_with fail
  rw [EW2.out]
  refine (Z.out _ _ N1.out).mono ?_
  rintro e W3 ⟨rfl, rfl⟩
  have hne : w.heap.size + 1 ≠ W1.heap.size := Nat.ne_of_lt HLT.out
  have n1 : NatAt ((W3.setCell ⟨W1.heap.size, 1, none⟩ (.slice A2 L2 C2)).setCell ⟨W1.heap.size, 2, none⟩ (.slice A1 L1 C1)) (.slice A1 L1 C1) (up q) := N1.out.same (fun k hk => swap_other W3 W1.heap.size (.slice A2 L2 C2) (.slice A1 L1 C1) hk) (three_nolimb HX.out)
  have n2 : NatAt ((W3.setCell ⟨W1.heap.size, 1, none⟩ (.slice A2 L2 C2)).setCell ⟨W1.heap.size, 2, none⟩ (.slice A1 L1 C1)) (.slice A2 L2 C2) q.den := N2.out.same (fun k hk => swap_other W3 W1.heap.size (.slice A2 L2 C2) (.slice A1 L1 C1) hk) (three_nolimb HX.out)
  have hx2 := swap_at HX.out (.slice A2 L2 C2) (.slice A1 L1 C1)
  have hr2 := (swap_other W3 W1.heap.size (.slice A2 L2 C2) (.slice A1 L1 C1) hne).trans HR.out
  have hl2 := swap_below HL.out HW1.out (.slice A2 L2 C2) (.slice A1 L1 C1)
  obtain ⟨W4, hW4⟩ : ∃ Z, (W3.setCell ⟨W1.heap.size, 1, none⟩ (.slice A2 L2 C2)).setCell ⟨W1.heap.size, 2, none⟩ (.slice A1 L1 C1) = Z := ⟨_, rfl⟩
  rw [hW4] at n1 n2 hx2 hr2 hl2
  replace N1 := Lib.hid n1
  replace N2 := Lib.hid n2
  have HX2 := Lib.hid hx2
  replace HR := Lib.hid hr2
  replace HL := Lib.hid hl2
  replace HT := Lib.hid (HT0.out.below hl2)
  have EW4 := Lib.hid hW4
  clear n1 n2 hx2 hr2 hl2 hW4
  go_wp2_with fail
  rw [EW4.out]
  refine (P2.out _ _ N2.out).mono ?_
  rintro e W5 ⟨A3, L3, C3, rfl, h3, hb⟩
  have N3 := Lib.hid h3
  clear h3 x0 x1 x2 xf0 xf1 xf2
  replace HR := Lib.hid (keep_block HR.out hb)
  replace HX2 := Lib.hid (keep_block HX2.out hb)
  replace HT := Lib.hid (HT.out.below hb)
  replace N1 := Lib.hid (N1.out.below hb)
  replace HL := Lib.hid (HL.out.trans (hb.mono HL.out.size))
  clear hb
  obtain ⟨⟨x0, x1, x2⟩, xf0, xf1, xf2⟩ := three_at HX2.out
  go_wp2_with fail
  refine (P1.out _ _ N1.out).mono ?_
  rintro e W6 ⟨A4, L4, C4, rfl, h4, hb⟩
  have N4 := Lib.hid h4
  clear h4 x0 x1 x2 xf0 xf1 xf2
  replace HR := Lib.hid (keep_block HR.out hb)
  replace HX2 := Lib.hid (keep_block HX2.out hb)
  replace HT := Lib.hid (HT.out.below hb)
  replace N3 := Lib.hid (N3.out.below hb)
  replace HL := Lib.hid (HL.out.trans (hb.mono HL.out.size))
  clear hb
  obtain ⟨⟨x0, x1, x2⟩, xf0, xf1, xf2⟩ := three_at HX2.out
  go_wp2_with fail
  refine (TW.out _ _ _ N3.out N4.out HT.out).mono ?_
  rintro e W7 ⟨rfl, hb⟩
  replace HR := Lib.hid (keep_block HR.out hb)
  replace HL := Lib.hid (HL.out.trans (hb.mono HL.out.size))
  clear hb
  obtain ⟨⟨r0, r1⟩, rf0, rf1⟩ := two_at HR.out
  obtain ⟨nb, e0, e1⟩ := frac_end (x := .string rx) (y := .string ry) HR.out HL.out (by omega)
  go_wp2
  refine bodyPost_ret (v := .tuple #[.agg #[.string rx, .string ry], .int .i64 rc]) (by simp [results, Tryz.results226, go_sem, e0, e1]) rfl ⟨rfl, nb⟩

set_option maxHeartbeats 4000000 in
set_option maxRecDepth 100000 in
theorem powerQ_nm (q : Rat) (n : Int) (w : World) (hq : fits q = true) (hneg : n < 0) (hs : neg q = true) (hq0 : n < 0 → q ≠ 0) (hn0 : -1000000 ≤ n) (hn1 : n ≤ 1000000) (hl1 : (digs LB (up q ^ n.natAbs)).length ≤ 34) (hl2 : (digs LB (q.den ^ n.natAbs)).length ≤ 34) (ht : Tab w) :
    Calls Tryz.prog 226 #[fracV q, .int .i64 n] w fun e w' => e = .returned (wroteV (powR q n)) ∧ Below w.heap.size w w' := by
  have T := Lib.hid (fun W => read_s q W hq)
  have P1 := Lib.hid (fun W v h => power_s v (up q) n W h hn0 hn1 hl1)
  have P2 := Lib.hid (fun W v h => power_s v q.den n W h hn0 hn1 hl2)
  have TW := Lib.hid (fun W v1 v2 h1 h2 g => numWrite_any (neg q && decide (n.natAbs % 2 = 1)) v1 v2 (q.den ^ n.natAbs) (up q ^ n.natAbs) W (Nat.pos_iff_ne_zero.1 (Nat.pow_pos (Nat.pos_of_ne_zero (fun e => hq0 hneg ((up_zero q).1 e))))) h1 h2 g (by omega) (by omega))
  rw [ratOf_pow_inv q n.natAbs (hq0 hneg), ← powR_neg q n hneg] at TW
  rw [hs] at T TW
  have hodd := odd_abs n
  have Z := Lib.hid (fun W v h => zero_any v (up q) W h)
  rw [decide_eq_false (fun e => hq0 hneg ((up_zero q).1 e))] at Z
  obtain ⟨od, hod⟩ : ∃ b, decide (n.natAbs % 2 = 1) = b := ⟨_, rfl⟩
  rw [hod] at hodd TW
  simp only [Bool.true_and] at TW
  have hnot : ∀ (x : Bool) (w : World), (Op.unary .not (.bool x)).run Tryz.prog w = .ok (.bool (!x)) w := fun _ _ => rfl
  obtain ⟨rx, ry, rc, hw⟩ := wroteV_shape (powR q n)
  rw [hw] at TW ⊢
  obtain ⟨u, hu⟩ : ∃ u, up q ^ n.natAbs = u := ⟨_, rfl⟩
  obtain ⟨d, hd⟩ : ∃ d, q.den ^ n.natAbs = d := ⟨_, rfl⟩
  rw [hu] at P1 TW
  rw [hd] at P2 TW
  have d0 : decide (n < 0) = true := decide_eq_true hneg
  clear hw hod hu hd hl1 hl2 hs
  rw [fracV_is q] at T ⊢
  have hb : Below w.heap.size w ((w.alloc (.cells #[.string (numS q), .string (denS q)] 23)).alloc (.cells #[.string { data := #[] }, .string { data := #[] }] 23)) := ((Below.refl _ _).alloc (Nat.le_refl _) _).alloc (by simp) _
  have hr := heap_alloc_new (w.alloc (.cells #[.string (numS q), .string (denS q)] 23)) (.cells #[.string { data := #[] }, .string { data := #[] }] 23)
  rw [World.size_alloc] at hr
  have HR := Lib.hid hr
  have HL := Lib.hid hb
  have HT := Lib.hid (ht.below hb)
  have HT0 := Lib.hid ht
  clear hb hr ht hq
  go_enter Tryz.func226, Tryz.ntmps226
  go_wp2_with fail
  refine (T.out _).mono ?_
  rintro e W1 ⟨A1, L1, C1, A2, L2, C2, rfl, ⟨h1, h2⟩, hb⟩
  have N1 := Lib.hid h1
  have N2 := Lib.hid h2
  clear h1 h2
  replace HR := Lib.hid (keep_block HR.out hb)
  replace HT := Lib.hid (HT.out.below hb)
  replace HL := Lib.hid (HL.out.trans (hb.mono HL.out.size))
  clear hb
  have hb : Below W1.heap.size W1 (W1.alloc (.cells #[.bool true, .slice A1 L1 C1, .slice A2 L2 C2] 53)) := (Below.refl _ _).alloc (Nat.le_refl _) _
  have HX := Lib.hid (heap_alloc_new W1 (.cells #[.bool true, .slice A1 L1 C1, .slice A2 L2 C2] 53))
  have HW1 := Lib.hid HL.out.size
  have HLT := Lib.hid (heap_lt HR.out)
  replace HR := Lib.hid (keep_block HR.out hb)
  replace HT := Lib.hid (HT.out.below hb)
  replace N1 := Lib.hid (N1.out.below hb)
  replace N2 := Lib.hid (N2.out.below hb)
  replace HL := Lib.hid (HL.out.trans (hb.mono HL.out.size))
  clear hb
  obtain ⟨W2, hW2⟩ : ∃ Z, W1.alloc (.cells #[.bool true, .slice A1 L1 C1, .slice A2 L2 C2] 53) = Z := ⟨_, rfl⟩
  rw [hW2] at HX HR HT N1 N2 HL
  have EW2 := Lib.hid hW2
  clear hW2
  obtain ⟨⟨x0, x1, x2⟩, xf0, xf1, xf2⟩ := three_at HX.out
  go_wp2_with fail
  rw [EW2.out]
  refine (Z.out _ _ N1.out).mono ?_
  rintro e W3 ⟨rfl, rfl⟩
  have hne : w.heap.size + 1 ≠ W1.heap.size := Nat.ne_of_lt HLT.out
  have n1 : NatAt ((W3.setCell ⟨W1.heap.size, 1, none⟩ (.slice A2 L2 C2)).setCell ⟨W1.heap.size, 2, none⟩ (.slice A1 L1 C1)) (.slice A1 L1 C1) (up q) := N1.out.same (fun k hk => swap_other W3 W1.heap.size (.slice A2 L2 C2) (.slice A1 L1 C1) hk) (three_nolimb HX.out)
  have n2 : NatAt ((W3.setCell ⟨W1.heap.size, 1, none⟩ (.slice A2 L2 C2)).setCell ⟨W1.heap.size, 2, none⟩ (.slice A1 L1 C1)) (.slice A2 L2 C2) q.den := N2.out.same (fun k hk => swap_other W3 W1.heap.size (.slice A2 L2 C2) (.slice A1 L1 C1) hk) (three_nolimb HX.out)
  have hx2 := swap_at HX.out (.slice A2 L2 C2) (.slice A1 L1 C1)
  have hr2 := (swap_other W3 W1.heap.size (.slice A2 L2 C2) (.slice A1 L1 C1) hne).trans HR.out
  have hl2 := swap_below HL.out HW1.out (.slice A2 L2 C2) (.slice A1 L1 C1)
  obtain ⟨W4, hW4⟩ : ∃ Z, (W3.setCell ⟨W1.heap.size, 1, none⟩ (.slice A2 L2 C2)).setCell ⟨W1.heap.size, 2, none⟩ (.slice A1 L1 C1) = Z := ⟨_, rfl⟩
  rw [hW4] at n1 n2 hx2 hr2 hl2
  replace N1 := Lib.hid n1
  replace N2 := Lib.hid n2
  have HX2 := Lib.hid hx2
  replace HR := Lib.hid hr2
  replace HL := Lib.hid hl2
  replace HT := Lib.hid (HT0.out.below hl2)
  have EW4 := Lib.hid hW4
  clear n1 n2 hx2 hr2 hl2 hW4
  go_wp2_with fail
  rw [EW4.out]
  refine (P2.out _ _ N2.out).mono ?_
  rintro e W5 ⟨A3, L3, C3, rfl, h3, hb⟩
  have N3 := Lib.hid h3
  clear h3 x0 x1 x2 xf0 xf1 xf2
  replace HR := Lib.hid (keep_block HR.out hb)
  replace HX2 := Lib.hid (keep_block HX2.out hb)
  replace HT := Lib.hid (HT.out.below hb)
  replace N1 := Lib.hid (N1.out.below hb)
  replace HL := Lib.hid (HL.out.trans (hb.mono HL.out.size))
  clear hb
  obtain ⟨⟨x0, x1, x2⟩, xf0, xf1, xf2⟩ := three_at HX2.out
  go_wp2_with fail
  refine (P1.out _ _ N1.out).mono ?_
  rintro e W6 ⟨A4, L4, C4, rfl, h4, hb⟩
  have N4 := Lib.hid h4
  clear h4 x0 x1 x2 xf0 xf1 xf2
  replace HR := Lib.hid (keep_block HR.out hb)
  replace HX2 := Lib.hid (keep_block HX2.out hb)
  replace HT := Lib.hid (HT.out.below hb)
  replace N3 := Lib.hid (N3.out.below hb)
  replace HL := Lib.hid (HL.out.trans (hb.mono HL.out.size))
  clear hb
  obtain ⟨⟨x0, x1, x2⟩, xf0, xf1, xf2⟩ := three_at HX2.out
  go_wp2_with fail
  refine (TW.out _ _ _ N3.out N4.out HT.out).mono ?_
  rintro e W7 ⟨rfl, hb⟩
  replace HR := Lib.hid (keep_block HR.out hb)
  replace HL := Lib.hid (HL.out.trans (hb.mono HL.out.size))
  clear hb
  obtain ⟨⟨r0, r1⟩, rf0, rf1⟩ := two_at HR.out
  obtain ⟨nb, e0, e1⟩ := frac_end (x := .string rx) (y := .string ry) HR.out HL.out (by omega)
  go_wp2
  refine bodyPost_ret (v := .tuple #[.agg #[.string rx, .string ry], .int .i64 rc]) (by simp [results, Tryz.results226, go_sem, e0, e1]) rfl ⟨rfl, nb⟩

theorem powerQ_any (q : Rat) (n : Int) (w : World) (hq : fits q = true) (hq0 : n < 0 → q ≠ 0) (hn0 : -1000000 ≤ n) (hn1 : n ≤ 1000000) (hl1 : (digs LB (up q ^ n.natAbs)).length ≤ 34) (hl2 : (digs LB (q.den ^ n.natAbs)).length ≤ 34) (ht : Tab w) :
    Calls Tryz.prog 226 #[fracV q, .int .i64 n] w fun e w' => e = .returned (wroteV (powR q n)) ∧ Below w.heap.size w w' := by
  by_cases hneg : n < 0
  · cases hs : neg q with
    | true => exact powerQ_nm q n w hq hneg hs hq0 hn0 hn1 hl1 hl2 ht
    | false => exact powerQ_np q n w hq hneg hs hq0 hn0 hn1 hl1 hl2 ht
  · cases hs : neg q with
    | true => exact powerQ_pm q n w hq hneg hs hn0 hn1 hl1 hl2 ht
    | false => exact powerQ_pp q n w hq hneg hs hn0 hn1 hl1 hl2 ht
/-- bounds in digits are bounds in limbs -/
theorem limbs34 {n : Nat} (h : n < 10 ^ 300) : (digs LB n).length ≤ 34 := digs_len_le LB_two (Nat.lt_of_lt_of_le h (by decide +kernel))
end Go.Proofs.YtphfefmlappidaaGreatDoor.Num

/- Loans: plain laws, no program. No conditions. -/
namespace Go.Proofs.YtphfefmlappidaaGreatDoor.Num

def growR (r : Rat) (n : Nat) : Rat := (1 + r) ^ n
def sumR0 (r : Rat) (n : Nat) : Rat := if r = 0 then (n : Rat) else (growR r n - 1) / r
def sumR (r : Rat) (n : Nat) (e : Bool) : Rat := if e then sumR0 r n * (1 + r) else sumR0 r n
def payR (r : Rat) (n : Nat) (e : Bool) (v w : Rat) : Rat := -((v * growR r n + w) / sumR r n e)
def futR (r : Rat) (n : Nat) (e : Bool) (p v : Rat) : Rat := -(v * growR r n + p * sumR r n e)
def presR (r : Rat) (n : Nat) (e : Bool) (p w : Rat) : Rat := -((w + p * sumR r n e) / growR r n)
/-- the interest of the k-th payment, ahead of the division at the period's beginning -/
def intR0 (r : Rat) (k n : Nat) (e : Bool) (v w : Rat) : Rat := if e = false ∨ 1 < k then futR r (k - 1) e (payR r n e v w) v * r else 0
def intR (r : Rat) (k n : Nat) (e : Bool) (v w : Rat) : Rat := if e then intR0 r k n e v w / (1 + r) else intR0 r k n e v w

theorem fut_pay (r : Rat) (n : Nat) (e : Bool) (v w : Rat) (hs : sumR r n e ≠ 0) : futR r n e (payR r n e v w) v = w := by
  unfold futR payR
  generalize sumR r n e = s at *
  generalize growR r n = g
  grind
theorem pres_pay (r : Rat) (n : Nat) (e : Bool) (v w : Rat) (hs : sumR r n e ≠ 0) (hg : growR r n ≠ 0) : presR r n e (payR r n e v w) w = v := by
  unfold presR payR
  generalize sumR r n e = s at *
  generalize growR r n = g at *
  grind
theorem grow_zero (r : Rat) : growR r 0 = 1 := Rat.pow_zero _
theorem grow_succ (r : Rat) (n : Nat) : growR r (n + 1) = growR r n * (1 + r) := Rat.pow_succ _ _
theorem sum_zero (r : Rat) : sumR0 r 0 = 0 := by
  unfold sumR0
  rw [grow_zero]
  split
  · rfl
  · grind
theorem sum_succ (r : Rat) (n : Nat) : sumR0 r (n + 1) = sumR0 r n * (1 + r) + 1 := by
  unfold sumR0
  by_cases h : r = 0
  · rw [if_pos h, if_pos h, Rat.natCast_add]
    have e1 : ((1 : Nat) : Rat) = 1 := rfl
    rw [e1]; grind
  · rw [if_neg h, if_neg h, grow_succ]
    generalize growR r n = g
    grind
/-- what is owed behind k periods -/
def owedR (r : Rat) (k : Nat) (p v : Rat) : Rat := v * growR r k + p * sumR0 r k
theorem owed_zero (r p v : Rat) : owedR r 0 p v = v := by unfold owedR; rw [grow_zero, sum_zero]; grind
theorem owed_succ (r : Rat) (k : Nat) (p v : Rat) : owedR r (k + 1) p v = owedR r k p v * (1 + r) + p := by
  unfold owedR
  rw [grow_succ, sum_succ]
  grind
theorem owed_end (r : Rat) (n : Nat) (v : Rat) (hs : sumR0 r n ≠ 0) : owedR r n (payR r n false v 0) v = 0 := by
  unfold owedR payR
  show v * growR r n + -((v * growR r n + 0) / sumR0 r n) * sumR0 r n = 0
  generalize sumR0 r n = s at *
  generalize growR r n = g
  grind
theorem intR_owed (r : Rat) (k n : Nat) (v : Rat) : intR r (k + 1) n false v 0 = -(owedR r k (payR r n false v 0) v * r) := by
  unfold intR intR0 futR
  rw [if_neg (by decide), if_pos (Or.inl rfl)]
  show -(v * growR r k + payR r n false v 0 * sumR0 r k) * r = _
  unfold owedR
  grind
theorem prin_owed (r : Rat) (k n : Nat) (v : Rat) : payR r n false v 0 - intR r (k + 1) n false v 0 = owedR r (k + 1) (payR r n false v 0) v - owedR r k (payR r n false v 0) v := by
  rw [intR_owed, owed_succ]
  grind
/-- the sums of interests and of principals up to a payment -/
def intsR (r : Rat) (n : Nat) (v : Rat) : Nat → Rat
  | 0 => 0
  | k + 1 => intsR r n v k + intR r (k + 1) n false v 0
def prinsR (r : Rat) (n : Nat) (v : Rat) : Nat → Rat
  | 0 => 0
  | k + 1 => prinsR r n v k + (payR r n false v 0 - intR r (k + 1) n false v 0)
theorem prins_of (r : Rat) (n : Nat) (v : Rat) (k : Nat) : prinsR r n v k = owedR r k (payR r n false v 0) v - v := by
  induction k with
  | zero => rw [owed_zero]; unfold prinsR; grind
  | succ k ih => unfold prinsR; rw [ih, prin_owed]; grind
theorem ints_of (r : Rat) (n : Nat) (v : Rat) (k : Nat) : intsR r n v k = (k : Rat) * payR r n false v 0 - prinsR r n v k := by
  induction k with
  | zero =>
    unfold intsR prinsR
    have e0 : ((0 : Nat) : Rat) = 0 := rfl
    rw [e0]; grind
  | succ k ih =>
    unfold intsR prinsR
    rw [ih, Rat.natCast_add]
    have e1 : ((1 : Nat) : Rat) = 1 := rfl
    rw [e1]; grind
theorem prins_end (r : Rat) (n : Nat) (v : Rat) (hs : sumR0 r n ≠ 0) : prinsR r n v n + v = 0 := by
  rw [prins_of, owed_end r n v hs]; grind

/-- bounds -/
theorem Sm.pow {q : Rat} {A B : Nat} (h : Sm q A B) (n : Nat) : Sm (q ^ n) (A ^ n) (B ^ n) := by
  induction n with
  | zero =>
    have h1 : Sm ((1 : Int) : Rat) 1 1 := Sm.int 1 (by decide)
    rw [Rat.pow_zero]; exact h1.mono (by simp) (by simp)
  | succ n ih => rw [Rat.pow_succ, Nat.pow_succ, Nat.pow_succ]; exact ih.mul h
end Go.Proofs.YtphfefmlappidaaGreatDoor.Num

/- Loans of at most 24 periods: how long the fractions on the way are. Plain: no program. -/
namespace Go.Proofs.YtphfefmlappidaaGreatDoor.Num

theorem pow_le24 (b : Nat) (hb : 0 < b) {k : Nat} (h : k ≤ 24) : b ^ k ≤ b ^ 24 := Nat.pow_le_pow_right hb h
/-- the rate: a hundredths -/
def rateR (a : Int) : Rat := (a : Rat) / ((100 : Int) : Rat)
theorem rate_sm {a : Int} (h0 : -9 ≤ a) (h1 : a ≤ 30) : Sm (rateR a) 30 100 := (Sm.ratio a 100 (by decide) (A := 30) (B := 100) (by omega) (by decide)).mono (by decide) (by decide)
theorem one_rate (a : Int) : 1 + rateR a = ((100 + a : Int) : Rat) / ((100 : Int) : Rat) := by
  unfold rateR
  have h : ((100 : Int) : Rat) ≠ 0 := int_ne (by decide)
  rw [Rat.intCast_add]
  grind
theorem one_rate_sm {a : Int} (h0 : -9 ≤ a) (h1 : a ≤ 30) : Sm (1 + rateR a) 130 100 := by
  rw [one_rate]
  exact (Sm.ratio (100 + a) 100 (by decide) (A := 130) (B := 100) (by omega) (by decide)).mono (by decide) (by decide)
theorem one_rate_ne {a : Int} (h0 : -9 ≤ a) : 1 + rateR a ≠ 0 := by
  rw [one_rate]
  have h1 : ((100 + a : Int) : Rat) ≠ 0 := int_ne (by omega)
  have h2 : ((100 : Int) : Rat) ≠ 0 := int_ne (by decide)
  intro h
  grind
theorem rate_zero {a : Int} : rateR a = 0 ↔ a = 0 := by
  unfold rateR
  have h2 : ((100 : Int) : Rat) ≠ 0 := int_ne (by decide)
  constructor
  · intro h
    by_cases ha : a = 0
    · exact ha
    · have := int_ne ha
      exfalso
      grind
  · rintro rfl
    have : ((0 : Int) : Rat) = 0 := rfl
    rw [this]; grind
theorem grow_of (a : Int) (k : Nat) : growR (rateR a) k = (((100 + a) ^ k : Int) : Rat) / (((100 : Int) ^ k : Int) : Rat) := by
  unfold growR
  rw [one_rate]
  have h2 : ((100 : Int) : Rat) ≠ 0 := int_ne (by decide)
  induction k with
  | zero =>
    rw [Rat.pow_zero, Int.pow_zero, Int.pow_zero]
    exact (by decide +kernel : (1 : Rat) = ((1 : Int) : Rat) / ((1 : Int) : Rat))
  | succ k ih =>
    have h3 : (((100 : Int) ^ k : Int) : Rat) ≠ 0 := int_ne (by
      have : (0 : Int) < 100 ^ k := Int.pow_pos (by decide)
      omega)
    rw [Rat.pow_succ, ih, Int.pow_succ, Int.pow_succ, Rat.intCast_mul, Rat.intCast_mul]
    grind
theorem grow_sm {a : Int} (h0 : -9 ≤ a) (h1 : a ≤ 30) {k : Nat} (hk : k ≤ 24) : Sm (growR (rateR a) k) (130 ^ 24) (100 ^ 24) :=
  (Sm.pow (one_rate_sm h0 h1) k).mono (pow_le24 130 (by decide) hk) (pow_le24 100 (by decide) hk)
theorem grow_ne {a : Int} (h0 : -9 ≤ a) (k : Nat) : growR (rateR a) k ≠ 0 := by
  unfold growR
  have h := one_rate_ne h0
  induction k with
  | zero => rw [Rat.pow_zero]; decide
  | succ k ih =>
    rw [Rat.pow_succ]
    intro e
    rcases Rat.mul_eq_zero.1 e with h' | h'
    · exact ih h'
    · exact h h'
/-- powers of different bases differ -/
theorem pow_ne {a : Int} (h0 : -9 ≤ a) (ha : a ≠ 0) {n : Nat} (hn : 1 ≤ n) : (100 + a) ^ n ≠ (100 : Int) ^ n := by
  obtain ⟨b, hb⟩ : ∃ b : Nat, 100 + a = (b : Int) := ⟨(100 + a).toNat, by omega⟩
  rw [hb]
  intro e
  have e' : b ^ n = 100 ^ n := by exact_mod_cast e
  have : b = 100 := by
    rcases Nat.lt_trichotomy b 100 with h | h | h
    · have := Nat.pow_lt_pow_left h (show n ≠ 0 by omega)
      omega
    · exact h
    · have := Nat.pow_lt_pow_left h (show n ≠ 0 by omega)
      omega
  omega
theorem sum0_sm {a : Int} (h0 : -9 ≤ a) (h1 : a ≤ 30) {k : Nat} (hk : k ≤ 24) : Sm (sumR0 (rateR a) k) ((130 ^ 24 + 100 ^ 24) * 100) (100 ^ 24 * 30) := by
  unfold sumR0
  split
  · exact (Sm.int (k : Int) (A := 24) (by omega)).mono (by decide +kernel) (by decide +kernel)
  · next h =>
    have s1 := ((grow_sm h0 h1 hk).sub (Sm.int 1 (A := 1) (by decide))).div (rate_sm h0 h1) h
    exact s1.mono (by decide +kernel) (by decide +kernel)
theorem sum0_ne {a : Int} (h0 : -9 ≤ a) {n : Nat} (hn : 1 ≤ n) : sumR0 (rateR a) n ≠ 0 := by
  unfold sumR0
  split
  · intro e
    have : ((n : Int) : Rat) = ((0 : Int) : Rat) := e
    have : (n : Int) = 0 := by exact_mod_cast this
    omega
  · next h =>
    have ha : a ≠ 0 := fun e => h (rate_zero.2 e)
    have hne := pow_ne h0 ha hn
    rw [grow_of]
    have h3 : (((100 : Int) ^ n : Int) : Rat) ≠ 0 := int_ne (by
      have : (0 : Int) < 100 ^ n := Int.pow_pos (by decide)
      omega)
    have h4 : (((100 + a) ^ n : Int) : Rat) ≠ (((100 : Int) ^ n : Int) : Rat) := fun e => hne (by exact_mod_cast e)
    intro e
    grind
/-- what is owed: hundredths -/
def cents (V : Int) : Rat := (V : Rat) / ((100 : Int) : Rat)
theorem cents_sm {V : Int} (h : V.natAbs ≤ 1000000) : Sm (cents V) 1000000 100 := (Sm.ratio V 100 (by decide) (A := 1000000) (B := 100) h (by decide)).mono (by decide) (by decide)
theorem natAbs_pow_le {a : Int} (h0 : -9 ≤ a) (h1 : a ≤ 30) {n : Nat} (hn : n ≤ 24) : ((100 + a) ^ n).natAbs ≤ 130 ^ 24 := by
  rw [Int.natAbs_pow]
  exact Nat.le_trans (Nat.pow_le_pow_left (show (100 + a).natAbs ≤ 130 by omega) n) (pow_le24 130 (by decide) hn)
/-- the payment where nothing is left in the end: few digits -/
theorem pay_small {a V : Int} (h0 : -9 ≤ a) (h1 : a ≤ 30) {n : Nat} (hn : n ≤ 24) (hn1 : 1 ≤ n) (hV : V.natAbs ≤ 1000000) : Sm (payR (rateR a) n false (cents V) 0) (1000000 * 130 ^ 24 * 30) (10000 * (130 ^ 24 + 100 ^ 24)) := by
  by_cases ha : a = 0
  · have hr : rateR a = 0 := rate_zero.2 ha
    have hs : sumR (rateR a) n false = (n : Rat) := by
      show sumR0 (rateR a) n = _
      unfold sumR0
      rw [if_pos hr]
    have hg : growR (rateR a) n = 1 := by
      unfold growR
      rw [hr, Rat.add_zero]
      induction n with
      | zero => exact Rat.pow_zero _
      | succ n ih => 
        by_cases h : 1 ≤ n
        · rw [Rat.pow_succ, ih (by omega) h (by
            show sumR0 (rateR a) n = _
            unfold sumR0
            rw [if_pos hr]), Rat.mul_one]
        · have : n = 0 := by omega
          subst this
          rw [Rat.pow_succ, Rat.pow_zero, Rat.mul_one]
    have e : payR (rateR a) n false (cents V) 0 = -(cents V / ((n : Int) : Rat)) := by
      unfold payR
      rw [hs, hg, Rat.mul_one, Rat.add_zero]; rfl
    rw [e]
    have hn0 : ((n : Int) : Rat) ≠ 0 := int_ne (by omega)
    exact (((cents_sm hV).div (Sm.int (n : Int) (A := 24) (by omega)) hn0).neg).mono (by decide +kernel) (by decide +kernel)
  · have hne := pow_ne h0 ha hn1
    have h3 : (((100 : Int) ^ n : Int) : Rat) ≠ 0 := int_ne (by
      have : (0 : Int) < 100 ^ n := Int.pow_pos (by decide)
      omega)
    have h4 : (((100 + a) ^ n : Int) : Rat) ≠ (((100 : Int) ^ n : Int) : Rat) := fun e => hne (by exact_mod_cast e)
    have h5 : (a : Rat) ≠ 0 := int_ne ha
    have e : payR (rateR a) n false (cents V) 0 = ((-(V * (100 + a) ^ n * a) : Int) : Rat) / ((10000 * ((100 + a) ^ n - 100 ^ n) : Int) : Rat) := by
      unfold payR sumR sumR0
      rw [if_neg (by decide), if_neg (fun h => ha (rate_zero.1 h)), grow_of]
      unfold rateR cents
      rw [Rat.intCast_neg, Rat.intCast_mul, Rat.intCast_mul, Rat.intCast_mul, Rat.intCast_sub]
      have h2 : ((100 : Int) : Rat) = 100 := rfl
      have h2' : ((10000 : Int) : Rat) = 10000 := rfl
      rw [h2, h2']
      generalize (((100 + a) ^ n : Int) : Rat) = x at *
      generalize (((100 : Int) ^ n : Int) : Rat) = y at *
      have h6 : x - y ≠ 0 := fun e => h4 (by grind)
      have h7 : (x / y - 1) / ((a : Rat) / 100) ≠ 0 := by
        intro e
        grind
      grind
    rw [e]
    have hd : 10000 * ((100 + a) ^ n - 100 ^ n) ≠ (0 : Int) := by
      intro e
      apply hne
      omega
    refine (Sm.ratio _ _ hd (A := 1000000 * 130 ^ 24 * 30) (B := 10000 * (130 ^ 24 + 100 ^ 24)) ?_ ?_).mono (by decide +kernel) (by decide +kernel)
    · rw [Int.natAbs_neg, Int.natAbs_mul, Int.natAbs_mul]
      exact Nat.mul_le_mul (Nat.mul_le_mul hV (natAbs_pow_le h0 h1 hn)) (by omega)
    · rw [Int.natAbs_mul]
      refine Nat.mul_le_mul (Nat.le_refl _) ?_
      refine Nat.le_trans (Int.natAbs_sub_le _ _) ?_
      refine Nat.add_le_add (natAbs_pow_le h0 h1 hn) ?_
      rw [Int.natAbs_pow]
      exact pow_le24 100 (by decide) hn
end Go.Proofs.YtphfefmlappidaaGreatDoor.Num

/- Loans of at most 24 periods: everything on the way has fewer than 300 digits. Plain: no program. -/
namespace Go.Proofs.YtphfefmlappidaaGreatDoor.Num

/-- at most 10^k over 10^l -/
def SD (q : Rat) (k l : Nat) : Prop := Sm q (10 ^ k) (10 ^ l)
theorem SD.mono {q : Rat} {k l k' l' : Nat} (h : SD q k l) (h1 : k ≤ k') (h2 : l ≤ l') : SD q k' l' :=
  Sm.mono h (Nat.pow_le_pow_right (by decide) h1) (Nat.pow_le_pow_right (by decide) h2)
set_option exponentiation.threshold 400 in
theorem SD.fits {q : Rat} {k l : Nat} (h : SD q k l) (h1 : k < 300) (h2 : l < 300) : fits q = true :=
  Sm.fits h (Nat.pow_lt_pow_right (by decide) h1) (Nat.pow_lt_pow_right (by decide) h2)
theorem SD.neg {q : Rat} {k l : Nat} (h : SD q k l) : SD (-q) k l := Sm.neg h
theorem SD.mul {p q : Rat} {k l m o : Nat} (h : SD p k l) (g : SD q m o) : SD (p * q) (k + m) (l + o) := by
  unfold SD
  rw [Nat.pow_add, Nat.pow_add]
  exact Sm.mul h g
theorem SD.div {p q : Rat} {k l m o : Nat} (h : SD p k l) (g : SD q m o) (h0 : q ≠ 0) : SD (p / q) (k + o) (l + m) := by
  unfold SD
  rw [Nat.pow_add, Nat.pow_add]
  exact Sm.div h g h0
theorem ten_add {a b c : Nat} (h1 : a ≤ c) (h2 : b ≤ c) : 10 ^ a + 10 ^ b ≤ 10 ^ (c + 1) := by
  have e1 : 10 ^ a ≤ 10 ^ c := Nat.pow_le_pow_right (by decide) h1
  have e2 : 10 ^ b ≤ 10 ^ c := Nat.pow_le_pow_right (by decide) h2
  rw [Nat.pow_succ]
  omega
theorem SD.add {p q : Rat} {k l m o c : Nat} (h : SD p k l) (g : SD q m o) (h1 : k + o ≤ c) (h2 : m + l ≤ c) : SD (p + q) (c + 1) (l + o) := by
  refine Sm.mono (Sm.add h g) ?_ ?_
  · rw [← Nat.pow_add, ← Nat.pow_add]
    exact ten_add h1 h2
  · rw [← Nat.pow_add]
    exact Nat.le_refl _
theorem SD.sub {p q : Rat} {k l m o c : Nat} (h : SD p k l) (g : SD q m o) (h1 : k + o ≤ c) (h2 : m + l ≤ c) : SD (p - q) (c + 1) (l + o) := by
  rw [Rat.sub_eq_add_neg]
  exact SD.add h (SD.neg g) h1 h2
theorem sd_of {q : Rat} {A B k l : Nat} (h : Sm q A B) (h1 : A ≤ 10 ^ k) (h2 : B ≤ 10 ^ l) : SD q k l := Sm.mono h h1 h2
theorem Sm.up_den {q : Rat} {A B : Nat} (h : Sm q A B) : up q ≤ A ∧ q.den ≤ B := by
  obtain ⟨a, b, hb, rfl, x, y⟩ := h
  have e := ratio_of a (b : Int) (by omega)
  rw [Rat.intCast_natCast] at e
  rw [← e]
  constructor
  · have hu : up (ratOf (Num.neg (a : Rat) != Num.neg (((b : Nat) : Int) : Rat)) a.natAbs ((b : Nat) : Int).natAbs) ≤ A := by
      rw [ratOf_up _ _ (by omega)]; exact Nat.le_trans (Nat.div_le_self _ _) x
    rw [Rat.intCast_natCast] at hu
    exact hu
  · have hd : (ratOf (Num.neg (a : Rat) != Num.neg (((b : Nat) : Int) : Rat)) a.natAbs ((b : Nat) : Int).natAbs).den ≤ B := by
      rw [ratOf_den _ _ (by omega)]; exact Nat.le_trans (Nat.div_le_self _ _) (by simpa using y)
    rw [Rat.intCast_natCast] at hd
    exact hd
/-- the growth of a loan is short enough for exact.Power -/
theorem grow_limbs {a : Int} (a0 : -9 ≤ a) (a1 : a ≤ 30) {k : Nat} (hk : k ≤ 24) : up (1 + rateR a) ^ k < 10 ^ 300 ∧ (1 + rateR a).den ^ k < 10 ^ 300 := by
  have h := (one_rate_sm a0 a1).up_den
  constructor
  · exact Nat.lt_of_le_of_lt (Nat.le_trans (Nat.pow_le_pow_left h.1 k) (pow_le24 130 (by decide) hk)) (by decide +kernel)
  · exact Nat.lt_of_le_of_lt (Nat.le_trans (Nat.pow_le_pow_left h.2 k) (pow_le24 100 (by decide) hk)) (by decide +kernel)
section
variable {a V U : Int} {n k : Nat} {e : Bool} (a0 : -9 ≤ a) (a1 : a ≤ 30) (hV : V.natAbs ≤ 1000000) (hU : U.natAbs ≤ 1000000)
include a0 a1
theorem rate_sd : SD (rateR a) 2 2 := sd_of (rate_sm a0 a1) (by decide) (by decide)
theorem one_rate_sd : SD (1 + rateR a) 3 2 := sd_of (one_rate_sm a0 a1) (by decide) (by decide)
theorem grow_sd (hk : k ≤ 24) : SD (growR (rateR a) k) 51 48 := sd_of (grow_sm a0 a1 hk) (by decide +kernel) (by decide +kernel)
theorem grow1_sd (hk : k ≤ 24) : SD (growR (rateR a) k - 1) 52 48 :=
  SD.sub (o := 0) (m := 0) (grow_sd a0 a1 hk) (sd_of (Sm.int 1 (A := 1) (by decide)) (by decide) (by decide)) (c := 51) (by decide) (by decide)
theorem sum0_sd (hk : k ≤ 24) : SD (sumR0 (rateR a) k) 53 50 := sd_of (sum0_sm a0 a1 hk) (by decide +kernel) (by decide +kernel)
theorem sum_sd (hk : k ≤ 24) : SD (sumR (rateR a) k e) 56 52 := by
  unfold sumR
  split
  · exact SD.mul (sum0_sd a0 a1 hk) (one_rate_sd a0 a1)
  · exact (sum0_sd a0 a1 hk).mono (by decide) (by decide)
omit a1 in
theorem sum_ne (hn : 1 ≤ n) : sumR (rateR a) n e ≠ 0 := by
  unfold sumR
  split
  · intro h
    rcases Rat.mul_eq_zero.1 h with h | h
    · exact sum0_ne a0 hn h
    · exact one_rate_ne a0 h
  · exact sum0_ne a0 hn
include hV
omit a0 a1 in
theorem cents_sd : SD (cents V) 6 2 := sd_of (cents_sm hV) (by decide) (by decide)
theorem vg_sd (hk : k ≤ 24) : SD (cents V * growR (rateR a) k) 57 50 := SD.mul (cents_sd hV) (grow_sd a0 a1 hk)
include hU
theorem vgw_sd (hk : k ≤ 24) : SD (cents V * growR (rateR a) k + cents U) 60 52 := SD.add (vg_sd a0 a1 hV hk) (cents_sd hU) (by decide) (by decide)
theorem pay_sd (hn : 1 ≤ n) (hk : n ≤ 24) : SD (payR (rateR a) n e (cents V) (cents U)) 112 108 :=
  SD.neg (SD.div (vgw_sd a0 a1 hV hU hk) (sum_sd a0 a1 hk) (sum_ne a0 hn))
theorem paysum_sd (hn : 1 ≤ n) (hk : n ≤ 24) : SD (payR (rateR a) n e (cents V) (cents U) * sumR (rateR a) n e) 168 160 :=
  SD.mul (pay_sd a0 a1 hV hU hn hk) (sum_sd a0 a1 hk)
theorem fut_sd (hn : 1 ≤ n) (hk : n ≤ 24) : SD (cents V * growR (rateR a) n + payR (rateR a) n e (cents V) (cents U) * sumR (rateR a) n e) 219 210 :=
  SD.add (vg_sd a0 a1 hV hk) (paysum_sd a0 a1 hV hU hn hk) (by decide) (by decide)
theorem presum_sd (hn : 1 ≤ n) (hk : n ≤ 24) : SD (cents U + payR (rateR a) n e (cents V) (cents U) * sumR (rateR a) n e) 171 162 :=
  SD.add (cents_sd hU) (paysum_sd a0 a1 hV hU hn hk) (by decide) (by decide)
theorem pres_sd (hn : 1 ≤ n) (hk : n ≤ 24) : SD ((cents U + payR (rateR a) n e (cents V) (cents U) * sumR (rateR a) n e) / growR (rateR a) n) 219 213 :=
  SD.div (presum_sd a0 a1 hV hU hn hk) (grow_sd a0 a1 hk) (grow_ne a0 n)
omit hU
/-- the parts of a payment where nothing is left in the end -/
theorem pays_sd (hn : 1 ≤ n) (hk : n ≤ 24) : SD (payR (rateR a) n false (cents V) 0) 59 55 := sd_of (pay_small a0 a1 hk hn hV) (by decide +kernel) (by decide +kernel)
theorem paysk_sd (hn : 1 ≤ n) (hk : n ≤ 24) (hkn : k ≤ 24) : SD (payR (rateR a) n false (cents V) 0 * sumR0 (rateR a) k) 112 105 :=
  SD.mul (pays_sd a0 a1 hV hn hk) (sum0_sd a0 a1 hkn)
theorem owed_sd (hn : 1 ≤ n) (hk : n ≤ 24) (hkn : k ≤ 24) : SD (owedR (rateR a) k (payR (rateR a) n false (cents V) 0) (cents V)) 163 155 :=
  SD.add (vg_sd a0 a1 hV hkn) (paysk_sd a0 a1 hV hn hk hkn) (by decide) (by decide)
theorem inte_sd (hn : 1 ≤ n) (hk : n ≤ 24) (hkn : k + 1 ≤ 24) : SD (intR (rateR a) (k + 1) n false (cents V) 0) 165 157 := by
  rw [intR_owed]
  exact SD.neg (SD.mul (owed_sd a0 a1 hV hn hk (by omega)) (rate_sd a0 a1))
theorem prin_sd (hn : 1 ≤ n) (hk : n ≤ 24) (hkn : k + 1 ≤ 24) : SD (payR (rateR a) n false (cents V) 0 - intR (rateR a) (k + 1) n false (cents V) 0) 221 212 :=
  SD.sub (pays_sd a0 a1 hV hn hk) (inte_sd a0 a1 hV hn hk hkn) (by decide) (by decide)
theorem prins_sd (hn : 1 ≤ n) (hk : n ≤ 24) (hkn : k ≤ 24) : SD (prinsR (rateR a) n (cents V) k) 166 157 := by
  rw [prins_of]
  exact SD.sub (owed_sd a0 a1 hV hn hk hkn) (cents_sd hV) (by decide) (by decide)
theorem ints_sd (hn : 1 ≤ n) (hk : n ≤ 24) (hkn : k ≤ 24) : SD (intsR (rateR a) n (cents V) k) 222 212 := by
  rw [ints_of]
  have hK : SD (k : Rat) 2 0 := sd_of (Sm.int (k : Int) (A := 24) (by omega)) (by decide) (by decide)
  exact SD.sub (SD.mul hK (pays_sd a0 a1 hV hn hk)) (prins_sd a0 a1 hV hn hk hkn) (by decide) (by decide)
end
end Go.Proofs.YtphfefmlappidaaGreatDoor.Num

/- package fmoney's variable one, beside the tables. No conditions. -/
namespace Go.Proofs.YtphfefmlappidaaGreatDoor.Num.Fy
open Go.RowKit Go.Lib Num

/-- the tables lie as they are laid, and one is 1 -/
structure EnvY (w : World) : Prop where
  e : Env w
  one : ∀ i, i < 2 → w.cell? ⟨0, i, none⟩ = some (.string { data := #[49] })
theorem past_one {b : Nat} (h : Past b) : 0 < b := Nat.lt_of_le_of_lt (by decide) h.1
theorem EnvY.below {w w' : World} (h : EnvY w) (hb : Below w.heap.size w w') : EnvY w' :=
  ⟨h.e.below hb, fun i hi => (hb.cell (p := ⟨0, i, none⟩) (past_one h.e.room)).trans (h.one i hi)⟩
theorem EnvY.kept {w w' : World} {b : Nat} (h : EnvY w) (hg : w.grownBy w' (some b)) (hb : Past b) : EnvY w' :=
  ⟨h.e.kept hg hb, fun i hi => kept_cell (h.one i hi) hg (Nat.ne_of_lt (past_one hb))⟩
theorem EnvY.of {w w' : World} (h : EnvY w) (hb : Below w.heap.size w w') (g : Env w') : EnvY w' := ⟨g, (h.below hb).one⟩
theorem numS_one : numS 1 = { data := #[49] } := by decide +kernel
theorem denS_one : denS 1 = { data := #[49] } := by decide +kernel
theorem one_is : fracV 1 = .agg #[.string { data := #[49] }, .string { data := #[49] }] := by rw [fracV_is, numS_one, denS_one]
end Go.Proofs.YtphfefmlappidaaGreatDoor.Num.Fy

/- package fmoney: its small functions over fractions. Conditions: nothing is too long. -/
namespace Go.Proofs.YtphfefmlappidaaGreatDoor.Num.Fy
open Go.RowKit Go.Lib Num

set_option maxHeartbeats 4000000 in
set_option maxRecDepth 100000 in
theorem y_add (p q : Rat) (w : World) (hp : fits p = true) (hq : fits q = true) (hr : fits (p + q) = true) (hE : Env w) : Calls Tryz.prog 92 #[fracV p, fracV q] w fun e w' => e = .returned (fracV (p + q)) ∧ Below w.heap.size w w' := by
  have T1 := Lib.hid (fun W g => add_any p q W hp hq g)
  have T2 := Lib.hid (fun W => must_ok (p + q) W)
  rw [wroteV_ok hr] at T1
  rw [fracV_is (p + q)] at T1 T2 ⊢
  rw [fracV_is p, fracV_is q] at T1 ⊢
  obtain ⟨_, _, hr', hb⟩ := three_new w (.cells #[.string (numS p), .string (denS p)] 23) (.cells #[.string (numS q), .string (denS q)] 23) (.cells #[.string { data := #[] }, .string { data := #[] }] 23)
  have HR := Lib.hid hr'
  have HL := Lib.hid hb
  have HE := Lib.hid (hE.below hb)
  clear hr' hb hE hp hq hr
  go_enter Tryz.func92, Tryz.ntmps92
  go_wp2_with fail
  refine (T1.out _ HE.out.tab).mono ?_
  rintro e W1 ⟨rfl, hb⟩
  replace HR := Lib.hid (keep_block HR.out hb)
  replace HL := Lib.hid (HL.out.trans (hb.mono HL.out.size))
  clear hb
  go_wp2_with fail
  refine (T2.out _).mono ?_
  rintro e W2 ⟨rfl, hb⟩
  replace HR := Lib.hid (keep_block HR.out hb)
  replace HL := Lib.hid (HL.out.trans (hb.mono HL.out.size))
  clear hb
  obtain ⟨⟨r0, r1⟩, rf0, rf1⟩ := two_at HR.out
  obtain ⟨nb, e0, e1⟩ := frac_end (x := .string (numS (p + q))) (y := .string (denS (p + q))) HR.out HL.out (by omega)
  go_wp2
  refine bodyPost_ret (v := .agg #[.string (numS (p + q)), .string (denS (p + q))]) (by simp [results, Tryz.results92, go_sem, e0, e1]) rfl ⟨rfl, nb⟩

set_option maxHeartbeats 4000000 in
set_option maxRecDepth 100000 in
theorem y_sub (p q : Rat) (w : World) (hp : fits p = true) (hq : fits q = true) (hr : fits (p - q) = true) (hE : Env w) : Calls Tryz.prog 107 #[fracV p, fracV q] w fun e w' => e = .returned (fracV (p - q)) ∧ Below w.heap.size w w' := by
  have T1 := Lib.hid (fun W g => sub_any p q W hp hq g)
  have T2 := Lib.hid (fun W => must_ok (p - q) W)
  rw [wroteV_ok hr] at T1
  rw [fracV_is (p - q)] at T1 T2 ⊢
  rw [fracV_is p, fracV_is q] at T1 ⊢
  obtain ⟨_, _, hr', hb⟩ := three_new w (.cells #[.string (numS p), .string (denS p)] 23) (.cells #[.string (numS q), .string (denS q)] 23) (.cells #[.string { data := #[] }, .string { data := #[] }] 23)
  have HR := Lib.hid hr'
  have HL := Lib.hid hb
  have HE := Lib.hid (hE.below hb)
  clear hr' hb hE hp hq hr
  go_enter Tryz.func107, Tryz.ntmps107
  go_wp2_with fail
  refine (T1.out _ HE.out.tab).mono ?_
  rintro e W1 ⟨rfl, hb⟩
  replace HR := Lib.hid (keep_block HR.out hb)
  replace HL := Lib.hid (HL.out.trans (hb.mono HL.out.size))
  clear hb
  go_wp2_with fail
  refine (T2.out _).mono ?_
  rintro e W2 ⟨rfl, hb⟩
  replace HR := Lib.hid (keep_block HR.out hb)
  replace HL := Lib.hid (HL.out.trans (hb.mono HL.out.size))
  clear hb
  obtain ⟨⟨r0, r1⟩, rf0, rf1⟩ := two_at HR.out
  obtain ⟨nb, e0, e1⟩ := frac_end (x := .string (numS (p - q))) (y := .string (denS (p - q))) HR.out HL.out (by omega)
  go_wp2
  refine bodyPost_ret (v := .agg #[.string (numS (p - q)), .string (denS (p - q))]) (by simp [results, Tryz.results107, go_sem, e0, e1]) rfl ⟨rfl, nb⟩

set_option maxHeartbeats 4000000 in
set_option maxRecDepth 100000 in
theorem y_mul (p q : Rat) (w : World) (hp : fits p = true) (hq : fits q = true) (hr : fits (p * q) = true) (hE : Env w) : Calls Tryz.prog 93 #[fracV p, fracV q] w fun e w' => e = .returned (fracV (p * q)) ∧ Below w.heap.size w w' := by
  have T1 := Lib.hid (fun W g => mul_any p q W hp hq g)
  have T2 := Lib.hid (fun W => must_ok (p * q) W)
  rw [wroteV_ok hr] at T1
  rw [fracV_is (p * q)] at T1 T2 ⊢
  rw [fracV_is p, fracV_is q] at T1 ⊢
  obtain ⟨_, _, hr', hb⟩ := three_new w (.cells #[.string (numS p), .string (denS p)] 23) (.cells #[.string (numS q), .string (denS q)] 23) (.cells #[.string { data := #[] }, .string { data := #[] }] 23)
  have HR := Lib.hid hr'
  have HL := Lib.hid hb
  have HE := Lib.hid (hE.below hb)
  clear hr' hb hE hp hq hr
  go_enter Tryz.func93, Tryz.ntmps93
  go_wp2_with fail
  refine (T1.out _ HE.out.tab).mono ?_
  rintro e W1 ⟨rfl, hb⟩
  replace HR := Lib.hid (keep_block HR.out hb)
  replace HL := Lib.hid (HL.out.trans (hb.mono HL.out.size))
  clear hb
  go_wp2_with fail
  refine (T2.out _).mono ?_
  rintro e W2 ⟨rfl, hb⟩
  replace HR := Lib.hid (keep_block HR.out hb)
  replace HL := Lib.hid (HL.out.trans (hb.mono HL.out.size))
  clear hb
  obtain ⟨⟨r0, r1⟩, rf0, rf1⟩ := two_at HR.out
  obtain ⟨nb, e0, e1⟩ := frac_end (x := .string (numS (p * q))) (y := .string (denS (p * q))) HR.out HL.out (by omega)
  go_wp2
  refine bodyPost_ret (v := .agg #[.string (numS (p * q)), .string (denS (p * q))]) (by simp [results, Tryz.results93, go_sem, e0, e1]) rfl ⟨rfl, nb⟩

set_option maxHeartbeats 4000000 in
set_option maxRecDepth 100000 in
theorem y_div (p q : Rat) (w : World) (hp : fits p = true) (hq : fits q = true) (h0 : q ≠ 0) (hr : fits (p / q) = true) (hE : Env w) : Calls Tryz.prog 91 #[fracV p, fracV q] w fun e w' => e = .returned (fracV (p / q)) ∧ Below w.heap.size w w' := by
  have T1 := Lib.hid (fun W g => div_any p q W hp hq h0 g)
  have T2 := Lib.hid (fun W => must_ok (p / q) W)
  rw [wroteV_ok hr] at T1
  rw [fracV_is (p / q)] at T1 T2 ⊢
  rw [fracV_is p, fracV_is q] at T1 ⊢
  obtain ⟨_, _, hr', hb⟩ := three_new w (.cells #[.string (numS p), .string (denS p)] 23) (.cells #[.string (numS q), .string (denS q)] 23) (.cells #[.string { data := #[] }, .string { data := #[] }] 23)
  have HR := Lib.hid hr'
  have HL := Lib.hid hb
  have HE := Lib.hid (hE.below hb)
  clear hr' hb hE hp hq hr
  go_enter Tryz.func91, Tryz.ntmps91
  go_wp2_with fail
  refine (T1.out _ HE.out.tab).mono ?_
  rintro e W1 ⟨rfl, hb⟩
  replace HR := Lib.hid (keep_block HR.out hb)
  replace HL := Lib.hid (HL.out.trans (hb.mono HL.out.size))
  clear hb
  go_wp2_with fail
  refine (T2.out _).mono ?_
  rintro e W2 ⟨rfl, hb⟩
  replace HR := Lib.hid (keep_block HR.out hb)
  replace HL := Lib.hid (HL.out.trans (hb.mono HL.out.size))
  clear hb
  obtain ⟨⟨r0, r1⟩, rf0, rf1⟩ := two_at HR.out
  obtain ⟨nb, e0, e1⟩ := frac_end (x := .string (numS (p / q))) (y := .string (denS (p / q))) HR.out HL.out (by omega)
  go_wp2
  refine bodyPost_ret (v := .agg #[.string (numS (p / q)), .string (denS (p / q))]) (by simp [results, Tryz.results91, go_sem, e0, e1]) rfl ⟨rfl, nb⟩

set_option maxHeartbeats 4000000 in
set_option maxRecDepth 100000 in
theorem y_neg (q : Rat) (w : World) (hq : fits q = true) (hE : Env w) : Calls Tryz.prog 90 #[fracV q] w fun e w' => e = .returned (fracV (-q)) ∧ Below w.heap.size w w' := by
  have T1 := Lib.hid (fun W g => neg_any q W hq g)
  have T2 := Lib.hid (fun W => must_ok (-q) W)
  rw [fracV_is (-q)] at T1 T2 ⊢
  rw [fracV_is q] at T1 ⊢
  obtain ⟨_, hr', hb⟩ := two_new w (.cells #[.string (numS q), .string (denS q)] 23) (.cells #[.string { data := #[] }, .string { data := #[] }] 23)
  have HR := Lib.hid hr'
  have HL := Lib.hid hb
  have HE := Lib.hid (hE.below hb)
  clear hr' hb hE
  go_enter Tryz.func90, Tryz.ntmps90
  go_wp2_with fail
  refine (T1.out _ HE.out.tab).mono ?_
  rintro e W1 ⟨rfl, hb⟩
  replace HR := Lib.hid (keep_block HR.out hb)
  replace HL := Lib.hid (HL.out.trans (hb.mono HL.out.size))
  clear hb
  go_wp2_with fail
  refine (T2.out _).mono ?_
  rintro e W2 ⟨rfl, hb⟩
  replace HR := Lib.hid (keep_block HR.out hb)
  replace HL := Lib.hid (HL.out.trans (hb.mono HL.out.size))
  clear hb
  obtain ⟨⟨r0, r1⟩, rf0, rf1⟩ := two_at HR.out
  obtain ⟨nb, e0, e1⟩ := frac_end (x := .string (numS (-q))) (y := .string (denS (-q))) HR.out HL.out (by omega)
  go_wp2
  refine bodyPost_ret (v := .agg #[.string (numS (-q)), .string (denS (-q))]) (by simp [results, Tryz.results90, go_sem, e0, e1]) rfl ⟨rfl, nb⟩

set_option maxHeartbeats 4000000 in
set_option maxRecDepth 100000 in
theorem y_sign (q : Rat) (w : World) (hq : fits q = true) (hE : Env w) : Calls Tryz.prog 208 #[fracV q] w fun e w' => e = .returned (.int .i64 (cmpR q 0)) ∧ Below w.heap.size w w' := by
  have T1 := Lib.hid (fun W g => of_any 0 W (by decide) (by decide) g)
  have T2 := Lib.hid (fun W => compare_q q 0 W hq fits_zero)
  rw [show ((0 : Int) : Rat) = 0 from rfl, fracV_is 0] at T1
  rw [fracV_is q, fracV_is 0] at T2
  rw [fracV_is q]
  obtain ⟨cc, hcc⟩ : ∃ c, cmpR q 0 = c := ⟨_, rfl⟩
  rw [hcc] at T2 ⊢
  have hb : Below w.heap.size w (w.alloc (.cells #[.string (numS q), .string (denS q)] 23)) := (Below.refl _ _).alloc (Nat.le_refl _) _
  have HX := Lib.hid (drew_block (heap_alloc_new w (.cells #[.string (numS q), .string (denS q)] 23)))
  have HL := Lib.hid hb.drew
  have HE := Lib.hid (hE.below hb.drew)
  obtain ⟨W0, hW0⟩ : ∃ W0, w.alloc (.cells #[.string (numS q), .string (denS q)] 23) = W0 := ⟨_, rfl⟩
  rw [hW0] at HX HL HE
  have HW := Lib.hid hW0
  clear hb hE hq hcc hW0
  go_enter Tryz.func208, Tryz.ntmps208
  go_wp2_with fail
  rw [HW.out]
  go_region_held3 (fun W => W.cell? ⟨w.heap.size, 0, none⟩ = some (.string (numS q)) ∧ W.cell? ⟨w.heap.size, 1, none⟩ = some (.string (denS q)))
    (first | (with_reducible exact cells2 HX.out) | fail)
    ((first | (go_at_call 49; (with_reducible refine (T1.out _ HE.out.tab).mono ?_); rintro e W1 ⟨rfl, hb⟩; replace HX := Lib.hid (keep_block HX.out hb); replace HL := Lib.hid (HL.out.trans (hb.mono HL.out.size)); clear hb) | (go_at_call 54; (with_reducible refine (T2.out _).mono ?_); rintro e W2 ⟨rfl, hb⟩; replace HX := Lib.hid (keep_block HX.out hb); replace HL := Lib.hid (HL.out.trans (hb.mono HL.out.size)); clear hb)))
  all_goals
    go_wp2
    go_ret
    exact ⟨rfl, HL.out⟩

set_option maxHeartbeats 2000000 in
set_option maxRecDepth 100000 in
theorem y_within (n lo hi : Int) (w : World) (h1 : lo ≤ n) (h2 : n ≤ hi) : Calls Tryz.prog 114 #[.int .i64 n, .int .i64 lo, .int .i64 hi] w fun e w' => e = .returned (.tuple #[]) ∧ w' = w := by
  have d1 : decide (n < lo) = false := decide_eq_false (by omega)
  have d2 : decide (hi < n) = false := decide_eq_false (by omega)
  go_enter Tryz.func114, Tryz.ntmps114
  go_wp2_with fail
  go_end0
  exact ⟨rfl, rfl⟩

set_option maxHeartbeats 4000000 in
set_option maxRecDepth 100000 in
theorem y_power (q r : Rat) (n : Int) (w : World) (hq : fits q = true) (hr : fits r = true) (hn0 : 0 ≤ n) (hn1 : n ≤ 1000000) (hp : powR q n = r) (hl1 : up q ^ n.natAbs < 10 ^ 300) (hl2 : q.den ^ n.natAbs < 10 ^ 300) (hE : Env w) : Calls Tryz.prog 207 #[fracV q, .int .i64 n] w fun e w' => e = .returned (fracV r) ∧ Below w.heap.size w w' := by
  have T1 := Lib.hid (fun W g => powerQ_any q n W hq (fun h => absurd h (by omega)) (by omega) hn1 (limbs34 hl1) (limbs34 hl2) g)
  rw [hp, wroteV_ok hr] at T1
  have T2 := Lib.hid (fun W => must_ok r W)
  rw [fracV_is r] at T1 T2 ⊢
  rw [fracV_is q] at T1 ⊢
  obtain ⟨_, hr', hb⟩ := two_new w (.cells #[.string (numS q), .string (denS q)] 23) (.cells #[.string { data := #[] }, .string { data := #[] }] 23)
  have HR := Lib.hid hr'
  have HL := Lib.hid hb
  have HE := Lib.hid (hE.below hb)
  clear hr' hb hE hp hl1 hl2 hr hq hn0 hn1
  go_enter Tryz.func207, Tryz.ntmps207
  go_wp2_with fail
  refine (T1.out _ HE.out.tab).mono ?_
  rintro e W1 ⟨rfl, hb⟩
  replace HR := Lib.hid (keep_block HR.out hb)
  replace HL := Lib.hid (HL.out.trans (hb.mono HL.out.size))
  clear hb
  go_wp2_with fail
  refine (T2.out _).mono ?_
  rintro e W2 ⟨rfl, hb⟩
  replace HR := Lib.hid (keep_block HR.out hb)
  replace HL := Lib.hid (HL.out.trans (hb.mono HL.out.size))
  clear hb
  obtain ⟨⟨r0, r1⟩, rf0, rf1⟩ := two_at HR.out
  obtain ⟨nb, e0, e1⟩ := frac_end (x := .string (numS r)) (y := .string (denS r)) HR.out HL.out (by omega)
  go_wp2
  refine bodyPost_ret (v := .agg #[.string (numS r), .string (denS r)]) (by simp [results, Tryz.results207, go_sem, e0, e1]) rfl ⟨rfl, nb⟩

end Go.Proofs.YtphfefmlappidaaGreatDoor.Num.Fy

/- package fmoney: six cells in a block (the terms of a loan); what a function gives at values. No conditions. -/
namespace Go.Proofs.YtphfefmlappidaaGreatDoor.Num.Fy
open Go.RowKit Go.Lib Num

def Six (W : World) (b : Nat) (x0 x1 x2 x3 x4 x5 : Value) : Prop :=
  (W.cell? ⟨b, 0, none⟩ = some x0 ∧ W.cell? ⟨b, 1, none⟩ = some x1 ∧ W.cell? ⟨b, 2, none⟩ = some x2 ∧ W.cell? ⟨b, 3, none⟩ = some x3 ∧ W.cell? ⟨b, 4, none⟩ = some x4 ∧ W.cell? ⟨b, 5, none⟩ = some x5) ∧
  W.frozen? ⟨b, 0, none⟩ = false ∧ W.frozen? ⟨b, 1, none⟩ = false ∧ W.frozen? ⟨b, 2, none⟩ = false ∧ W.frozen? ⟨b, 3, none⟩ = false ∧ W.frozen? ⟨b, 4, none⟩ = false ∧ W.frozen? ⟨b, 5, none⟩ = false
theorem six_at {W : World} {b : Nat} {x0 x1 x2 x3 x4 x5 : Value} {T : TypeId} (h : W.heap[b]? = some (.cells #[x0, x1, x2, x3, x4, x5] T (0, 0))) : Six W b x0 x1 x2 x3 x4 x5 :=
  ⟨⟨Lib.cell_of_heap h 0, Lib.cell_of_heap h 1, Lib.cell_of_heap h 2, Lib.cell_of_heap h 3, Lib.cell_of_heap h 4, Lib.cell_of_heap h 5⟩,
   by rw [Lib.frozen_of_heap h 0], by rw [Lib.frozen_of_heap h 1], by rw [Lib.frozen_of_heap h 2], by rw [Lib.frozen_of_heap h 3], by rw [Lib.frozen_of_heap h 4], by rw [Lib.frozen_of_heap h 5]⟩
theorem set6_at {W : World} {b : Nat} {x0 x1 x2 x3 x4 x5 : Value} {T : TypeId} (h : W.heap[b]? = some (.cells #[x0, x1, x2, x3, x4, x5] T (0, 0))) (y0 y1 y2 y3 y4 y5 : Value) :
    ((((((W.setCell ⟨b, 0, none⟩ y0).setCell ⟨b, 1, none⟩ y1).setCell ⟨b, 2, none⟩ y2).setCell ⟨b, 3, none⟩ y3).setCell ⟨b, 4, none⟩ y4).setCell ⟨b, 5, none⟩ y5).heap[b]? = some (.cells #[y0, y1, y2, y3, y4, y5] T (0, 0)) := by
  have := heap_setCell_at (heap_setCell_at (heap_setCell_at (heap_setCell_at (heap_setCell_at (heap_setCell_at h 0 y0) 1 y1) 2 y2) 3 y3) 4 y4) 5 y5
  rw [this]; rfl
theorem set6_other (W : World) (b : Nat) (y0 y1 y2 y3 y4 y5 : Value) {k : Nat} (hk : k ≠ b) : ((((((W.setCell ⟨b, 0, none⟩ y0).setCell ⟨b, 1, none⟩ y1).setCell ⟨b, 2, none⟩ y2).setCell ⟨b, 3, none⟩ y3).setCell ⟨b, 4, none⟩ y4).setCell ⟨b, 5, none⟩ y5).heap[k]? = W.heap[k]? :=
  ((((((Below.heap_setCell _ ⟨b, 5, none⟩ y5 k hk).trans (Below.heap_setCell _ ⟨b, 4, none⟩ y4 k hk)).trans (Below.heap_setCell _ ⟨b, 3, none⟩ y3 k hk)).trans (Below.heap_setCell _ ⟨b, 2, none⟩ y2 k hk)).trans (Below.heap_setCell _ ⟨b, 1, none⟩ y1 k hk)).trans (Below.heap_setCell _ ⟨b, 0, none⟩ y0 k hk))
theorem put6_below {B G : Nat} (h : B ≤ G) (W : World) (y0 y1 y2 y3 y4 y5 : Value) : Below B W ((((((W.setCell ⟨G, 0, none⟩ y0).setCell ⟨G, 1, none⟩ y1).setCell ⟨G, 2, none⟩ y2).setCell ⟨G, 3, none⟩ y3).setCell ⟨G, 4, none⟩ y4).setCell ⟨G, 5, none⟩ y5) :=
  ((((((Below.refl _ _).setCell (p := ⟨G, 0, none⟩) h _).setCell (p := ⟨G, 1, none⟩) h _).setCell (p := ⟨G, 2, none⟩) h _).setCell (p := ⟨G, 3, none⟩) h _).setCell (p := ⟨G, 4, none⟩) h _).setCell (p := ⟨G, 5, none⟩) h _
theorem set45_at {W : World} {b : Nat} {x0 x1 x2 x3 x4 x5 : Value} {T : TypeId} (h : W.heap[b]? = some (.cells #[x0, x1, x2, x3, x4, x5] T (0, 0))) (x y : Value) :
    ((W.setCell ⟨b, 4, none⟩ x).setCell ⟨b, 5, none⟩ y).heap[b]? = some (.cells #[x0, x1, x2, x3, x, y] T (0, 0)) := by
  have := heap_setCell_at (heap_setCell_at h 4 x) 5 y
  rw [this]; rfl
theorem set45_other (W : World) (b : Nat) (x y : Value) {k : Nat} (hk : k ≠ b) : ((W.setCell ⟨b, 4, none⟩ x).setCell ⟨b, 5, none⟩ y).heap[k]? = W.heap[k]? :=
  (Below.heap_setCell _ ⟨b, 5, none⟩ y k hk).trans (Below.heap_setCell _ ⟨b, 4, none⟩ x k hk)
theorem put45_below {B G : Nat} (h : B ≤ G) (W : World) (x y : Value) : Below B W ((W.setCell ⟨G, 4, none⟩ x).setCell ⟨G, 5, none⟩ y) :=
  ((Below.refl _ _).setCell (p := ⟨G, 4, none⟩) h _).setCell (p := ⟨G, 5, none⟩) h _

/-- a block from before, in a region that draws its order -/
theorem old_of {nd : Nat → Nat → Bool} {n : Nat} {ks : List RK} {w : World} {row : Option Nat} {listed : Array Bool} {vs : List Value} {W : World} (hF : Fs nd n ks w row listed vs W) {i g st : Nat} {z f : Array Value} {T : TypeId} (hi : ks[i]? = some (.box (some g) z f T st)) (hn : On n listed i) :
    vs.getD i undef = .pointer (some ⟨g, 0, none⟩) ∧ w.heap.size ≤ g ∧ W.heap[g]? = some (.cells (if listed.getD st false = true then f else z) T (0, 0)) := by
  obtain ⟨G, e, hg, h1, h2⟩ := hF.get i _ hi hn
  have := hg _ rfl
  subst this
  exact ⟨e, h1, h2⟩
theorem eqi {i k : Nat} (h : i < k + 1) (g : k ≤ i) : i = k := Nat.le_antisymm (Nat.le_of_lt_succ h) g
set_option linter.defProp false in
def layL := And.intro @layT_some (And.intro @layT_none (And.intro @layT_nil (And.intro (@List.setIfInBounds_toArray Value) (And.intro (@List.set_cons_zero Value) (@List.set_cons_succ Value)))))
theorem same_one (p : Rat) (W : World) : Calls Tryz.prog 14 #[.agg #[.int .i64 1, .string (numS p), .string (denS p), .string { data := #[] }, .bool false, .int .i64 0, .int .i64 0, .int .i64 0, .slice none 0 0], .agg #[.int .i64 1, .string (numS p), .string (denS p), .string { data := #[] }, .bool false, .int .i64 0, .int .i64 0, .int .i64 0, .slice none 0 0]] W fun e w' => e = .returned (.bool true) ∧ Below W.heap.size W w' := by
  refine (same_num p p W).mono ?_
  rintro e w' ⟨rfl, h⟩
  exact ⟨by rw [decide_eq_true rfl], h⟩
/-- what a function gives at values -/
def Fun1 (f : FuncId) (a v : Value) : Prop := ∀ W, EnvY W → Calls Tryz.prog f #[a] W fun e w' => e = .returned v ∧ Below W.heap.size W w'
def Fun2 (f : FuncId) (a b v : Value) : Prop := ∀ W, EnvY W → Calls Tryz.prog f #[a, b] W fun e w' => e = .returned v ∧ Below W.heap.size W w'
def Fun3 (f : FuncId) (a b c v : Value) : Prop := ∀ W, EnvY W → Calls Tryz.prog f #[a, b, c] W fun e w' => e = .returned v ∧ Below W.heap.size W w'
def Fun6 (f : FuncId) (a b c d g h v : Value) : Prop := ∀ W, EnvY W → Calls Tryz.prog f #[a, b, c, d, g, h] W fun e w' => e = .returned v ∧ Below W.heap.size W w'
end Go.Proofs.YtphfefmlappidaaGreatDoor.Num.Fy

/- package fmoney's table of functions: how it lies as a map. No conditions. -/
namespace Go.Proofs.YtphfefmlappidaaGreatDoor.Num.Fy
open Go.RowKit Go.Lib Go.MapKept Num

attribute [local go_sem] run_store_func
/-- a function value that wraps the row's function, or is it -/
def RowFn (w : World) (v : Value) (r : Row) : Prop :=
  if r.num then ∃ e, v = .func (.func 201) #[] #[.pointer (some ⟨e, 0, none⟩)] ∧ w.cell? ⟨e, 0, none⟩ = some (.func (.func r.fn) #[] #[])
  else v = .func (.func r.fn) #[] #[]
/-- an entry of the table as it lies in the map -/
def EntryAt (w : World) (x : MapEntry) (r : Row) : Prop := x.key = .string r.name ∧ ∃ v, x.val = .agg #[.int .i64 r.least, .int .i64 r.most, .string r.kinds, v] ∧ RowFn w v r
/-- block b is a map with just these rows -/
def TableAt (w : World) (b : Nat) (l : List Row) : Prop :=
  ∃ es clock, w.heap[b]? = some (.map es clock) ∧ es.size = l.length ∧ ∀ i (h : i < l.length) (h' : i < es.size), EntryAt w es[i] l[i]

theorem RowFn.mono {w w' : World} {v : Value} {r : Row} (h : RowFn w v r) (hc : ∀ (p : Addr) (x : Value), w.cell? p = some x → w'.cell? p = some x) : RowFn w' v r := by
  unfold RowFn at h ⊢
  split
  · rename_i hn
    rw [if_pos hn] at h
    obtain ⟨e, h1, h2⟩ := h
    exact ⟨e, h1, hc _ _ h2⟩
  · rename_i hn
    rw [if_neg hn] at h
    exact h
theorem EntryAt.mono {w w' : World} {x : MapEntry} {r : Row} (h : EntryAt w x r) (hc : ∀ (p : Addr) (x : Value), w.cell? p = some x → w'.cell? p = some x) : EntryAt w' x r :=
  let ⟨hk, v, hv, hr⟩ := h; ⟨hk, v, hv, hr.mono hc⟩
theorem TableAt.below {w w' : World} {b : Nat} {l : List Row} (h : TableAt w b l) (hb : Below w.heap.size w w') : TableAt w' b l := by
  obtain ⟨es, clock, hm, hs, he⟩ := h
  exact ⟨es, clock, keep_block hm hb, hs, fun i hi hi' => (he i hi hi').mono fun p x hp => cell_below hp hb⟩
theorem TableAt.made (w : World) : TableAt (w.alloc (.map #[] 0)) w.heap.size [] := ⟨#[], 0, heap_alloc_new w _, rfl, fun i hi => absurd hi (Nat.not_lt_zero _)⟩
theorem TableAt.store {w : World} {b mt kt et : Nat} {l : List Row} (h : TableAt w b l) (r : Row) (v : Value) (hr : RowFn w v r) (hf : Fresh r.name l) (hm : Tryz.prog.underlying mt = some (.map kt et)) (hk : Tryz.prog.underlying kt = some .string) :
    ∃ w', (Instr.mapUpdate mt (.map (some b)) (.string r.name) (.agg #[.int .i64 r.least, .int .i64 r.most, .string r.kinds, v])).run Tryz.prog w = .ok () w' ∧ TableAt w' b (l ++ [r]) ∧ w.grownBy w' (some b) := by
  obtain ⟨es, clock, hb, hs, he⟩ := h
  have hall : ∀ x ∈ es.toList, ∃ t, x.key = .string t ∧ (r.name == t) = false := by
    intro x hx
    obtain ⟨i, hi, rfl⟩ := List.getElem_of_mem hx
    have hi' : i < es.size := by simpa using hi
    have hil : i < l.length := by omega
    have := (he i hil hi').1
    exact ⟨l[i].name, by simpa using this, hf l[i] (List.getElem_mem hil)⟩
  have hfind := findNow_fresh r.name es.toList 0 hall
  have hc : (Instr.checkKey false 10000 kt (.string r.name)).run Tryz.prog w = .ok () w := MapKept.run_checkKey (k := .string r.name) hk (by simp [IsKey]) false 9999
  refine ⟨putMap w b (.map (es.push { key := .string r.name, val := .agg #[.int .i64 r.least, .int .i64 r.most, .string r.kinds, v], born := clock }) (clock + 1)), ?_, ?_, putMap_grown hb⟩
  · simp [Instr.mapUpdate, run_underlying hm, MapKept.run_getObj_map hb, hc, MapKept.run_findKey hk hfind, MapKept.run_setObj_map _ hb, Result.andThen, putMap]
  · refine ⟨_, _, (heap_set hb).1, by simp [hs], fun i hi hi' => ?_⟩
    by_cases hlt : i < es.size
    · have hil : i < l.length := by omega
      rw [Array.getElem_push_lt hlt, List.getElem_append_left hil]
      exact (he i hil hlt).mono (putMap_cell hb)
    · have : i = es.size := by simp at hi'; omega
      subst this
      rw [Array.getElem_push_eq]
      have hl : (l ++ [r])[es.size] = r := by simp [hs]
      rw [hl]
      exact ⟨rfl, v, rfl, hr.mono (putMap_cell hb)⟩
/-- the row at a name -/
theorem TableAt.look {w : World} {b mt kt et : Nat} {l : List Row} (h : TableAt w b l) (i : Nat) (hi : i < l.length) (hf : ∀ j (hj : j < i), (l[i].name == (l[j]'(by omega)).name) = false) (hm : Tryz.prog.underlying mt = some (.map kt et)) (hk : Tryz.prog.underlying kt = some .string) :
    ∃ v, RowFn w v l[i] ∧ (Instr.lookup mt (.map (some b)) (.string l[i].name) true).run Tryz.prog w = .ok (.tuple #[.agg #[.int .i64 l[i].least, .int .i64 l[i].most, .string l[i].kinds, v], .bool true]) w := by
  obtain ⟨es, clock, hb, hs, he⟩ := h
  have hi' : i < es.size := by omega
  obtain ⟨hkey, v, hv, hr⟩ := he i hi hi'
  refine ⟨v, hr, ?_⟩
  have hat : es.toList[i]? = some es[i] := by simp [hi']
  have hfind := findNow_at l[i].name es.toList i 0 es[i] hat hkey (fun j y hj hy => by
    have hjl : j < l.length := by omega
    have hje : j < es.size := by omega
    have hy' : es[j] = y := by simpa [hje] using hy
    exact ⟨l[j].name, by rw [← hy']; exact (he j hjl hje).1, hf j hj⟩)
  rw [Nat.zero_add, hv] at hfind
  have hc : (Instr.checkKey es.isEmpty 10000 kt (.string l[i].name)).run Tryz.prog w = .ok () w := MapKept.run_checkKey (k := .string l[i].name) hk (by simp [IsKey]) _ 9999
  simp [Instr.lookup, run_underlying hm, MapKept.run_getObj_map hb, hc, MapKept.run_findKey hk hfind, Result.andThen]

section
variable {ops : Array Oper} {rest : List Oper} {o : Oper} {a : Act} {Q : Exit → Act → World → Prop}
theorem wpList_insert_row (w : World) (hg : o.guard = none) (m x u : Operand) (t : TypeId) (hop : o.op = Op.insert t m x u ∨ o.op = Op.mapUpdate t m x u) {b kt et : Nat} {l : List Row} (hm : a.eval m = .map (some b)) (h : TableAt w b l) (r : Row) (v : Value) (hx : a.eval x = .string r.name) (hv : a.eval u = .agg #[.int .i64 r.least, .int .i64 r.most, .string r.kinds, v]) (hr : RowFn w v r) (hf : Fresh r.name l) (ht : Tryz.prog.underlying t = some (.map kt et)) (hk : Tryz.prog.underlying kt = some .string)
    (hK : ∀ w', TableAt w' b (l ++ [r]) → w.grownBy w' (some b) → wpList Tryz.prog ops Q rest (a.put o.dst undef) w') :
    wpList Tryz.prog ops Q (o :: rest) a w := by
  refine wpList_plain hg fun K' hK' => ?_
  obtain ⟨w', hrun, r1, r2⟩ := h.store r v hr hf ht hk
  unfold Oper.wp
  rcases hop with hop | hop
  · simp [execOp, hop, hm, hx, hv, hrun, Result.andThen]
    exact hK' _ _ (hK w' r1 r2)
  · simp [execOp, hop, hm, hx, hv, hrun, Result.andThen]
    exact hK' _ _ (hK w' r1 r2)
end

end Go.Proofs.YtphfefmlappidaaGreatDoor.Num.Fy
