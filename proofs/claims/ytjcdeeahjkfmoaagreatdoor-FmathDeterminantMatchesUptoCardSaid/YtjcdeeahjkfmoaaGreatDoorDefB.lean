/- Contracts of the program's functions, joined from smaller texts. Conditions stand at each theorem. -/
import Derived.Test.YtjcdeeahjkfmoaaGreatDoorDefA
import Derived.Test.YtjcdeeahjkfmoaaGreatDoorNumF
import Derived.Deep.RegionHeld3
import Derived.Deep.DeepCutAuto
import Derived.Lib.SlicesS
import Derived.Test.YtjcdeeahjkfmoaaGreatDoorDebB
set_option linter.unusedVariables false
set_option linter.unusedSimpArgs false
set_option maxRecDepth 100000
set_option maxHeartbeats 8000000
namespace Go.Proofs.YtjcdeeahjkfmoaaGreatDoor.Num
open Go.RowKit Go.Lib
def NumItems (vs : List Val) (qs : List Rat) : Prop := vs.length = qs.length ∧ ∀ i (h : i < vs.length), ∃ A C, vs[i] = ⟨1, numS (qs.getD i 0), denS (qs.getD i 0), ⟨#[]⟩, false, 0, 0, 0, A, 0, C⟩
def smallQ (q : Rat) : Prop := fits q = true ∧ up q < 10 ^ 30 ∧ q.den < 10 ^ 30
theorem used_step {used k : Nat} (h : used < 32) (hk : k < 5) : used ||| 2 ^ k < 32 := by
 have h2 : 2 ^ k < 2 ^ 5 := Nat.pow_lt_pow_right (by decide) hk
 exact Nat.or_lt_two_pow (n := 5) h h2
theorem bit_and : ∀ used : Nat, used < 32 → ∀ k : Nat, k < 5 → (bits BinOp.and IntKind.i64 ((used : Int) / 2 ^ k) 1 == 1) = used.testBit k := by decide
theorem bit_or : ∀ used : Nat, used < 32 → ∀ k : Nat, k < 5 → bits BinOp.or IntKind.i64 (used : Int) (IntKind.i64.wrap (2 ^ k)) = ((used ||| 2 ^ k : Nat) : Int) := by decide
theorem rq_stored {w W : World} {R : Nat} {q : Rat} {k : Nat} {m m0 : Bool} {A A' A1 A2 : Option Addr} {L C L' C' L1 C1 L2 C2 : Nat} (hb : Below w.heap.size w W) (hge : w.heap.size ≤ R) (hR : W.heap[R]? = some (.cells #[.bool m0, .slice A1 L1 C1, .slice A2 L2 C2] 59 (0, 0))) (h : RQ W (.agg #[.bool m, .slice A L C, .slice A' L' C']) q k)
  {W' : World} (hW : ((W.setCell ⟨R, 0, none⟩ (.bool m)).setCell ⟨R, 1, none⟩ (.slice A L C)).setCell ⟨R, 2, none⟩ (.slice A' L' C') = W') :
  W'.heap[R]? = some (.cells #[.bool m, .slice A L C, .slice A' L' C'] 59 (0, 0)) ∧ RQ W' (.agg #[.bool m, .slice A L C, .slice A' L' C']) q k ∧ Below w.heap.size w W' := by
 obtain ⟨m', a, b', ⟨A0, L0, C0, A0', L0', C0', e, p1, p2⟩, h2⟩ := h
 cases e
 subst hW
 exact ⟨set3_at hR _ _ _, ⟨_, a, b', ⟨_, _, _, _, _, _, rfl, p1.set3 hR _ _ _, p2.set3 hR _ _ _⟩, h2⟩, ((hb.setCell (p := ⟨R, 0, none⟩) hge _).setCell (p := ⟨R, 1, none⟩) hge _).setCell (p := ⟨R, 2, none⟩) hge _⟩
structure DetI (w : World) (S : Nat) (q : Rat) (B : Nat) (wx : World) : Prop where
 low : Below w.heap.size w wx
 ge : w.heap.size < S
 res : wx.heap[w.heap.size]? = some (.cells #[.bool false, .slice none 0 0, .slice none 0 0] 59 (0, 0))
 s : ∃ m A L C A' L' C', wx.heap[S]? = some (.cells #[.bool m, .slice A L C, .slice A' L' C'] 59 (0, 0)) ∧ RQ wx (.agg #[.bool m, .slice A L C, .slice A' L' C']) q B
theorem DetI.step {w : World} {S : Nat} {q : Rat} {B : Nat} {wx w' : World} (h : DetI w S q B wx) (hb : Below wx.heap.size wx w') : DetI w S q B w' := by
 obtain ⟨m, A, L, C, A', L', C', h1, h2⟩ := h.s
 exact ⟨h.low.trans (hb.mono h.low.size), h.ge, keep_block h.res hb, ⟨m, A, L, C, A', L', C', keep_block h1 hb, h2.below hb⟩⟩
def sgI (b : Bool) : Int := if b then -1 else 1
theorem sgI_rat (b : Bool) : ((sgI b : Int) : Rat) = sg b := by cases b <;> rfl
theorem sgI_not (b : Bool) : -sgI b = sgI (!b) := by cases b <;> rfl
theorem sgI_small (b : Bool) : (sgI b).natAbs < 10 ^ 1 := by cases b <;> decide
theorem sgI_in (b : Bool) : -1 ≤ sgI b ∧ sgI b ≤ 1 := by cases b <;> decide
theorem numS_ne {q : Rat} (h : q ≠ 0) : numS q ≠ ⟨#[48]⟩ := by
 intro e
 apply h
 have h1 : numText q = [48] := by
  have := congrArg (fun s : ByteArray => s.data.toList) e
  simpa [numS] using this
 have hn : neg q = false := by
  cases hq : neg q with
  | false => rfl
  | true => unfold numText at h1; rw [if_pos hq] at h1; cases h1
 unfold numText at h1
 rw [if_neg (by rw [hn]; decide), ← decDigits_zero] at h1
 have h2 := decDigits_inj h1
 have e := ratOf_self q
 rw [h2, ratOf_zero] at e
 exact e.symm
def DC (f k : Nat) : Nat := 1 + k * (DB f + 33)
theorem DC_le {f k : Nat} (hk : k ≤ 5) : DC f k ≤ DB (f + 1) := by
 show 1 + k * (DB f + 33) ≤ 5 * (DB f + 40)
 have : k * (DB f + 33) ≤ 5 * (DB f + 33) := Nat.mul_le_mul_right _ hk
 omega
set_option linter.unusedVariables false in
def detKs10 (S X g o L C n row used k us f : Nat) (sA sA' : Option Addr) (sL sC sL' sC' : Nat) (b sm : Bool) (q dq sq : Rat) (xn xd : ByteArray) : List RK :=
 [.pure (.agg #[.bool sm, .slice sA sL sC, .slice sA' sL' sC']),
  .pure (.int .i64 (sgI b)),
  .any (fun v W => ∃ (m : Bool) (A : Option Addr) (L C : Nat) (A' : Option Addr) (L' C' : Nat), v = .agg #[.bool m, .slice A L C, .slice A' L' C'] ∧ RQ W (.agg #[.bool m, .slice A L C, .slice A' L' C']) (((sgI b : Int) : Rat)) (1)),
  .pure (.pointer (some ⟨X, 1, none⟩)),
  .pure (.agg #[.string xn, .string xd]),
  .any (fun v W => ∃ (m : Bool) (A : Option Addr) (L C : Nat) (A' : Option Addr) (L' C' : Nat), v = .agg #[.bool m, .slice A L C, .slice A' L' C'] ∧ RQ W (.agg #[.bool m, .slice A L C, .slice A' L' C']) (q) (30)),
  .any (fun v W => ∃ (m : Bool) (A : Option Addr) (L C : Nat) (A' : Option Addr) (L' C' : Nat), v = .agg #[.bool m, .slice A L C, .slice A' L' C'] ∧ RQ W (.agg #[.bool m, .slice A L C, .slice A' L' C']) (((sgI b : Int) : Rat) * q) (1 + 30)),
  .pure (.slice (some ⟨g, o, none⟩) L C),
  .pure (.int .i64 (n : Int)),
  .pure (.int .i64 (row : Int)),
  .pure (.int .i64 ((row : Int) + 1)),
  .pure (.int .i64 (used : Int)),
  .pure (.int .i64 (k : Int)),
  .pure (.int .i64 (IntKind.i64.wrap (2 ^ k))),
  .pure (.int .i64 (us : Int)),
  .any (fun v W => ∃ (m : Bool) (A : Option Addr) (L C : Nat) (A' : Option Addr) (L' C' : Nat), v = .agg #[.bool m, .slice A L C, .slice A' L' C'] ∧ RQ W (.agg #[.bool m, .slice A L C, .slice A' L' C']) (dq) (DB f)),
  .any (fun v W => ∃ (m : Bool) (A : Option Addr) (L C : Nat) (A' : Option Addr) (L' C' : Nat), v = .agg #[.bool m, .slice A L C, .slice A' L' C'] ∧ RQ W (.agg #[.bool m, .slice A L C, .slice A' L' C']) (((sgI b : Int) : Rat) * q * dq) (31 + DB f)),
  .any (fun v W => ∃ (m : Bool) (A : Option Addr) (L C : Nat) (A' : Option Addr) (L' C' : Nat), v = .agg #[.bool m, .slice A L C, .slice A' L' C'] ∧ RQ W (.agg #[.bool m, .slice A L C, .slice A' L' C']) (sq + ((sgI b : Int) : Rat) * q * dq) (DC f k + (31 + DB f) + 1)),
  .put 0]
section
variable (vs : List Val) (qs : List Rat) (n L g o C : Nat) (M : Nat → Nat → Rat) (h1 : 1 ≤ n) (h5 : n ≤ 5) (hL : n * n = L) (hI : NumItems vs qs) (hql : qs.length = L) (hM : ∀ r c, r < n → c < n → qs.getD (r * n + c) 0 = M r c) (hq : ∀ r c, r < n → c < n → smallQ (M r c))
include h1 h5 hL hI hql hM hq
omit h1 h5 hL hI hql hM hq in
theorem rdet_zero (used : Nat) (w : World) :
  Calls Tryz.prog 71 #[.slice (some ⟨g, o, none⟩) L C, .int .i64 (n : Int), .int .i64 (n : Int), .int .i64 (used : Int)] w (RQRet w 1 1) := by
 have T0 := hid (fun W => rq_whole 1 1 W (by decide) (by decide) (by decide))
 obtain ⟨hR, hb⟩ := rone_new w (.cells #[.bool false, .slice none 0 0, .slice none 0 0] 59)
 have HR := hid hR
 have HL := hid hb
 clear hR hb
 have e1 : ((n : Int) == (n : Int)) = true := by simp
 go_enter Tryz.func71, Tryz.ntmps71
 go_wp2_with fail
 refine (T0.out _).mono ?_
 rintro e w1 ⟨m, A1, L1, C1, A2, L2, C2, rfl, hq, hb⟩
 replace HR := hid (keep_block HR.out hb)
 replace HL := hid (HL.out.trans (hb.mono HL.out.size))
 have HS := hid (rq_stored HL.out (Nat.le_refl _) HR.out hq rfl)
 obtain ⟨⟨e0, e2, e3⟩, _⟩ := three_at HS.out.1
 obtain ⟨⟨r0, r1, r2⟩, rf0, rf1, rf2⟩ := three_at HR.out
 clear hb hq
 go_wp2
 refine bodyPost_ret (v := .agg #[.bool m, .slice A1 L1 C1, .slice A2 L2 C2]) (by simp [results, Tryz.results71, go_sem, e0, e2, e3]) rfl ⟨m, A1, L1, C1, A2, L2, C2, rfl, HS.out.2.1, HS.out.2.2⟩
attribute [local irreducible] wpOp
set_option linter.unusedVariables false in
theorem rdet_any : ∀ (f row used : Nat) (w : World), row + f = n → used < 32 → ValsAt w g o vs →
  Calls Tryz.prog 71 #[.slice (some ⟨g, o, none⟩) L C, .int .i64 (n : Int), .int .i64 (row : Int), .int .i64 (used : Int)] w (RQRet w (lap M n f row used) (DB f)) := by
 intro f
 induction f with
 | zero =>
  intro row used w hr hu hv
  obtain rfl : row = n := by omega
  exact rdet_zero row L g o C used w
 | succ f ih =>
 intro row used w hr hu hv
 have hrow : row < n := by omega
 have hD5 := DB_le (k := f) (by omega)
 have hD6 := DB_le (k := f + 1) (by omega)
 have IH := hid (fun used' W hu' hv' => ih (row + 1) used' W (by omega) hu' hv')
 have T0 := hid (fun W => rq_whole 0 1 W (by decide) (by decide) (by decide))
 have TW := hid (fun b W => rq_whole (sgI b) 1 W (sgI_small b) (by decide) (by decide))
 have TQ := hid (fun c hc W => rq_ratOf (M row c) 30 W (hq row c hrow hc).1 (hq row c hrow hc).2.1 (hq row c hrow hc).2.2)
 have TM1 := hid (fun (b : Bool) c v u W h h' => rq_mul v u (((sgI b : Int) : Rat)) (M row c) 1 30 W h h' (by decide) (by decide))
 have TM2 := hid (fun p q v u W h h' => rq_mul v u p q 31 (DB f) W h h' (by decide) (by omega))
 have TA := hid (fun p q k (hk : k ≤ 5) v u W h h' => rq_add v u p q (DC f k) (31 + DB f) W h h' (by have := DC_le (f := f) hk; omega) (by omega))
 have TF := hid (fun q v W h => rq_frac v q (DB (f + 1)) W h (by omega))
 have HIT := hid (fun (k : Nat) (hk : k < n) => show ∃ (hi : row * n + k < vs.length) (A : Option Addr) (C' : Nat), vs[row * n + k] = ⟨1, numS (M row k), denS (M row k), ⟨#[]⟩, false, 0, 0, 0, A, 0, C'⟩ from by
  have hlt : row * n + k < n * n := by
   have := Nat.mul_le_mul_right n (show row + 1 ≤ n by omega)
   rw [Nat.succ_mul] at this
   omega
  have hi : row * n + k < vs.length := by rw [hI.1, hql, ← hL]; exact hlt
  obtain ⟨A, C', e⟩ := hI.2 _ hi
  rw [hM row k hrow hk] at e
  exact ⟨hi, A, C', e⟩)
 have HLN := hid hL
 have HV := hid hv
 have HU := hid hu
 have HQ := hid hq
 have HRF := hid hr
 have e1 : ((row : Int) == (n : Int)) = false := by rw [beq_eq_false_iff_ne]; omega
 have hw1 : IntKind.i64.wrap ((row : Int) + 1) = (row : Int) + 1 := IntWalk.i64_in _ (by omega)
 obtain ⟨hR, hb⟩ := rone_new w (.cells #[.bool false, .slice none 0 0, .slice none 0 0] 59)
 have HR := hid hR
 have HL := hid hb
 clear hR hb hI hql hM hq hv hu ih hL hD5 hr
 go_enter Tryz.func71, Tryz.ntmps71
 go_wp2_with fail
 refine (T0.out _).mono ?_
 rintro e w1 ⟨m, A1, L1, C1, A2, L2, C2, rfl, hq, hb⟩
 have HI := hid (show DetI w w1.heap.size 0 (DC f 0) (w1.alloc (.cells #[.bool m, .slice A1 L1 C1, .slice A2 L2 C2] 59)) from by
  have hb2 : Below w1.heap.size w1 (w1.alloc (.cells #[.bool m, .slice A1 L1 C1, .slice A2 L2 C2] 59)) := (Below.refl _ _).alloc (Nat.le_refl _) _
  have hl := HL.out.trans (hb.mono HL.out.size)
  have hR := keep_block HR.out hb
  exact ⟨hl.trans (hb2.mono hl.size), heap_lt hR, keep_block hR hb2, ⟨m, A1, L1, C1, A2, L2, C2, heap_alloc_new w1 _, (hq.below hb2).mono (by unfold DC; omega)⟩⟩)
 clear hq hb HR HL
 obtain ⟨S, hS⟩ : ∃ S, w1.heap.size = S := ⟨_, rfl⟩
 rw [hS] at HI
 have HSS := hid hS
 clear hS
 go_wp2_with fail
 rw [HSS.out]
 go_loopg [10, 11, 12, 21] n (fun gh v10 v11 v12 v21 wx => ∃ (k : Nat) (b : Bool), v10 = .int .i64 (sgI b) ∧ v21 = .int .i64 (k : Int) ∧ k ≤ n ∧ gh = n - k ∧ (lapTo M n f row used k).2 = b ∧ DetI w S (lapTo M n f row used k).1 (DC f k) wx)
 case atStart => exact ⟨0, false, rfl, rfl, Nat.zero_le _, rfl, rfl, HI.out⟩
 case round =>
  clear HI
  obtain ⟨k, b, rfl, rfl, hk, hgk, hbs, hI⟩ := hrel
  have HI := hid hI
  have HB := hid hbs
  clear hI hbs
  by_cases hlt : k < n
  ·have hd1 : decide ((k : Int) < (n : Int)) = true := decide_eq_true (by omega)
   have hd2 : decide (k < n) = true := decide_eq_true hlt
   have hk0 : (0 : Int) ≤ (k : Int) := by omega
   have hk1 : IntKind.i64.wrap ((k : Int) + 1) = (k : Int) + 1 := IntWalk.i64_in _ (by omega)
   obtain ⟨tb, htb⟩ : ∃ z, used.testBit k = z := ⟨_, rfl⟩
   have hbit := bit_and used HU.out k (by omega)
   rw [htb] at hbit
   have HTB := hid htb
   clear htb
   cases tb with
   | true =>
    have HN := hid (show lapTo M n f row used (k + 1) = lapTo M n f row used k by rw [lapTo_succ]; exact lapS_taken HTB.out)
    go_wp2
    go_roundg (n - (k + 1))
    case measure => omega
    case rel => exact ⟨k + 1, b, rfl, by go_num, by omega, rfl, by rw [HN.out]; exact HB.out, by
     rw [HN.out]
     obtain ⟨m', X1, Y1, Z1, X2, Y2, Z2, u1, u2⟩ := HI.out.s
     exact ⟨HI.out.low, HI.out.ge, HI.out.res, ⟨m', X1, Y1, Z1, X2, Y2, Z2, u1, u2.mono (by unfold DC; rw [Nat.succ_mul]; omega)⟩⟩⟩
   | false =>
    obtain ⟨hi, xA, xC, hx⟩ := HIT.out k hlt
    have hcells := (HV.out.below HI.out.low).at (row * n + k) hi
    rw [hx] at hcells
    obtain ⟨p, hp⟩ : ∃ p, row * n = p := ⟨_, rfl⟩
    obtain ⟨j, hj⟩ : ∃ j, p + k = j := ⟨_, rfl⟩
    have hjL : j < L := by
     have h2 := Nat.mul_le_mul_right n (show row + 1 ≤ n by omega)
     rw [Nat.succ_mul] at h2
     have := HLN.out
     omega
    have hL9 : L ≤ 25 := by rw [← HLN.out]; exact Nat.mul_le_mul h5 h5
    have hwm : IntKind.i64.wrap ((row : Int) * (n : Int)) = (p : Int) := by rw [← Int.natCast_mul, hp]; exact IntWalk.i64_in _ (by omega)
    have hwa : IntKind.i64.wrap ((p : Int) + (k : Int)) = (j : Int) := by rw [← hj]; exact IntWalk.i64_in _ (by omega)
    rw [hp, hj] at hcells
    have hj0 : (0 : Int) ≤ (j : Int) := by omega
    have hj1 : (j : Int) < (L : Int) := by omega
    have HMS := hid (HQ.out row k hrow hlt)
    obtain ⟨q, hqq⟩ : ∃ q, M row k = q := ⟨_, rfl⟩
    have HQQ := hid hqq
    have TQ1 := hid (fun W => TQ.out k hlt W)
    have TM := hid (fun v u W h h' => TM1.out b k v u W h h')
    rw [hqq] at hcells TQ1 TM
    rw [fracV_is] at TQ1
    have HZ : Hid (q ≠ 0 → numS q ≠ ⟨#[48]⟩) := hid numS_ne
    have HZ0 : Hid (q = 0 → numS q = ⟨#[48]⟩) := hid (fun h => by rw [h]; exact numS_zero)
    obtain ⟨xn, hxn⟩ : ∃ z, numS q = z := ⟨_, rfl⟩
    obtain ⟨xd, hxd⟩ : ∃ z, denS q = z := ⟨_, rfl⟩
    have hcells : CellsAt wr g (o + j * 9) (.int .i64 1) (.string (numS q)) (.string (denS q)) (.string ⟨#[]⟩) (.bool false) (.int .i64 0) (.int .i64 0) (.int .i64 0) (.slice xA 0 xC) := hcells
    rw [hxn, hxd] at hcells TQ1
    rw [hxn] at HZ HZ0
    obtain ⟨c0, c1, c2, c3, c4, c5, c6, c7, c8⟩ := hcells
    clear hp hj hx hqq hi hxn hxd hjL hL9
    have hbX : Below wr.heap.size wr (wr.alloc (.cells #[.int .i64 1, .string xn, .string xd, .string ⟨#[]⟩, .bool false, .int .i64 0, .int .i64 0, .int .i64 0, .slice xA 0 xC] 32)) := (Below.refl _ _).alloc (Nat.le_refl _) _
    have HX := hid (heap_alloc_new wr (.cells #[.int .i64 1, .string xn, .string xd, .string ⟨#[]⟩, .bool false, .int .i64 0, .int .i64 0, .int .i64 0, .slice xA 0 xC] 32))
    have HI2 := hid (HI.out.step hbX)
    clear hbX HI
    go_upto_region 9 with fail
    obtain ⟨X, hX⟩ : ∃ X, wr.heap.size = X := ⟨_, rfl⟩
    obtain ⟨W2, hW2⟩ : ∃ Z, wr.alloc (.cells #[.int .i64 1, .string xn, .string xd, .string ⟨#[]⟩, .bool false, .int .i64 0, .int .i64 0, .int .i64 0, .slice xA 0 xC] 32) = Z := ⟨_, rfl⟩
    rw [hX, hW2] at HX
    rw [hW2] at HI2 ⊢
    rw [hX]
    clear hX hW2 c0 c1 c2 c3 c4 c5 c6 c7 c8
    by_cases hz : q = 0
    ·have hn := HZ0.out hz
     subst hn
     have HN := hid (show lapTo M n f row used (k + 1) = ((lapTo M n f row used k).1, !(lapTo M n f row used k).2) by rw [lapTo_succ]; exact lapS_zero HTB.out (HQQ.out.trans hz))
     have hng : IntKind.i64.wrap (-(sgI b)) = sgI (!b) := by rw [sgI_not]; exact IntWalk.i64_in _ (by have := sgI_in (!b); omega)
     obtain ⟨⟨x0, x1, x2, x3, x4, x5, x6, x7, x8⟩, _⟩ := nine_at HX.out
     clear hz
     go_wp2
     go_roundg (n - (k + 1))
     case measure => omega
     case rel => exact ⟨k + 1, !b, rfl, by go_num, by omega, rfl, by rw [HN.out, HB.out], by
      rw [HN.out]
      obtain ⟨m', X1, Y1, Z1, X2, Y2, Z2, u1, u2⟩ := HI2.out.s
      exact ⟨HI2.out.low, HI2.out.ge, HI2.out.res, ⟨m', X1, Y1, Z1, X2, Y2, Z2, u1, u2.mono (by unfold DC; rw [Nat.succ_mul]; omega)⟩⟩⟩
    ·have hn := HZ.out hz
     have hn1 : (xn.toList == [48]) = false := by
      have := (Lib.bytes_beq_false_iff xn ⟨#[48]⟩).2 hn
      rwa [show (⟨#[48]⟩ : ByteArray).toList = [48] by rw [ByteArray.toList_eq]] at this
     obtain ⟨⟨x0, x1, x2, x3, x4, x5, x6, x7, x8⟩, _⟩ := nine_at HX.out
     obtain ⟨sm, sA, sL, sC, sA', sL', sC', hs, hsq⟩ := HI2.out.s
     have HS := hid hs
     have HSQ := hid hsq
     have hne : w.heap.size ≠ S := by have := HI2.out.ge; omega
     have HNE := hid hne
     have HGE := hid HI2.out.ge
     have HLO := hid HI2.out.low
     have HRE := hid HI2.out.res
     have hor := bit_or used HU.out k (by omega)
     have hus := used_step HU.out (show k < 5 by omega)
     obtain ⟨us, hus'⟩ : ∃ z, used ||| 2 ^ k = z := ⟨_, rfl⟩
     rw [hus'] at hor hus
     have HUS := hid hus'
     have hrw : ((row + 1 : Nat) : Int) = (row : Int) + 1 := by omega
     have TD := hid (fun W (h : Below w.heap.size w W) => IH.out us W hus (HV.out.below h))
     rw [hrw] at TD
     obtain ⟨dq, hdq⟩ : ∃ z, lap M n f (row + 1) us = z := ⟨_, rfl⟩
     rw [hdq] at TD
     have HDQ := hid hdq
     obtain ⟨sq, hsq'⟩ : ∃ z, (lapTo M n f row used k).1 = z := ⟨_, rfl⟩
     rw [hsq'] at HSQ
     have HSV := hid hsq'
     have hng : IntKind.i64.wrap (-(sgI b)) = sgI (!b) := by rw [sgI_not]; exact IntWalk.i64_in _ (by have := sgI_in (!b); omega)
     clear hz hs hsq hne hus hus' hrw hdq hsq' HI2
     go_wp2_with fail
     clear x0 x1 x2 x3 x4 x5 x6 x7 x8
     go_wp2_with fail
     have hok : okB 19 (detKs10 S X g o L C n row used k us f sA sA' sL sC sL' sC' b sm q dq sq xn xd) = true := by kernel_rfl
     have hla : ∀ (ix : Nat) (kx : RK), (detKs10 S X g o L C n row used k us f sA sA' sL sC sL' sC' b sm q dq sq xn xd)[ix]? = some kx → kx.lasts := by
      intro ix kx hk
      match ix, hk with
      | 0, hk => have hk := Option.some.inj hk; subst hk; exact trivial
      | 1, hk => have hk := Option.some.inj hk; subst hk; exact trivial
      | 2, hk => have hk := Option.some.inj hk; subst hk; exact (fun v W W' ⟨m, A, L, C, A', L', C', e, h⟩ hb => ⟨m, A, L, C, A', L', C', e, h.below hb⟩)
      | 3, hk => have hk := Option.some.inj hk; subst hk; exact trivial
      | 4, hk => have hk := Option.some.inj hk; subst hk; exact trivial
      | 5, hk => have hk := Option.some.inj hk; subst hk; exact (fun v W W' ⟨m, A, L, C, A', L', C', e, h⟩ hb => ⟨m, A, L, C, A', L', C', e, h.below hb⟩)
      | 6, hk => have hk := Option.some.inj hk; subst hk; exact (fun v W W' ⟨m, A, L, C, A', L', C', e, h⟩ hb => ⟨m, A, L, C, A', L', C', e, h.below hb⟩)
      | 7, hk => have hk := Option.some.inj hk; subst hk; exact trivial
      | 8, hk => have hk := Option.some.inj hk; subst hk; exact trivial
      | 9, hk => have hk := Option.some.inj hk; subst hk; exact trivial
      | 10, hk => have hk := Option.some.inj hk; subst hk; exact trivial
      | 11, hk => have hk := Option.some.inj hk; subst hk; exact trivial
      | 12, hk => have hk := Option.some.inj hk; subst hk; exact trivial
      | 13, hk => have hk := Option.some.inj hk; subst hk; exact trivial
      | 14, hk => have hk := Option.some.inj hk; subst hk; exact trivial
      | 15, hk => have hk := Option.some.inj hk; subst hk; exact (fun v W W' ⟨m, A, L, C, A', L', C', e, h⟩ hb => ⟨m, A, L, C, A', L', C', e, h.below hb⟩)
      | 16, hk => have hk := Option.some.inj hk; subst hk; exact (fun v W W' ⟨m, A, L, C, A', L', C', e, h⟩ hb => ⟨m, A, L, C, A', L', C', e, h.below hb⟩)
      | 17, hk => have hk := Option.some.inj hk; subst hk; exact (fun v W W' ⟨m, A, L, C, A', L', C', e, h⟩ hb => ⟨m, A, L, C, A', L', C', e, h.below hb⟩)
      | 18, hk => have hk := Option.some.inj hk; subst hk; exact trivial
      | _ + 19, hk => exact absurd hk (by simp [detKs10])
     refine wp_region_facts_abs (row := none) (w := W2) 18 1 19 [18] (detKs10 S X g o L C n row used k us f sA sA' sL sC sL' sC' b sm q dq sq xn xd) [some 41, some 42, some 43, some 44, some 45, some 46, some 47, some 48, some 49, some 50, some 51, some 52, some 53, some 54, some 55, some 56, some 57, some 58, none] [(9, .pointer (some ⟨S, 0, none⟩)), (10, .int .i64 (sgI b)), (12, .pointer (some ⟨X, 0, none⟩)), (0, .slice (some ⟨g, o, none⟩) L C), (1, .int .i64 (n : Int)), (2, .int .i64 (row : Int)), (3, .int .i64 (used : Int)), (11, .int .i64 (k : Int))] 73 (by kernel_rfl) (by kernel_rfl) (by kernel_rfl) rfl rfl (by decide) rfl (by kernel_rfl) rfl (Nat.le_of_eq rfl) rfl ?ho [u41, u42, u43, u44, u45, u46, u47, u48, u49, u50, u51, u52, u53, u54, u55, u56, u57, u58, undef] ?h00 (Fs.start rfl rfl) ?hs ?hd
     case ho =>
      intro k x hk
      match k, hk with
      | 0, hk => have hk := Option.some.inj hk; subst hk; rfl
      | 1, hk => have hk := Option.some.inj hk; subst hk; rfl
      | 2, hk => have hk := Option.some.inj hk; subst hk; rfl
      | 3, hk => have hk := Option.some.inj hk; subst hk; rfl
      | 4, hk => have hk := Option.some.inj hk; subst hk; rfl
      | 5, hk => have hk := Option.some.inj hk; subst hk; rfl
      | 6, hk => have hk := Option.some.inj hk; subst hk; rfl
      | 7, hk => have hk := Option.some.inj hk; subst hk; rfl
      | _ + 8, hk => exact absurd hk (by simp)
     case h00 => simp only [putO, layL]
     case hs =>
      rintro A listed vs Wr hF hR i hi hun hpre
      obtain ⟨s0, s1, s2, s3, s4, s5, s6, s7, s8, s9, s10, s11, s12, s13, s14, s15, s16, s17, s18, hvs⟩ := exl_of 19 vs (fun l => vs = l) hF.len rfl
      subst hvs
      have hge := Nat.zero_le i
      rcases Nat.lt_or_ge i 9 with hi | hge
      ·rcases Nat.lt_or_ge i 4 with hi | hge
       ·rcases Nat.lt_or_ge i 2 with hi | hge
        ·rcases Nat.lt_or_ge i 1 with hi | hge
         ·obtain rfl := eqi hi hge
          have ro9 : A.tmps[9]? = some (.pointer (some ⟨S, 0, none⟩)) := hR.out 0 _ rfl
          have hcc := (three_at (keep_block HS.out (below_none hF.low))).1
          have cHS0 := hcc.1
          have cHS1 := hcc.2.1
          have cHS2 := hcc.2.2
          clear hcc
          refine step_of ⟨some 41, _, _, _, _, _⟩ rfl (fun K' hK => ?_)
          go_simp
          exact hK.out _ _ ⟨_, hF.pure hok hla hpre rfl (Below.refl _ _), rfl⟩
         obtain rfl := eqi hi hge
         have ro10 : A.tmps[10]? = some (.int .i64 (sgI b)) := hR.out 1 _ rfl
         refine step_of ⟨some 42, _, _, _, _, _⟩ rfl (fun K' hK => ?_)
         go_simp
         exact hK.out _ _ ⟨_, hF.pure hok hla hpre rfl (Below.refl _ _), rfl⟩
        rcases Nat.lt_or_ge i 3 with hi | hge
        ·obtain rfl := eqi hi hge
         have p1 := hpre 1 (by kernel_rfl)
         have e1 : s1 = .int .i64 (sgI b) := hF.get 1 _ rfl (.inr p1)
         subst e1
         have r1 : A.tmps[42]? = some (.int .i64 (sgI b)) := hR.own 1 _ _ rfl rfl
         refine step_of ⟨some 43, _, _, _, _, _⟩ rfl (fun K' hK => ?_)
         go_simp
         go_at_call 29
         (with_reducible refine (TW.out b _).mono ?_)
         rintro e Wq ⟨m2, A2, L2, C2, B2, E2, D2, rfl, hvq, hq⟩
         exact hK.out _ _ ⟨_, hF.any hok hla hpre rfl hq ⟨m2, A2, L2, C2, B2, E2, D2, rfl, hvq⟩, rfl⟩
        obtain rfl := eqi hi hge
        have ro12 : A.tmps[12]? = some (.pointer (some ⟨X, 0, none⟩)) := hR.out 2 _ rfl
        refine step_of ⟨some 44, _, _, _, _, _⟩ rfl (fun K' hK => ?_)
        go_simp
        exact hK.out _ _ ⟨_, hF.pure hok hla hpre rfl (Below.refl _ _), rfl⟩
       rcases Nat.lt_or_ge i 6 with hi | hge
       ·rcases Nat.lt_or_ge i 5 with hi | hge
        ·obtain rfl := eqi hi hge
         have p3 := hpre 3 (by kernel_rfl)
         have e3 : s3 = .pointer (some ⟨X, 1, none⟩) := hF.get 3 _ rfl (.inr p3)
         subst e3
         have r3 : A.tmps[44]? = some (.pointer (some ⟨X, 1, none⟩)) := hR.own 3 _ _ rfl rfl
         have hcc := (nine_at (keep_block HX.out (below_none hF.low))).1
         have cHX0 := hcc.1
         have cHX1 := hcc.2.1
         have cHX2 := hcc.2.2.1
         have cHX3 := hcc.2.2.2.1
         have cHX4 := hcc.2.2.2.2.1
         have cHX5 := hcc.2.2.2.2.2.1
         have cHX6 := hcc.2.2.2.2.2.2.1
         have cHX7 := hcc.2.2.2.2.2.2.2.1
         have cHX8 := hcc.2.2.2.2.2.2.2.2
         clear hcc
         refine step_of ⟨some 45, _, _, _, _, _⟩ rfl (fun K' hK => ?_)
         go_simp
         exact hK.out _ _ ⟨_, hF.pure hok hla hpre rfl (Below.refl _ _), rfl⟩
        obtain rfl := eqi hi hge
        have p4 := hpre 4 (by kernel_rfl)
        have e4 : s4 = .agg #[.string xn, .string xd] := hF.get 4 _ rfl (.inr p4)
        subst e4
        have r4 : A.tmps[45]? = some (.agg #[.string xn, .string xd]) := hR.own 4 _ _ rfl rfl
        refine step_of ⟨some 46, _, _, _, _, _⟩ rfl (fun K' hK => ?_)
        go_simp
        go_at_call 68
        (with_reducible refine (TQ1.out _).mono ?_)
        rintro e Wq ⟨m5, A5, L5, C5, B5, E5, D5, rfl, hvq, hq⟩
        exact hK.out _ _ ⟨_, hF.any hok hla hpre rfl hq ⟨m5, A5, L5, C5, B5, E5, D5, rfl, hvq⟩, rfl⟩
       rcases Nat.lt_or_ge i 7 with hi | hge
       ·obtain rfl := eqi hi hge
        have p2 := hpre 2 (by kernel_rfl)
        obtain ⟨m2, A2, L2, C2, B2, E2, D2, e2, hv2⟩ := hF.get 2 _ rfl (.inr p2)
        replace e2 : s2 = .agg #[.bool m2, .slice A2 L2 C2, .slice B2 E2 D2] := e2
        subst e2
        have r2 : A.tmps[43]? = some (.agg #[.bool m2, .slice A2 L2 C2, .slice B2 E2 D2]) := hR.own 2 _ _ rfl rfl
        have p5 := hpre 5 (by kernel_rfl)
        obtain ⟨m5, A5, L5, C5, B5, E5, D5, e5, hv5⟩ := hF.get 5 _ rfl (.inr p5)
        replace e5 : s5 = .agg #[.bool m5, .slice A5 L5 C5, .slice B5 E5 D5] := e5
        subst e5
        have r5 : A.tmps[46]? = some (.agg #[.bool m5, .slice A5 L5 C5, .slice B5 E5 D5]) := hR.own 5 _ _ rfl rfl
        refine step_of ⟨some 47, _, _, _, _, _⟩ rfl (fun K' hK => ?_)
        go_simp
        go_at_call 40
        (with_reducible refine (TM.out _ _ _ hv2 hv5).mono ?_)
        rintro e Wq ⟨m6, A6, L6, C6, B6, E6, D6, rfl, hvq, hq⟩
        exact hK.out _ _ ⟨_, hF.any hok hla hpre rfl hq ⟨m6, A6, L6, C6, B6, E6, D6, rfl, hvq⟩, rfl⟩
       rcases Nat.lt_or_ge i 8 with hi | hge
       ·obtain rfl := eqi hi hge
        have ro0 : A.tmps[0]? = some (.slice (some ⟨g, o, none⟩) L C) := hR.out 3 _ rfl
        refine step_of ⟨some 48, _, _, _, _, _⟩ rfl (fun K' hK => ?_)
        go_simp
        exact hK.out _ _ ⟨_, hF.pure hok hla hpre rfl (Below.refl _ _), rfl⟩
       obtain rfl := eqi hi hge
       have ro1 : A.tmps[1]? = some (.int .i64 (n : Int)) := hR.out 4 _ rfl
       refine step_of ⟨some 49, _, _, _, _, _⟩ rfl (fun K' hK => ?_)
       go_simp
       exact hK.out _ _ ⟨_, hF.pure hok hla hpre rfl (Below.refl _ _), rfl⟩
      rcases Nat.lt_or_ge i 13 with hi | hge
      ·rcases Nat.lt_or_ge i 11 with hi | hge
       ·rcases Nat.lt_or_ge i 10 with hi | hge
        ·obtain rfl := eqi hi hge
         have ro2 : A.tmps[2]? = some (.int .i64 (row : Int)) := hR.out 5 _ rfl
         refine step_of ⟨some 50, _, _, _, _, _⟩ rfl (fun K' hK => ?_)
         go_simp
         exact hK.out _ _ ⟨_, hF.pure hok hla hpre rfl (Below.refl _ _), rfl⟩
        obtain rfl := eqi hi hge
        have p9 := hpre 9 (by kernel_rfl)
        have e9 : s9 = .int .i64 (row : Int) := hF.get 9 _ rfl (.inr p9)
        subst e9
        have r9 : A.tmps[50]? = some (.int .i64 (row : Int)) := hR.own 9 _ _ rfl rfl
        refine step_of ⟨some 51, _, _, _, _, _⟩ rfl (fun K' hK => ?_)
        go_simp
        exact hK.out _ _ ⟨_, hF.pure hok hla hpre rfl (Below.refl _ _), rfl⟩
       rcases Nat.lt_or_ge i 12 with hi | hge
       ·obtain rfl := eqi hi hge
        have ro3 : A.tmps[3]? = some (.int .i64 (used : Int)) := hR.out 6 _ rfl
        refine step_of ⟨some 52, _, _, _, _, _⟩ rfl (fun K' hK => ?_)
        go_simp
        exact hK.out _ _ ⟨_, hF.pure hok hla hpre rfl (Below.refl _ _), rfl⟩
       obtain rfl := eqi hi hge
       have ro11 : A.tmps[11]? = some (.int .i64 (k : Int)) := hR.out 7 _ rfl
       refine step_of ⟨some 53, _, _, _, _, _⟩ rfl (fun K' hK => ?_)
       go_simp
       exact hK.out _ _ ⟨_, hF.pure hok hla hpre rfl (Below.refl _ _), rfl⟩
      rcases Nat.lt_or_ge i 15 with hi | hge
      ·rcases Nat.lt_or_ge i 14 with hi | hge
       ·obtain rfl := eqi hi hge
        have p12 := hpre 12 (by kernel_rfl)
        have e12 : s12 = .int .i64 (k : Int) := hF.get 12 _ rfl (.inr p12)
        subst e12
        have r12 : A.tmps[53]? = some (.int .i64 (k : Int)) := hR.own 12 _ _ rfl rfl
        refine step_of ⟨some 54, _, _, _, _, _⟩ rfl (fun K' hK => ?_)
        go_simp
        exact hK.out _ _ ⟨_, hF.pure hok hla hpre rfl (Below.refl _ _), rfl⟩
       obtain rfl := eqi hi hge
       have p11 := hpre 11 (by kernel_rfl)
       have e11 : s11 = .int .i64 (used : Int) := hF.get 11 _ rfl (.inr p11)
       subst e11
       have r11 : A.tmps[52]? = some (.int .i64 (used : Int)) := hR.own 11 _ _ rfl rfl
       have p13 := hpre 13 (by kernel_rfl)
       have e13 : s13 = .int .i64 (IntKind.i64.wrap (2 ^ k)) := hF.get 13 _ rfl (.inr p13)
       subst e13
       have r13 : A.tmps[54]? = some (.int .i64 (IntKind.i64.wrap (2 ^ k))) := hR.own 13 _ _ rfl rfl
       refine step_of ⟨some 55, _, _, _, _, _⟩ rfl (fun K' hK => ?_)
       go_simp
       exact hK.out _ _ ⟨_, hF.pure hok hla hpre rfl (Below.refl _ _), rfl⟩
      rcases Nat.lt_or_ge i 16 with hi | hge
      ·obtain rfl := eqi hi hge
       have p7 := hpre 7 (by kernel_rfl)
       have e7 : s7 = .slice (some ⟨g, o, none⟩) L C := hF.get 7 _ rfl (.inr p7)
       subst e7
       have r7 : A.tmps[48]? = some (.slice (some ⟨g, o, none⟩) L C) := hR.own 7 _ _ rfl rfl
       have p8 := hpre 8 (by kernel_rfl)
       have e8 : s8 = .int .i64 (n : Int) := hF.get 8 _ rfl (.inr p8)
       subst e8
       have r8 : A.tmps[49]? = some (.int .i64 (n : Int)) := hR.own 8 _ _ rfl rfl
       have p10 := hpre 10 (by kernel_rfl)
       have e10 : s10 = .int .i64 ((row : Int) + 1) := hF.get 10 _ rfl (.inr p10)
       subst e10
       have r10 : A.tmps[51]? = some (.int .i64 ((row : Int) + 1)) := hR.own 10 _ _ rfl rfl
       have p14 := hpre 14 (by kernel_rfl)
       have e14 : s14 = .int .i64 (us : Int) := hF.get 14 _ rfl (.inr p14)
       subst e14
       have r14 : A.tmps[55]? = some (.int .i64 (us : Int)) := hR.own 14 _ _ rfl rfl
       refine step_of ⟨some 56, _, _, _, _, _⟩ rfl (fun K' hK => ?_)
       go_simp
       go_at_call 71
       (with_reducible refine (TD.out _ (HLO.out.trans ((below_none hF.low).mono HLO.out.size))).mono ?_)
       rintro e Wq ⟨m15, A15, L15, C15, B15, E15, D15, rfl, hvq, hq⟩
       exact hK.out _ _ ⟨_, hF.any hok hla hpre rfl hq ⟨m15, A15, L15, C15, B15, E15, D15, rfl, hvq⟩, rfl⟩
      rcases Nat.lt_or_ge i 17 with hi | hge
      ·obtain rfl := eqi hi hge
       have p6 := hpre 6 (by kernel_rfl)
       obtain ⟨m6, A6, L6, C6, B6, E6, D6, e6, hv6⟩ := hF.get 6 _ rfl (.inr p6)
       replace e6 : s6 = .agg #[.bool m6, .slice A6 L6 C6, .slice B6 E6 D6] := e6
       subst e6
       have r6 : A.tmps[47]? = some (.agg #[.bool m6, .slice A6 L6 C6, .slice B6 E6 D6]) := hR.own 6 _ _ rfl rfl
       have p15 := hpre 15 (by kernel_rfl)
       obtain ⟨m15, A15, L15, C15, B15, E15, D15, e15, hv15⟩ := hF.get 15 _ rfl (.inr p15)
       replace e15 : s15 = .agg #[.bool m15, .slice A15 L15 C15, .slice B15 E15 D15] := e15
       subst e15
       have r15 : A.tmps[56]? = some (.agg #[.bool m15, .slice A15 L15 C15, .slice B15 E15 D15]) := hR.own 15 _ _ rfl rfl
       refine step_of ⟨some 57, _, _, _, _, _⟩ rfl (fun K' hK => ?_)
       go_simp
       go_at_call 40
       (with_reducible refine (TM2.out _ dq _ _ _ hv6 hv15).mono ?_)
       rintro e Wq ⟨m16, A16, L16, C16, B16, E16, D16, rfl, hvq, hq⟩
       exact hK.out _ _ ⟨_, hF.any hok hla hpre rfl hq ⟨m16, A16, L16, C16, B16, E16, D16, rfl, hvq⟩, rfl⟩
      obtain rfl := eqi hi hge
      have p0 := hpre 0 (by kernel_rfl)
      have e0 : s0 = .agg #[.bool sm, .slice sA sL sC, .slice sA' sL' sC'] := hF.get 0 _ rfl (.inr p0)
      subst e0
      have r0 : A.tmps[41]? = some (.agg #[.bool sm, .slice sA sL sC, .slice sA' sL' sC']) := hR.own 0 _ _ rfl rfl
      have p16 := hpre 16 (by kernel_rfl)
      obtain ⟨m16, A16, L16, C16, B16, E16, D16, e16, hv16⟩ := hF.get 16 _ rfl (.inr p16)
      replace e16 : s16 = .agg #[.bool m16, .slice A16 L16 C16, .slice B16 E16 D16] := e16
      subst e16
      have r16 : A.tmps[57]? = some (.agg #[.bool m16, .slice A16 L16 C16, .slice B16 E16 D16]) := hR.own 16 _ _ rfl rfl
      refine step_of ⟨some 58, _, _, _, _, _⟩ rfl (fun K' hK => ?_)
      go_simp
      go_at_call 42
      (with_reducible refine (TA.out sq _ k (by omega) _ _ _ (HSQ.out.below (below_none hF.low)) hv16).mono ?_)
      rintro e Wq ⟨m17, A17, L17, C17, B17, E17, D17, rfl, hvq, hq⟩
      exact hK.out _ _ ⟨_, hF.any hok hla hpre rfl hq ⟨m17, A17, L17, C17, B17, E17, D17, rfl, hvq⟩, rfl⟩
     case hd =>
      rintro listed vs W8 hF hall
      obtain ⟨s0, s1, s2, s3, s4, s5, s6, s7, s8, s9, s10, s11, s12, s13, s14, s15, s16, s17, s18, hvs⟩ := exl_of 19 vs (fun l => vs = l) hF.len rfl
      subst hvs
      obtain ⟨m17, A17, L17, C17, B17, E17, D17, e17, hv17⟩ := hF.get 17 _ rfl (.inr (hall 17 (by decide)))
      replace e17 : s17 = .agg #[.bool m17, .slice A17 L17 C17, .slice B17 E17 D17] := e17
      subst e17
      have HV17 := hid hv17
      clear hv17
      have hq := below_none hF.low
      replace HS := hid (keep_block HS.out hq)
      replace HX := hid (keep_block HX.out hq)
      replace HRE := hid (keep_block HRE.out hq)
      replace HSQ := hid (HSQ.out.below hq)
      replace HLO := hid (HLO.out.trans (hq.mono HLO.out.size))
      clear hq
      clear hF hall hok hla
      simp only [putO, layL]
      obtain ⟨⟨r0, r1, r2⟩, rf0, rf1, rf2⟩ := three_at HS.out
      refine rest_one 18 ⟨none, _, _, _, _, _⟩ rfl (by kernel_rfl) rfl (fun K' hK => ?_)
      go_simp
      refine hK.out _ _ ?_
      refine rest_end ?_
      obtain ⟨W9, hW9⟩ : ∃ Z, ((W8.setCell ⟨S, 0, none⟩ (.bool m17)).setCell ⟨S, 1, none⟩ (.slice A17 L17 C17)).setCell ⟨S, 2, none⟩ (.slice B17 E17 D17) = Z := ⟨_, rfl⟩
      have HQ9 := hid (rq_stored HLO.out (Nat.le_of_lt HGE.out) HS.out HV17.out hW9)
      have HR9 := hid (show W9.heap[w.heap.size]? = some (.cells #[.bool false, .slice none 0 0, .slice none 0 0] 59 (0, 0)) by rw [← hW9]; exact (set3_other W8 S _ _ _ HNE.out).trans HRE.out)
      have HN := hid (show lapTo M n f row used (k + 1) = (sq + (((sgI b : Int) : Rat) * q) * dq, !b) by
       rw [lapTo_succ, lapS_free HTB.out, HSV.out, HB.out, HUS.out, HDQ.out, HQQ.out, ← sgI_rat])
      rw [hW9]
      clear HSQ r0 r1 r2 rf0 rf1 rf2
      go_wp2
      go_roundg (n - (k + 1))
      case measure => omega
      case rel => exact ⟨k + 1, !b, rfl, by go_num, by omega, rfl, by rw [HN.out], by
       rw [HN.out]
       exact ⟨HQ9.out.2.2, HGE.out, HR9.out, ⟨m17, A17, L17, C17, B17, E17, D17, HQ9.out.1, HQ9.out.2.1.mono (by unfold DC; rw [Nat.succ_mul]; omega)⟩⟩⟩
  ·--END
   have hd1 : decide ((k : Int) < (n : Int)) = false := decide_eq_false (by omega)
   have hd2 : decide (k < n) = false := decide_eq_false hlt
   have hkn : k = n := by omega
   rw [hkn] at HI
   have HLA := hid (show (lapTo M n f row used n).1 = lap M n (f + 1) row used from lapTo_all M n f row used)
   rw [HLA.out] at HI
   obtain ⟨qd, hqd⟩ : ∃ z, lap M n (f + 1) row used = z := ⟨_, rfl⟩
   rw [hqd] at HI
   have HQD := hid hqd
   obtain ⟨sm, sA, sL, sC, sA', sL', sC', hs, hsq⟩ := HI.out.s
   have HS := hid hs
   have HSQ := hid (hsq.mono (DC_le (f := f) h5))
   have HNE := hid (show w.heap.size ≠ S by have := HI.out.ge; omega)
   have HLO := hid HI.out.low
   have HRE := hid HI.out.res
   obtain ⟨⟨x0, x1, x2⟩, _⟩ := three_at HS.out
   clear hkn hlt hs hsq HI HLA hqd HB
   go_wp2_with fail
   refine (TF.out qd _ _ HSQ.out).mono ?_
   rintro e w5 ⟨rfl, hb⟩
   replace HS := hid (keep_block HS.out hb)
   replace HRE := hid (keep_block HRE.out hb)
   replace HSQ := hid (HSQ.out.below hb)
   replace HLO := hid (HLO.out.trans (hb.mono HLO.out.size))
   clear hb x0 x1 x2
   by_cases hf : fits qd = true
   ·have he : fracRet qd = .tuple #[.agg #[.string (numS qd), .string (denS qd)], .int .i64 0] := fracRet_fits hf rfl rfl
    rw [he]
    have TR := hid (fun W => rq_ratOf qd (DB (f + 1)) W hf HSQ.out.terms.1 HSQ.out.terms.2)
    rw [fracV_is] at TR
    have hdn : (denS qd).toList ≠ [] := by
     rw [ByteArray.toList_eq]
     show (denText qd).toArray.toList ≠ []
     rw [List.toList_toArray]
     exact decDigits_ne _
    obtain ⟨fn, hfn⟩ : ∃ z, numS qd = z := ⟨_, rfl⟩
    obtain ⟨fd, hfd⟩ : ∃ z, denS qd = z := ⟨_, rfl⟩
    rw [hfn, hfd] at TR ⊢
    rw [hfd] at hdn
    have hd3 : (fd.toList == []) = false := by rw [beq_eq_false_iff_ne]; exact hdn
    have hd4 : fd.toList.isEmpty = false := by rw [List.isEmpty_eq_false_iff]; exact hdn
    have hbF : Below w5.heap.size w5 (w5.alloc (.cells #[.string fn, .string fd] 30)) := (Below.refl _ _).alloc (Nat.le_refl _) _
    have HF := hid (heap_alloc_new w5 (.cells #[.string fn, .string fd] 30))
    replace HRE := hid (keep_block HRE.out hbF)
    replace HLO := hid (HLO.out.trans (hbF.mono HLO.out.size))
    clear hbF hf he hfn hfd hdn HS HSQ
    go_upto_region 14 with fail
    obtain ⟨F0, hF0⟩ : ∃ z, w5.heap.size = z := ⟨_, rfl⟩
    obtain ⟨w6, hw6⟩ : ∃ z, w5.alloc (.cells #[.string fn, .string fd] 30) = z := ⟨_, rfl⟩
    rw [hF0, hw6] at HF
    rw [hw6] at HRE HLO ⊢
    rw [hF0]
    clear hF0 hw6
    obtain ⟨⟨y0, y1⟩, _⟩ := two_at HF.out
    go_wp2_with fail
    refine (TR.out _).mono ?_
    rintro e w7 ⟨m7, A7, L7, C7, B7, E7, D7, rfl, hq7, hb⟩
    replace HRE := hid (keep_block HRE.out hb)
    replace HLO := hid (HLO.out.trans (hb.mono HLO.out.size))
    have HQ7 := hid (rq_stored HLO.out (Nat.le_refl _) HRE.out hq7 rfl)
    obtain ⟨⟨e0, e2, e3⟩, _⟩ := three_at HQ7.out.1
    obtain ⟨⟨r0, r1, r2⟩, rf0, rf1, rf2⟩ := three_at HRE.out
    clear hb hq7 y0 y1
    go_wp2
    refine bodyPost_ret (v := .agg #[.bool m7, .slice A7 L7 C7, .slice B7 E7 D7]) (by simp [results, Tryz.results71, go_sem, e0, e2, e3]) rfl ⟨m7, A7, L7, C7, B7, E7, D7, rfl, by rw [HQD.out]; exact HQ7.out.2.1, HQ7.out.2.2⟩
   ·have he := fracRet_over hf
    rw [he]
    have hbF : Below w5.heap.size w5 (w5.alloc (.cells #[.string ⟨#[]⟩, .string ⟨#[]⟩] 30)) := (Below.refl _ _).alloc (Nat.le_refl _) _
    have HF := hid (heap_alloc_new w5 (.cells #[.string ⟨#[]⟩, .string ⟨#[]⟩] 30))
    replace HRE := hid (keep_block HRE.out hbF)
    replace HS := hid (keep_block HS.out hbF)
    replace HSQ := hid (HSQ.out.below hbF)
    replace HLO := hid (HLO.out.trans (hbF.mono HLO.out.size))
    clear hbF hf he
    go_upto_region 14 with fail
    obtain ⟨F0, hF0⟩ : ∃ z, w5.heap.size = z := ⟨_, rfl⟩
    obtain ⟨w6, hw6⟩ : ∃ z, w5.alloc (.cells #[.string ⟨#[]⟩, .string ⟨#[]⟩] 30) = z := ⟨_, rfl⟩
    rw [hF0, hw6] at HF
    rw [hw6] at HRE HLO HS HSQ ⊢
    rw [hF0]
    clear hF0 hw6
    obtain ⟨⟨y0, y1⟩, _⟩ := two_at HF.out
    have HQ7 := hid (rq_stored HLO.out (Nat.le_refl _) HRE.out HSQ.out rfl)
    obtain ⟨⟨e0, e2, e3⟩, _⟩ := three_at HQ7.out.1
    obtain ⟨⟨r0, r1, r2⟩, rf0, rf1, rf2⟩ := three_at HRE.out
    obtain ⟨⟨x0, x1, x2⟩, _⟩ := three_at HS.out
    go_wp2
    refine bodyPost_ret (v := .agg #[.bool sm, .slice sA sL sC, .slice sA' sL' sC']) (by simp [results, Tryz.results71, go_sem, e0, e2, e3]) rfl ⟨sm, sA, sL, sC, sA', sL', sC', rfl, by rw [HQD.out]; exact HQ7.out.2.1, HQ7.out.2.2⟩
end
end Go.Proofs.YtjcdeeahjkfmoaaGreatDoor.Num
