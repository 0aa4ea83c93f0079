/- Numbers as texts of digits, fractions, values and the functions of fmath: contracts of the program's functions, joined from smaller texts. Conditions stand at each theorem. -/
import Derived.Test.YtkbhlkinlcmgoaaGreatDoorPlaA
import Derived.Test.YtkbhlkinlcmgoaaGreatDoorNumE
import Derived.Test.YtkbhlkinlcmgoaaGreatDoorNumG
import Derived.Test.YtkbhlkinlcmgoaaGreatDoorPlrA
import Derived.Test.YtkbhlkinlcmgoaaGreatDoorNumH

/- Loans: plain laws, no program. No conditions. -/
namespace Go.Proofs.YtkbhlkinlcmgoaaGreatDoor.Num

def growR (r : Rat) (n : Nat) : Rat := (1 + r) ^ n
def sumR0 (r : Rat) (n : Nat) : Rat := if r = 0 then (n : Rat) else (growR r n - 1) / r
def sumR (r : Rat) (n : Nat) (e : Bool) : Rat := if e then sumR0 r n * (1 + r) else sumR0 r n
def payR (r : Rat) (n : Nat) (e : Bool) (v w : Rat) : Rat := -((v * growR r n + w) / sumR r n e)
theorem grow_zero (r : Rat) : growR r 0 = 1 := Rat.pow_zero _
theorem grow_succ (r : Rat) (n : Nat) : growR r (n + 1) = growR r n * (1 + r) := Rat.pow_succ _ _
/-- bounds -/
theorem Sm.pow {q : Rat} {A B : Nat} (h : Sm q A B) (n : Nat) : Sm (q ^ n) (A ^ n) (B ^ n) := by
  induction n with
  | zero =>
    have h1 : Sm ((1 : Int) : Rat) 1 1 := Sm.int 1 (by decide)
    rw [Rat.pow_zero]; exact h1.mono (by simp) (by simp)
  | succ n ih => rw [Rat.pow_succ, Nat.pow_succ, Nat.pow_succ]; exact ih.mul h
end Go.Proofs.YtkbhlkinlcmgoaaGreatDoor.Num

/- Loans of at most 24 periods: how long the fractions on the way are. Plain: no program. -/
namespace Go.Proofs.YtkbhlkinlcmgoaaGreatDoor.Num

end Go.Proofs.YtkbhlkinlcmgoaaGreatDoor.Num

/- Loans of at most 24 periods: everything on the way has fewer than 300 digits. Plain: no program. -/
namespace Go.Proofs.YtkbhlkinlcmgoaaGreatDoor.Num

/-- at most 10^k over 10^l -/
def SD (q : Rat) (k l : Nat) : Prop := Sm q (10 ^ k) (10 ^ l)
theorem SD.mono {q : Rat} {k l k' l' : Nat} (h : SD q k l) (h1 : k ≤ k') (h2 : l ≤ l') : SD q k' l' :=
  Sm.mono h (Nat.pow_le_pow_right (by decide) h1) (Nat.pow_le_pow_right (by decide) h2)
set_option exponentiation.threshold 400 in
theorem SD.fits {q : Rat} {k l : Nat} (h : SD q k l) (h1 : k < 300) (h2 : l < 300) : fits q = true :=
  Sm.fits h (Nat.pow_lt_pow_right (by decide) h1) (Nat.pow_lt_pow_right (by decide) h2)
theorem SD.neg {q : Rat} {k l : Nat} (h : SD q k l) : SD (-q) k l := Sm.neg h
theorem SD.mul {p q : Rat} {k l m o : Nat} (h : SD p k l) (g : SD q m o) : SD (p * q) (k + m) (l + o) := by
  unfold SD
  rw [Nat.pow_add, Nat.pow_add]
  exact Sm.mul h g
theorem SD.div {p q : Rat} {k l m o : Nat} (h : SD p k l) (g : SD q m o) (h0 : q ≠ 0) : SD (p / q) (k + o) (l + m) := by
  unfold SD
  rw [Nat.pow_add, Nat.pow_add]
  exact Sm.div h g h0
theorem ten_add {a b c : Nat} (h1 : a ≤ c) (h2 : b ≤ c) : 10 ^ a + 10 ^ b ≤ 10 ^ (c + 1) := by
  have e1 : 10 ^ a ≤ 10 ^ c := Nat.pow_le_pow_right (by decide) h1
  have e2 : 10 ^ b ≤ 10 ^ c := Nat.pow_le_pow_right (by decide) h2
  rw [Nat.pow_succ]
  omega
theorem SD.add {p q : Rat} {k l m o c : Nat} (h : SD p k l) (g : SD q m o) (h1 : k + o ≤ c) (h2 : m + l ≤ c) : SD (p + q) (c + 1) (l + o) := by
  refine Sm.mono (Sm.add h g) ?_ ?_
  · rw [← Nat.pow_add, ← Nat.pow_add]
    exact ten_add h1 h2
  · rw [← Nat.pow_add]
    exact Nat.le_refl _
theorem SD.sub {p q : Rat} {k l m o c : Nat} (h : SD p k l) (g : SD q m o) (h1 : k + o ≤ c) (h2 : m + l ≤ c) : SD (p - q) (c + 1) (l + o) := by
  rw [Rat.sub_eq_add_neg]
  exact SD.add h (SD.neg g) h1 h2
theorem sd_of {q : Rat} {A B k l : Nat} (h : Sm q A B) (h1 : A ≤ 10 ^ k) (h2 : B ≤ 10 ^ l) : SD q k l := Sm.mono h h1 h2
theorem Sm.up_den {q : Rat} {A B : Nat} (h : Sm q A B) : up q ≤ A ∧ q.den ≤ B := by
  obtain ⟨a, b, hb, rfl, x, y⟩ := h
  have e := ratio_of a (b : Int) (by omega)
  rw [Rat.intCast_natCast] at e
  rw [← e]
  constructor
  · have hu : up (ratOf (Num.neg (a : Rat) != Num.neg (((b : Nat) : Int) : Rat)) a.natAbs ((b : Nat) : Int).natAbs) ≤ A := by
      rw [ratOf_up _ _ (by omega)]; exact Nat.le_trans (Nat.div_le_self _ _) x
    rw [Rat.intCast_natCast] at hu
    exact hu
  · have hd : (ratOf (Num.neg (a : Rat) != Num.neg (((b : Nat) : Int) : Rat)) a.natAbs ((b : Nat) : Int).natAbs).den ≤ B := by
      rw [ratOf_den _ _ (by omega)]; exact Nat.le_trans (Nat.div_le_self _ _) (by simpa using y)
    rw [Rat.intCast_natCast] at hd
    exact hd
section
variable {a V U : Int} {n k : Nat} {e : Bool} (a0 : -9 ≤ a) (a1 : a ≤ 30) (hV : V.natAbs ≤ 1000000) (hU : U.natAbs ≤ 1000000)
include a0 a1
include hV
include hU
omit hU
end
end Go.Proofs.YtkbhlkinlcmgoaaGreatDoor.Num

/- package fmoney's variable one, beside the tables. No conditions. -/
namespace Go.Proofs.YtkbhlkinlcmgoaaGreatDoor.Num.Fy
open Go.RowKit Go.Lib Num

/-- the tables lie as they are laid, and one is 1 -/
structure EnvY (w : World) : Prop where
  e : Env w
  one : ∀ i, i < 2 → w.cell? ⟨0, i, none⟩ = some (.string { data := #[49] })
theorem past_one {b : Nat} (h : Past b) : 0 < b := Nat.lt_of_le_of_lt (by decide) h.1
theorem EnvY.below {w w' : World} (h : EnvY w) (hb : Below w.heap.size w w') : EnvY w' :=
  ⟨h.e.below hb, fun i hi => (hb.cell (p := ⟨0, i, none⟩) (past_one h.e.room)).trans (h.one i hi)⟩
theorem EnvY.kept {w w' : World} {b : Nat} (h : EnvY w) (hg : w.grownBy w' (some b)) (hb : Past b) : EnvY w' :=
  ⟨h.e.kept hg hb, fun i hi => kept_cell (h.one i hi) hg (Nat.ne_of_lt (past_one hb))⟩
theorem EnvY.of {w w' : World} (h : EnvY w) (hb : Below w.heap.size w w') (g : Env w') : EnvY w' := ⟨g, (h.below hb).one⟩
theorem numS_one : numS 1 = { data := #[49] } := by decide +kernel
theorem denS_one : denS 1 = { data := #[49] } := by decide +kernel
theorem one_is : fracV 1 = .agg #[.string { data := #[49] }, .string { data := #[49] }] := by rw [fracV_is, numS_one, denS_one]
end Go.Proofs.YtkbhlkinlcmgoaaGreatDoor.Num.Fy

/- package fmoney: its small functions over fractions. Conditions: nothing is too long. -/
namespace Go.Proofs.YtkbhlkinlcmgoaaGreatDoor.Num.Fy
open Go.RowKit Go.Lib Num

set_option maxHeartbeats 4000000 in
set_option maxRecDepth 100000 in
theorem y_add (p q : Rat) (w : World) (hp : fits p = true) (hq : fits q = true) (hr : fits (p + q) = true) (hE : Env w) : Calls Tryz.prog 79 #[fracV p, fracV q] w fun e w' => e = .returned (fracV (p + q)) ∧ Below w.heap.size w w' := by
  have T1 := Lib.hid (fun W g => add_any p q W hp hq g)
  have T2 := Lib.hid (fun W => must_ok (p + q) W)
  rw [wroteV_ok hr] at T1
  rw [fracV_is (p + q)] at T1 T2 ⊢
  rw [fracV_is p, fracV_is q] at T1 ⊢
  obtain ⟨_, _, hr', hb⟩ := three_new w (.cells #[.string (numS p), .string (denS p)] 24) (.cells #[.string (numS q), .string (denS q)] 24) (.cells #[.string { data := #[] }, .string { data := #[] }] 24)
  have HR := Lib.hid hr'
  have HL := Lib.hid hb
  have HE := Lib.hid (hE.below hb)
  clear hr' hb hE hp hq hr
  go_enter Tryz.func79, Tryz.ntmps79
  go_wp2_with fail
  refine (T1.out _ HE.out.tab).mono ?_
  rintro e W1 ⟨rfl, hb⟩
  replace HR := Lib.hid (keep_block HR.out hb)
  replace HL := Lib.hid (HL.out.trans (hb.mono HL.out.size))
  clear hb
  go_wp2_with fail
  refine (T2.out _).mono ?_
  rintro e W2 ⟨rfl, hb⟩
  replace HR := Lib.hid (keep_block HR.out hb)
  replace HL := Lib.hid (HL.out.trans (hb.mono HL.out.size))
  clear hb
  obtain ⟨⟨r0, r1⟩, rf0, rf1⟩ := two_at HR.out
  obtain ⟨nb, e0, e1⟩ := frac_end (x := .string (numS (p + q))) (y := .string (denS (p + q))) HR.out HL.out (by omega)
  go_wp2
  refine bodyPost_ret (v := .agg #[.string (numS (p + q)), .string (denS (p + q))]) (by simp [results, Tryz.results79, go_sem, e0, e1]) rfl ⟨rfl, nb⟩

set_option maxHeartbeats 4000000 in
set_option maxRecDepth 100000 in
theorem y_sub (p q : Rat) (w : World) (hp : fits p = true) (hq : fits q = true) (hr : fits (p - q) = true) (hE : Env w) : Calls Tryz.prog 94 #[fracV p, fracV q] w fun e w' => e = .returned (fracV (p - q)) ∧ Below w.heap.size w w' := by
  have T1 := Lib.hid (fun W g => sub_any p q W hp hq g)
  have T2 := Lib.hid (fun W => must_ok (p - q) W)
  rw [wroteV_ok hr] at T1
  rw [fracV_is (p - q)] at T1 T2 ⊢
  rw [fracV_is p, fracV_is q] at T1 ⊢
  obtain ⟨_, _, hr', hb⟩ := three_new w (.cells #[.string (numS p), .string (denS p)] 24) (.cells #[.string (numS q), .string (denS q)] 24) (.cells #[.string { data := #[] }, .string { data := #[] }] 24)
  have HR := Lib.hid hr'
  have HL := Lib.hid hb
  have HE := Lib.hid (hE.below hb)
  clear hr' hb hE hp hq hr
  go_enter Tryz.func94, Tryz.ntmps94
  go_wp2_with fail
  refine (T1.out _ HE.out.tab).mono ?_
  rintro e W1 ⟨rfl, hb⟩
  replace HR := Lib.hid (keep_block HR.out hb)
  replace HL := Lib.hid (HL.out.trans (hb.mono HL.out.size))
  clear hb
  go_wp2_with fail
  refine (T2.out _).mono ?_
  rintro e W2 ⟨rfl, hb⟩
  replace HR := Lib.hid (keep_block HR.out hb)
  replace HL := Lib.hid (HL.out.trans (hb.mono HL.out.size))
  clear hb
  obtain ⟨⟨r0, r1⟩, rf0, rf1⟩ := two_at HR.out
  obtain ⟨nb, e0, e1⟩ := frac_end (x := .string (numS (p - q))) (y := .string (denS (p - q))) HR.out HL.out (by omega)
  go_wp2
  refine bodyPost_ret (v := .agg #[.string (numS (p - q)), .string (denS (p - q))]) (by simp [results, Tryz.results94, go_sem, e0, e1]) rfl ⟨rfl, nb⟩

set_option maxHeartbeats 4000000 in
set_option maxRecDepth 100000 in
theorem y_mul (p q : Rat) (w : World) (hp : fits p = true) (hq : fits q = true) (hr : fits (p * q) = true) (hE : Env w) : Calls Tryz.prog 80 #[fracV p, fracV q] w fun e w' => e = .returned (fracV (p * q)) ∧ Below w.heap.size w w' := by
  have T1 := Lib.hid (fun W g => mul_any p q W hp hq g)
  have T2 := Lib.hid (fun W => must_ok (p * q) W)
  rw [wroteV_ok hr] at T1
  rw [fracV_is (p * q)] at T1 T2 ⊢
  rw [fracV_is p, fracV_is q] at T1 ⊢
  obtain ⟨_, _, hr', hb⟩ := three_new w (.cells #[.string (numS p), .string (denS p)] 24) (.cells #[.string (numS q), .string (denS q)] 24) (.cells #[.string { data := #[] }, .string { data := #[] }] 24)
  have HR := Lib.hid hr'
  have HL := Lib.hid hb
  have HE := Lib.hid (hE.below hb)
  clear hr' hb hE hp hq hr
  go_enter Tryz.func80, Tryz.ntmps80
  go_wp2_with fail
  refine (T1.out _ HE.out.tab).mono ?_
  rintro e W1 ⟨rfl, hb⟩
  replace HR := Lib.hid (keep_block HR.out hb)
  replace HL := Lib.hid (HL.out.trans (hb.mono HL.out.size))
  clear hb
  go_wp2_with fail
  refine (T2.out _).mono ?_
  rintro e W2 ⟨rfl, hb⟩
  replace HR := Lib.hid (keep_block HR.out hb)
  replace HL := Lib.hid (HL.out.trans (hb.mono HL.out.size))
  clear hb
  obtain ⟨⟨r0, r1⟩, rf0, rf1⟩ := two_at HR.out
  obtain ⟨nb, e0, e1⟩ := frac_end (x := .string (numS (p * q))) (y := .string (denS (p * q))) HR.out HL.out (by omega)
  go_wp2
  refine bodyPost_ret (v := .agg #[.string (numS (p * q)), .string (denS (p * q))]) (by simp [results, Tryz.results80, go_sem, e0, e1]) rfl ⟨rfl, nb⟩

set_option maxHeartbeats 4000000 in
set_option maxRecDepth 100000 in
theorem y_div (p q : Rat) (w : World) (hp : fits p = true) (hq : fits q = true) (h0 : q ≠ 0) (hr : fits (p / q) = true) (hE : Env w) : Calls Tryz.prog 78 #[fracV p, fracV q] w fun e w' => e = .returned (fracV (p / q)) ∧ Below w.heap.size w w' := by
  have T1 := Lib.hid (fun W g => div_any p q W hp hq h0 g)
  have T2 := Lib.hid (fun W => must_ok (p / q) W)
  rw [wroteV_ok hr] at T1
  rw [fracV_is (p / q)] at T1 T2 ⊢
  rw [fracV_is p, fracV_is q] at T1 ⊢
  obtain ⟨_, _, hr', hb⟩ := three_new w (.cells #[.string (numS p), .string (denS p)] 24) (.cells #[.string (numS q), .string (denS q)] 24) (.cells #[.string { data := #[] }, .string { data := #[] }] 24)
  have HR := Lib.hid hr'
  have HL := Lib.hid hb
  have HE := Lib.hid (hE.below hb)
  clear hr' hb hE hp hq hr
  go_enter Tryz.func78, Tryz.ntmps78
  go_wp2_with fail
  refine (T1.out _ HE.out.tab).mono ?_
  rintro e W1 ⟨rfl, hb⟩
  replace HR := Lib.hid (keep_block HR.out hb)
  replace HL := Lib.hid (HL.out.trans (hb.mono HL.out.size))
  clear hb
  go_wp2_with fail
  refine (T2.out _).mono ?_
  rintro e W2 ⟨rfl, hb⟩
  replace HR := Lib.hid (keep_block HR.out hb)
  replace HL := Lib.hid (HL.out.trans (hb.mono HL.out.size))
  clear hb
  obtain ⟨⟨r0, r1⟩, rf0, rf1⟩ := two_at HR.out
  obtain ⟨nb, e0, e1⟩ := frac_end (x := .string (numS (p / q))) (y := .string (denS (p / q))) HR.out HL.out (by omega)
  go_wp2
  refine bodyPost_ret (v := .agg #[.string (numS (p / q)), .string (denS (p / q))]) (by simp [results, Tryz.results78, go_sem, e0, e1]) rfl ⟨rfl, nb⟩

set_option maxHeartbeats 4000000 in
set_option maxRecDepth 100000 in
theorem y_neg (q : Rat) (w : World) (hq : fits q = true) (hE : Env w) : Calls Tryz.prog 77 #[fracV q] w fun e w' => e = .returned (fracV (-q)) ∧ Below w.heap.size w w' := by
  have T1 := Lib.hid (fun W g => neg_any q W hq g)
  have T2 := Lib.hid (fun W => must_ok (-q) W)
  rw [fracV_is (-q)] at T1 T2 ⊢
  rw [fracV_is q] at T1 ⊢
  obtain ⟨_, hr', hb⟩ := two_new w (.cells #[.string (numS q), .string (denS q)] 24) (.cells #[.string { data := #[] }, .string { data := #[] }] 24)
  have HR := Lib.hid hr'
  have HL := Lib.hid hb
  have HE := Lib.hid (hE.below hb)
  clear hr' hb hE
  go_enter Tryz.func77, Tryz.ntmps77
  go_wp2_with fail
  refine (T1.out _ HE.out.tab).mono ?_
  rintro e W1 ⟨rfl, hb⟩
  replace HR := Lib.hid (keep_block HR.out hb)
  replace HL := Lib.hid (HL.out.trans (hb.mono HL.out.size))
  clear hb
  go_wp2_with fail
  refine (T2.out _).mono ?_
  rintro e W2 ⟨rfl, hb⟩
  replace HR := Lib.hid (keep_block HR.out hb)
  replace HL := Lib.hid (HL.out.trans (hb.mono HL.out.size))
  clear hb
  obtain ⟨⟨r0, r1⟩, rf0, rf1⟩ := two_at HR.out
  obtain ⟨nb, e0, e1⟩ := frac_end (x := .string (numS (-q))) (y := .string (denS (-q))) HR.out HL.out (by omega)
  go_wp2
  refine bodyPost_ret (v := .agg #[.string (numS (-q)), .string (denS (-q))]) (by simp [results, Tryz.results77, go_sem, e0, e1]) rfl ⟨rfl, nb⟩

set_option maxHeartbeats 4000000 in
set_option maxRecDepth 100000 in
theorem y_sign (q : Rat) (w : World) (hq : fits q = true) (hE : Env w) : Calls Tryz.prog 198 #[fracV q] w fun e w' => e = .returned (.int .i64 (cmpR q 0)) ∧ Below w.heap.size w w' := by
  have T1 := Lib.hid (fun W g => of_any 0 W (by decide) (by decide) g)
  have T2 := Lib.hid (fun W => compare_q q 0 W hq fits_zero)
  rw [show ((0 : Int) : Rat) = 0 from rfl, fracV_is 0] at T1
  rw [fracV_is q, fracV_is 0] at T2
  rw [fracV_is q]
  obtain ⟨cc, hcc⟩ : ∃ c, cmpR q 0 = c := ⟨_, rfl⟩
  rw [hcc] at T2 ⊢
  have hb : Below w.heap.size w (w.alloc (.cells #[.string (numS q), .string (denS q)] 24)) := (Below.refl _ _).alloc (Nat.le_refl _) _
  have HX := Lib.hid (drew_block (heap_alloc_new w (.cells #[.string (numS q), .string (denS q)] 24)))
  have HL := Lib.hid hb.drew
  have HE := Lib.hid (hE.below hb.drew)
  obtain ⟨W0, hW0⟩ : ∃ W0, w.alloc (.cells #[.string (numS q), .string (denS q)] 24) = W0 := ⟨_, rfl⟩
  rw [hW0] at HX HL HE
  have HW := Lib.hid hW0
  clear hb hE hq hcc hW0
  go_enter Tryz.func198, Tryz.ntmps198
  go_wp2_with fail
  rw [HW.out]
  go_region_held3 (fun W => W.cell? ⟨w.heap.size, 0, none⟩ = some (.string (numS q)) ∧ W.cell? ⟨w.heap.size, 1, none⟩ = some (.string (denS q)))
    (first | (with_reducible exact cells2 HX.out) | fail)
    ((first | (go_at_call 7; (with_reducible refine (T1.out _ HE.out.tab).mono ?_); rintro e W1 ⟨rfl, hb⟩; replace HX := Lib.hid (keep_block HX.out hb); replace HL := Lib.hid (HL.out.trans (hb.mono HL.out.size)); clear hb) | (go_at_call 214; (with_reducible refine (T2.out _).mono ?_); rintro e W2 ⟨rfl, hb⟩; replace HX := Lib.hid (keep_block HX.out hb); replace HL := Lib.hid (HL.out.trans (hb.mono HL.out.size)); clear hb)))
  all_goals
    go_wp2
    go_ret
    exact ⟨rfl, HL.out⟩

set_option maxHeartbeats 2000000 in
set_option maxRecDepth 100000 in
theorem y_within (n lo hi : Int) (w : World) (h1 : lo ≤ n) (h2 : n ≤ hi) : Calls Tryz.prog 101 #[.int .i64 n, .int .i64 lo, .int .i64 hi] w fun e w' => e = .returned (.tuple #[]) ∧ w' = w := by
  have d1 : decide (n < lo) = false := decide_eq_false (by omega)
  have d2 : decide (hi < n) = false := decide_eq_false (by omega)
  go_enter Tryz.func101, Tryz.ntmps101
  go_wp2_with fail
  go_end0
  exact ⟨rfl, rfl⟩

set_option maxHeartbeats 4000000 in
set_option maxRecDepth 100000 in
theorem y_power (q r : Rat) (n : Int) (w : World) (hq : fits q = true) (hr : fits r = true) (hn0 : 0 ≤ n) (hn1 : n ≤ 1000000) (hp : powR q n = r) (hl1 : up q ^ n.natAbs < 10 ^ 300) (hl2 : q.den ^ n.natAbs < 10 ^ 300) (hE : Env w) : Calls Tryz.prog 197 #[fracV q, .int .i64 n] w fun e w' => e = .returned (fracV r) ∧ Below w.heap.size w w' := by
  have T1 := Lib.hid (fun W g => powerQ_any q n W hq (fun h => absurd h (by omega)) (by omega) hn1 (limbs34 hl1) (limbs34 hl2) g)
  rw [hp, wroteV_ok hr] at T1
  have T2 := Lib.hid (fun W => must_ok r W)
  rw [fracV_is r] at T1 T2 ⊢
  rw [fracV_is q] at T1 ⊢
  obtain ⟨_, hr', hb⟩ := two_new w (.cells #[.string (numS q), .string (denS q)] 24) (.cells #[.string { data := #[] }, .string { data := #[] }] 24)
  have HR := Lib.hid hr'
  have HL := Lib.hid hb
  have HE := Lib.hid (hE.below hb)
  clear hr' hb hE hp hl1 hl2 hr hq hn0 hn1
  go_enter Tryz.func197, Tryz.ntmps197
  go_wp2_with fail
  refine (T1.out _ HE.out.tab).mono ?_
  rintro e W1 ⟨rfl, hb⟩
  replace HR := Lib.hid (keep_block HR.out hb)
  replace HL := Lib.hid (HL.out.trans (hb.mono HL.out.size))
  clear hb
  go_wp2_with fail
  refine (T2.out _).mono ?_
  rintro e W2 ⟨rfl, hb⟩
  replace HR := Lib.hid (keep_block HR.out hb)
  replace HL := Lib.hid (HL.out.trans (hb.mono HL.out.size))
  clear hb
  obtain ⟨⟨r0, r1⟩, rf0, rf1⟩ := two_at HR.out
  obtain ⟨nb, e0, e1⟩ := frac_end (x := .string (numS r)) (y := .string (denS r)) HR.out HL.out (by omega)
  go_wp2
  refine bodyPost_ret (v := .agg #[.string (numS r), .string (denS r)]) (by simp [results, Tryz.results197, go_sem, e0, e1]) rfl ⟨rfl, nb⟩

end Go.Proofs.YtkbhlkinlcmgoaaGreatDoor.Num.Fy

/- package fmoney: six cells in a block (the terms of a loan); what a function gives at values. No conditions. -/
namespace Go.Proofs.YtkbhlkinlcmgoaaGreatDoor.Num.Fy
open Go.RowKit Go.Lib Num

def Six (W : World) (b : Nat) (x0 x1 x2 x3 x4 x5 : Value) : Prop :=
  (W.cell? ⟨b, 0, none⟩ = some x0 ∧ W.cell? ⟨b, 1, none⟩ = some x1 ∧ W.cell? ⟨b, 2, none⟩ = some x2 ∧ W.cell? ⟨b, 3, none⟩ = some x3 ∧ W.cell? ⟨b, 4, none⟩ = some x4 ∧ W.cell? ⟨b, 5, none⟩ = some x5) ∧
  W.frozen? ⟨b, 0, none⟩ = false ∧ W.frozen? ⟨b, 1, none⟩ = false ∧ W.frozen? ⟨b, 2, none⟩ = false ∧ W.frozen? ⟨b, 3, none⟩ = false ∧ W.frozen? ⟨b, 4, none⟩ = false ∧ W.frozen? ⟨b, 5, none⟩ = false
theorem six_at {W : World} {b : Nat} {x0 x1 x2 x3 x4 x5 : Value} {T : TypeId} (h : W.heap[b]? = some (.cells #[x0, x1, x2, x3, x4, x5] T (0, 0))) : Six W b x0 x1 x2 x3 x4 x5 :=
  ⟨⟨Lib.cell_of_heap h 0, Lib.cell_of_heap h 1, Lib.cell_of_heap h 2, Lib.cell_of_heap h 3, Lib.cell_of_heap h 4, Lib.cell_of_heap h 5⟩,
   by rw [Lib.frozen_of_heap h 0], by rw [Lib.frozen_of_heap h 1], by rw [Lib.frozen_of_heap h 2], by rw [Lib.frozen_of_heap h 3], by rw [Lib.frozen_of_heap h 4], by rw [Lib.frozen_of_heap h 5]⟩
theorem set6_at {W : World} {b : Nat} {x0 x1 x2 x3 x4 x5 : Value} {T : TypeId} (h : W.heap[b]? = some (.cells #[x0, x1, x2, x3, x4, x5] T (0, 0))) (y0 y1 y2 y3 y4 y5 : Value) :
    ((((((W.setCell ⟨b, 0, none⟩ y0).setCell ⟨b, 1, none⟩ y1).setCell ⟨b, 2, none⟩ y2).setCell ⟨b, 3, none⟩ y3).setCell ⟨b, 4, none⟩ y4).setCell ⟨b, 5, none⟩ y5).heap[b]? = some (.cells #[y0, y1, y2, y3, y4, y5] T (0, 0)) := by
  have := heap_setCell_at (heap_setCell_at (heap_setCell_at (heap_setCell_at (heap_setCell_at (heap_setCell_at h 0 y0) 1 y1) 2 y2) 3 y3) 4 y4) 5 y5
  rw [this]; rfl
theorem set6_other (W : World) (b : Nat) (y0 y1 y2 y3 y4 y5 : Value) {k : Nat} (hk : k ≠ b) : ((((((W.setCell ⟨b, 0, none⟩ y0).setCell ⟨b, 1, none⟩ y1).setCell ⟨b, 2, none⟩ y2).setCell ⟨b, 3, none⟩ y3).setCell ⟨b, 4, none⟩ y4).setCell ⟨b, 5, none⟩ y5).heap[k]? = W.heap[k]? :=
  ((((((Below.heap_setCell _ ⟨b, 5, none⟩ y5 k hk).trans (Below.heap_setCell _ ⟨b, 4, none⟩ y4 k hk)).trans (Below.heap_setCell _ ⟨b, 3, none⟩ y3 k hk)).trans (Below.heap_setCell _ ⟨b, 2, none⟩ y2 k hk)).trans (Below.heap_setCell _ ⟨b, 1, none⟩ y1 k hk)).trans (Below.heap_setCell _ ⟨b, 0, none⟩ y0 k hk))
theorem put6_below {B G : Nat} (h : B ≤ G) (W : World) (y0 y1 y2 y3 y4 y5 : Value) : Below B W ((((((W.setCell ⟨G, 0, none⟩ y0).setCell ⟨G, 1, none⟩ y1).setCell ⟨G, 2, none⟩ y2).setCell ⟨G, 3, none⟩ y3).setCell ⟨G, 4, none⟩ y4).setCell ⟨G, 5, none⟩ y5) :=
  ((((((Below.refl _ _).setCell (p := ⟨G, 0, none⟩) h _).setCell (p := ⟨G, 1, none⟩) h _).setCell (p := ⟨G, 2, none⟩) h _).setCell (p := ⟨G, 3, none⟩) h _).setCell (p := ⟨G, 4, none⟩) h _).setCell (p := ⟨G, 5, none⟩) h _
theorem set45_at {W : World} {b : Nat} {x0 x1 x2 x3 x4 x5 : Value} {T : TypeId} (h : W.heap[b]? = some (.cells #[x0, x1, x2, x3, x4, x5] T (0, 0))) (x y : Value) :
    ((W.setCell ⟨b, 4, none⟩ x).setCell ⟨b, 5, none⟩ y).heap[b]? = some (.cells #[x0, x1, x2, x3, x, y] T (0, 0)) := by
  have := heap_setCell_at (heap_setCell_at h 4 x) 5 y
  rw [this]; rfl
theorem set45_other (W : World) (b : Nat) (x y : Value) {k : Nat} (hk : k ≠ b) : ((W.setCell ⟨b, 4, none⟩ x).setCell ⟨b, 5, none⟩ y).heap[k]? = W.heap[k]? :=
  (Below.heap_setCell _ ⟨b, 5, none⟩ y k hk).trans (Below.heap_setCell _ ⟨b, 4, none⟩ x k hk)
theorem put45_below {B G : Nat} (h : B ≤ G) (W : World) (x y : Value) : Below B W ((W.setCell ⟨G, 4, none⟩ x).setCell ⟨G, 5, none⟩ y) :=
  ((Below.refl _ _).setCell (p := ⟨G, 4, none⟩) h _).setCell (p := ⟨G, 5, none⟩) h _

/-- a block from before, in a region that draws its order -/
theorem old_of {nd : Nat → Nat → Bool} {n : Nat} {ks : List RK} {w : World} {row : Option Nat} {listed : Array Bool} {vs : List Value} {W : World} (hF : Fs nd n ks w row listed vs W) {i g st : Nat} {z f : Array Value} {T : TypeId} (hi : ks[i]? = some (.box (some g) z f T st)) (hn : On n listed i) :
    vs.getD i undef = .pointer (some ⟨g, 0, none⟩) ∧ w.heap.size ≤ g ∧ W.heap[g]? = some (.cells (if listed.getD st false = true then f else z) T (0, 0)) := by
  obtain ⟨G, e, hg, h1, h2⟩ := hF.get i _ hi hn
  have := hg _ rfl
  subst this
  exact ⟨e, h1, h2⟩
theorem eqi {i k : Nat} (h : i < k + 1) (g : k ≤ i) : i = k := Nat.le_antisymm (Nat.le_of_lt_succ h) g
set_option linter.defProp false in
def layL := And.intro @layT_some (And.intro @layT_none (And.intro @layT_nil (And.intro (@List.setIfInBounds_toArray Value) (And.intro (@List.set_cons_zero Value) (@List.set_cons_succ Value)))))
theorem same_one (p : Rat) (W : World) : Calls Tryz.prog 11 #[.agg #[.int .i64 1, .string (numS p), .string (denS p), .string { data := #[] }, .bool false, .int .i64 0, .int .i64 0, .int .i64 0, .slice none 0 0], .agg #[.int .i64 1, .string (numS p), .string (denS p), .string { data := #[] }, .bool false, .int .i64 0, .int .i64 0, .int .i64 0, .slice none 0 0]] W fun e w' => e = .returned (.bool true) ∧ Below W.heap.size W w' := by
  refine (same_num p p W).mono ?_
  rintro e w' ⟨rfl, h⟩
  exact ⟨by rw [decide_eq_true rfl], h⟩
/-- what a function gives at values -/
def Fun1 (f : FuncId) (a v : Value) : Prop := ∀ W, EnvY W → Calls Tryz.prog f #[a] W fun e w' => e = .returned v ∧ Below W.heap.size W w'
def Fun2 (f : FuncId) (a b v : Value) : Prop := ∀ W, EnvY W → Calls Tryz.prog f #[a, b] W fun e w' => e = .returned v ∧ Below W.heap.size W w'
def Fun3 (f : FuncId) (a b c v : Value) : Prop := ∀ W, EnvY W → Calls Tryz.prog f #[a, b, c] W fun e w' => e = .returned v ∧ Below W.heap.size W w'
end Go.Proofs.YtkbhlkinlcmgoaaGreatDoor.Num.Fy
