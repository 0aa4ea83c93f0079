/- Numbers as texts of digits, fractions, values and the functions of fmath: contracts of the program's functions, joined from smaller texts. Conditions stand at each theorem. -/
import Derived.Test.YtkbhlkinlcmgoaaGreatDoorPlmA
import Derived.Test.YtkbhlkinlcmgoaaGreatDoorPlbA
import Derived.Test.YtkbhlkinlcmgoaaGreatDoorPlrA
import Derived.Test.YtkbhlkinlcmgoaaGreatDoorPlbB
import Derived.Test.YtkbhlkinlcmgoaaGreatDoorPlaA

/- package fmoney: what stands while PLAN's function reads its arguments and writes its rows. Conditions: the tables lie as they are laid. -/
namespace Go.Proofs.YtkbhlkinlcmgoaaGreatDoor.Num.Fy
open Go.RowKit Go.Lib Num

/-- the arguments (block b), their values (block g), the result's block -/
structure PgI (w0 : World) (b g C : Nat) (vs : List Val) (i : Nat) (W : World) : Prop where
  args : ArgsAt W b (some ⟨g, 0, none⟩) vs.length C i
  vals : ValsAt W g 0 vs
  res : W.heap[w0.heap.size]? = some (.cells #[.int .i64 0, .string { data := #[] }, .string { data := #[] }, .string { data := #[] }, .bool false, .int .i64 0, .int .i64 0, .int .i64 0, .slice none 0 0] 30 (0, 0))
  env : EnvY W
  low : w0.grownBy W (some b)
  gb : g ≠ b
  gl : g < w0.heap.size
  bl : b < w0.heap.size
  past : Past b
  past0 : Past w0.heap.size
  len : vs.length ≤ 300
theorem PgI.start {w : World} {b g C : Nat} {vs : List Val} (ha : ArgsAt w b (some ⟨g, 0, none⟩) vs.length C 0) (hv : ValsAt w g 0 vs) (h0 : 0 < vs.length) (hl : vs.length ≤ 300) (hne : g ≠ b) (hE : EnvY w) (hP : Past b) :
    PgI w b g C vs 0 (w.alloc (.cells #[.int .i64 0, .string { data := #[] }, .string { data := #[] }, .string { data := #[] }, .bool false, .int .i64 0, .int .i64 0, .int .i64 0, .slice none 0 0] 30)) :=
  have hb : Below w.heap.size w (w.alloc (.cells #[.int .i64 0, .string { data := #[] }, .string { data := #[] }, .string { data := #[] }, .bool false, .int .i64 0, .int .i64 0, .int .i64 0, .slice none 0 0] 30)) := (Below.refl _ _).alloc (Nat.le_refl _) _
  ⟨keep_block ha hb, hv.below hb, heap_alloc_new w _, hE.below hb, kept_below hb, hne, cell_lt (hv.at 0 h0).1, heap_lt ha, hP, hE.e.room, hl⟩
section
variable {w0 W W' : World} {b g C i : Nat} {vs : List Val}
theorem PgI.step (h : PgI w0 b g C vs i W) (hb : Below W.heap.size W W') : PgI w0 b g C vs i W' :=
  ⟨keep_block h.args hb, h.vals.below hb, keep_block h.res hb, h.env.below hb, kept_trans h.low (kept_below hb), h.gb, h.gl, h.bl, h.past, h.past0, h.len⟩
theorem PgI.grow {i' : Nat} (h : PgI w0 b g C vs i W) (ha : ArgsAt W' b (some ⟨g, 0, none⟩) vs.length C i') (hg : W.grownBy W' (some b)) : PgI w0 b g C vs i' W' :=
  ⟨ha, vals_kept h.vals hg h.gb (Nat.lt_of_lt_of_le h.gl h.low.size), kept_block h.res hg (Nat.ne_of_gt h.bl), h.env.kept hg h.past, kept_trans h.low hg, h.gb, h.gl, h.bl, h.past, h.past0, h.len⟩
/-- a block behind the result's is written -/
theorem PgI.kept {r : Nat} (h : PgI w0 b g C vs i W) (hg : W.grownBy W' (some r)) (hr : w0.heap.size < r) : PgI w0 b g C vs i W' := by
  have a1 := h.gl; have a2 := h.bl; have a3 := h.low.size
  refine ⟨kept_block h.args hg (by omega), vals_kept h.vals hg (by omega) (by omega), kept_block h.res hg (by omega), h.env.kept hg ⟨Nat.lt_trans h.past0.1 hr, Nat.lt_trans h.past0.2 hr⟩, ?_, h.gb, h.gl, h.bl, h.past, h.past0, h.len⟩
  exact only_then h.low hg (fun q e => .inr (by injection e; omega))
/-- the next argument is a number -/
theorem PgI.num (q : Rat) (h : PgI w0 b g C vs i W) (hi : i < vs.length) (hv : vs[i] = numVal' q) (hq : fits q = true) :
    Calls Tryz.prog 70 #[.pointer (some ⟨b, 0, none⟩)] W fun e w' => e = .returned (fracV q) ∧ PgI w0 b g C vs (i + 1) w' := by
  have hc := h.vals.at i hi
  rw [hv] at hc
  refine (argNum_any b g 0 vs.length C i q W h.args hi (by have := h.len; omega) h.gb hc hq h.env.e h.past).mono ?_
  rintro e w' ⟨rfl, ha, hg⟩
  exact ⟨rfl, h.grow ha hg⟩
theorem PgI.whole (n : Int) (h : PgI w0 b g C vs i W) (hi : i < vs.length) (hv : vs[i] = numVal' ((n : Int) : Rat)) (hn : n.natAbs ≤ 1000000) :
    Calls Tryz.prog 71 #[.pointer (some ⟨b, 0, none⟩)] W fun e w' => e = .returned (.int .i64 n) ∧ PgI w0 b g C vs (i + 1) w' := by
  have hc := h.vals.at i hi
  rw [hv] at hc
  have hf : (((n : Int) : Rat)).floor = n := Rat.floor_intCast _
  refine (argWhole_any b g 0 vs.length C i ((n : Int) : Rat) W h.args hi (by have := h.len; omega) h.gb hc (fits_int n (by omega)) (by rw [hf]; omega) (by rw [hf]; omega) h.env.e h.past).mono ?_
  rintro e w' ⟨rfl, ha, hg⟩
  exact ⟨by rw [hf], h.grow ha hg⟩
theorem PgI.wholeOr (n d : Int) (h : PgI w0 b g C vs i W) (hi : i < vs.length) (hv : vs[i] = numVal' ((n : Int) : Rat)) (hn : n.natAbs ≤ 1000000) :
    Calls Tryz.prog 73 #[.pointer (some ⟨b, 0, none⟩), .int .i64 d] W fun e w' => e = .returned (.int .i64 n) ∧ PgI w0 b g C vs (i + 1) w' := by
  have hc := h.vals.at i hi
  rw [hv] at hc
  have hf : (((n : Int) : Rat)).floor = n := Rat.floor_intCast _
  refine (wholeOr_some b g 0 vs.length C i ((n : Int) : Rat) d W h.args hi (by have := h.len; omega) h.gb hc (fits_int n (by omega)) (by rw [hf]; omega) (by rw [hf]; omega) h.env.e h.past).mono ?_
  rintro e w' ⟨rfl, ha, hg⟩
  exact ⟨by rw [hf], h.grow ha hg⟩
end
/-- the boxes of PLAN's function: what is owed, the rate, the places, the payment -/
structure PbI (w0 : World) (b g C : Nat) (vs : List Val) (B3 B4 B6 B8 : Nat) (v r P : Rat) (k : Int) (W : World) : Prop where
  arg : PgI w0 b g C vs 4 W
  h3 : W.heap[B3]? = some (.cells #[.string (numS v), .string (denS v)] 24 (0, 0))
  h4 : W.heap[B4]? = some (.cells #[.string (numS r), .string (denS r)] 24 (0, 0))
  h6 : W.heap[B6]? = some (.cells #[.int .i64 k] 3 (0, 0))
  h8 : W.heap[B8]? = some (.cells #[.string (numS P), .string (denS P)] 24 (0, 0))
  l3 : w0.heap.size < B3
  l4 : B3 < B4
  l6 : B4 < B6
  l8 : B6 < B8
section
variable {w0 W W' : World} {b g C B3 B4 B6 B8 : Nat} {vs : List Val} {v r P : Rat} {k : Int}
theorem PbI.step (h : PbI w0 b g C vs B3 B4 B6 B8 v r P k W) (hb : Below W.heap.size W W') : PbI w0 b g C vs B3 B4 B6 B8 v r P k W' :=
  ⟨h.arg.step hb, keep_block h.h3 hb, keep_block h.h4 hb, keep_block h.h6 hb, keep_block h.h8 hb, h.l3, h.l4, h.l6, h.l8⟩
theorem PbI.kept {q : Nat} (h : PbI w0 b g C vs B3 B4 B6 B8 v r P k W) (hg : W.grownBy W' (some q)) (hq : B8 < q) : PbI w0 b g C vs B3 B4 B6 B8 v r P k W' := by
  have a1 := h.l3; have a2 := h.l4; have a3 := h.l6; have a4 := h.l8
  exact ⟨h.arg.kept hg (by omega), kept_block h.h3 hg (by omega), kept_block h.h4 hg (by omega), kept_block h.h6 hg (by omega), kept_block h.h8 hg (by omega), h.l3, h.l4, h.l6, h.l8⟩
/-- what is owed changes -/
theorem PbI.put (h : PbI w0 b g C vs B3 B4 B6 B8 v r P k W) (v' : Rat) : PbI w0 b g C vs B3 B4 B6 B8 v' r P k ((W.setCell ⟨B3, 0, none⟩ (.string (numS v'))).setCell ⟨B3, 1, none⟩ (.string (denS v'))) := by
  have a1 := h.l3; have a2 := h.l4; have a3 := h.l6; have a4 := h.l8
  have hg : W.grownBy ((W.setCell ⟨B3, 0, none⟩ (.string (numS v'))).setCell ⟨B3, 1, none⟩ (.string (denS v'))) (some B3) := only_setCell (p := ⟨B3, 1, none⟩) (only_setCell (p := ⟨B3, 0, none⟩) (kept_below (Below.refl _ _)) (.inl rfl) _) (.inl rfl) _
  exact ⟨h.arg.kept hg a1, set2_at h.h3 _ _, kept_block h.h4 hg (by omega), kept_block h.h6 hg (by omega), kept_block h.h8 hg (by omega), h.l3, h.l4, h.l6, h.l8⟩
end
/-- the row of the items: made behind w7 -/
structure RwB (w7 : World) (v : Value) (done : List Rat) (W : World) : Prop where
  size : w7.heap.size ≤ W.heap.size
  own : W.ownsRow w7.heap.size 30 9 v done.length (flat (numVals done))
section
variable {w7 W W' : World} {v v' : Value} {done : List Rat}
theorem RwB.step (h : RwB w7 v done W) (hb : Below W.heap.size W W') : RwB w7 v done W' :=
  ⟨Nat.le_trans h.size hb.size, h.own.kept (only_of_below hb none) (by cases v.ownBlock <;> simp)⟩
theorem RwB.push {q : Rat} (h : RwB w7 v done W) (ho : W'.ownsRow w7.heap.size 30 9 v' (done.length + 1) (flat (numVals done) ++ (numVal' q).cells)) (hg : W.grownBy W' v.ownBlock) : RwB w7 v' (done ++ [q]) W' :=
  ⟨Nat.le_trans h.size hg.size, by rw [numVals_snoc, List.length_append]; exact ho⟩
theorem RwB.put (h : RwB w7 v done W) (B : Nat) (x y : Value) (hB : B < w7.heap.size) : RwB w7 v done ((W.setCell ⟨B, 0, none⟩ x).setCell ⟨B, 1, none⟩ y) := by
  have hge := owned_lt h.own
  have h1 := ownsRow_setCell_other h.own (a := ⟨B, 0, none⟩) (fun e => by have := hge B e; omega) x
  exact ⟨by rw [World.size_setCell, World.size_setCell]; exact h.size, ownsRow_setCell_other h1 (a := ⟨B, 1, none⟩) (fun e => by have := hge B e; omega) y⟩
/-- what a push leaves of all that lies ahead of the row -/
theorem PbI.pushed {w0 : World} {b g C B3 B4 B6 B8 : Nat} {vs : List Val} {x r P : Rat} {k : Int} (h : PbI w0 b g C vs B3 B4 B6 B8 x r P k W) (hr : RwB w7 v done W) (h8 : B8 < w7.heap.size) (hg : W.grownBy W' v.ownBlock) : PbI w0 b g C vs B3 B4 B6 B8 x r P k W' := by
  have hge := owned_lt hr.own
  cases ho : v.ownBlock with
  | none => rw [ho] at hg; exact h.step (below_none hg)
  | some q =>
    rw [ho] at hg
    have := hge q ho
    exact h.kept hg (by omega)
end
end Go.Proofs.YtkbhlkinlcmgoaaGreatDoor.Num.Fy

/- A loan's plan: rounded payments, interest and balances, and that all on the way has fewer than 300 digits. Plain: no program. -/
namespace Go.Proofs.YtkbhlkinlcmgoaaGreatDoor.Num

/-- a rounded fraction over a power of ten -/
def rndI (q : Rat) (k : Nat) : Int := if neg q then -((roundNum (up q * 10 ^ k) q.den : Nat) : Int) else ((roundNum (up q * 10 ^ k) q.den : Nat) : Int)
theorem round_over (q : Rat) (k : Nat) : roundR q (k : Int) = (rndI q k : Rat) / ((10 ^ k : Nat) : Rat) := by
  unfold roundR rndI tenUp tenDn
  rw [show ((k : Int)).toNat = k by omega, show (-(k : Int)).toNat = 0 by omega, Nat.pow_zero, Nat.mul_one, Nat.mul_one, Nat.one_mul]
  unfold ratOf
  rw [Rat.mkRat_eq_div]
theorem rnd_abs (q : Rat) (k : Nat) : (rndI q k).natAbs = roundNum (up q * 10 ^ k) q.den := by
  unfold rndI; split <;> omega
theorem roundNum_le (n d : Nat) (hd : 0 < d) {A : Nat} (h : n ≤ A * d) : roundNum n d ≤ A + 1 := by
  unfold roundNum
  rw [Nat.div_le_iff_le_mul_add_pred (by omega)]
  have : (A + 1) * (d + d) = A * d + A * d + (d + d) := by rw [Nat.add_mul, Nat.mul_add, Nat.one_mul]
  rw [Nat.mul_comm]
  omega
theorem up_cross {q : Rat} {x : Int} {y : Nat} (hy : y ≠ 0) (h : q = (x : Rat) / ((y : Nat) : Rat)) : up q * y = x.natAbs * q.den := by
  have h1 := nat_ne hy
  have h2 : q * ((y : Nat) : Rat) = (x : Rat) := by rw [h]; grind
  have h3 : (q.num : Rat) / ((q.den : Nat) : Rat) = q := by rw [← Rat.mkRat_eq_div, Rat.mkRat_self]
  have h4 := nat_ne q.den_nz
  have h5 : (q.num : Rat) * ((y : Nat) : Rat) = (x : Rat) * ((q.den : Nat) : Rat) := by
    have e1 : (q.num : Rat) = q * ((q.den : Nat) : Rat) := by
      obtain ⟨D, hD⟩ : ∃ D, ((q.den : Nat) : Rat) = D := ⟨_, rfl⟩
      obtain ⟨N, hN⟩ : ∃ N, (q.num : Rat) = N := ⟨_, rfl⟩
      rw [hD] at h3 h4 ⊢
      rw [hN] at h3 ⊢
      rw [← h3]
      grind
    rw [e1, ← h2]
    grind
  have h6 : q.num * (y : Int) = x * (q.den : Int) := by
    rw [← Rat.intCast_inj, Rat.intCast_mul, Rat.intCast_mul, Rat.intCast_natCast, Rat.intCast_natCast]
    exact h5
  have h7 := congrArg Int.natAbs h6
  rw [Int.natAbs_mul, Int.natAbs_mul] at h7
  simpa [up] using h7
/-- the rounded part of a number over the same power of ten -/
theorem rnd_part {c : Int} {k a : Nat} (ha : a ≤ 1000) : (rndI ((c : Rat) / ((10 ^ k : Nat) : Rat) * ((a : Rat) / ((1000 : Nat) : Rat))) k).natAbs ≤ c.natAbs + 1 := by
  rw [rnd_abs]
  have hK : (10 : Nat) ^ k ≠ 0 := Nat.ne_of_gt (Nat.pow_pos (by decide))
  have e : (c : Rat) / ((10 ^ k : Nat) : Rat) * ((a : Rat) / ((1000 : Nat) : Rat)) = ((c * (a : Int) : Int) : Rat) / ((10 ^ k * 1000 : Nat) : Rat) := by
    have h1 := nat_ne hK
    rw [Rat.intCast_mul, Rat.natCast_mul, Rat.intCast_natCast]
    have h2 : ((1000 : Nat) : Rat) ≠ 0 := by decide
    grind
  have hc := up_cross (Nat.mul_ne_zero hK (by decide)) e
  rw [e] at *
  obtain ⟨q, hq⟩ : ∃ q, ((c * (a : Int) : Int) : Rat) / ((10 ^ k * 1000 : Nat) : Rat) = q := ⟨_, rfl⟩
  rw [hq] at hc ⊢
  refine roundNum_le _ _ q.den_pos ?_
  rw [Int.natAbs_mul, Int.natAbs_natCast, ← Nat.mul_assoc] at hc
  have h1 : c.natAbs * a * q.den ≤ c.natAbs * 1000 * q.den := Nat.mul_le_mul (Nat.mul_le_mul (Nat.le_refl _) ha) (Nat.le_refl _)
  have h2 : c.natAbs * 1000 * q.den = c.natAbs * q.den * 1000 := by rw [Nat.mul_right_comm]
  omega
theorem rnd_any (q : Rat) (k : Nat) : (rndI q k).natAbs ≤ up q * 10 ^ k + 1 := by
  rw [rnd_abs]
  exact roundNum_le _ _ q.den_pos (Nat.le_mul_of_pos_right _ q.den_pos)

/-- the rate of a plan: thousandths -/
def mille (a : Nat) : Rat := (a : Rat) / ((1000 : Nat) : Rat)
/-- the payment -/
def planP (a n v k : Nat) : Rat := roundR (-(payR (mille a) n false (v : Rat) 0)) (k : Int)
/-- what is owed after some payments, but the last -/
def planV (a n v k : Nat) : Nat → Rat
  | 0 => (v : Rat)
  | i + 1 => planV a n v k i - (planP a n v k - roundR (planV a n v k i * mille a) (k : Int))
/-- the interest, the principal, what is owed then, what is paid -/
def planI (a n v k i : Nat) : Rat := roundR (planV a n v k i * mille a) (k : Int)
def planC (a n v k i : Nat) : Rat := if i + 1 = n then planV a n v k i else planP a n v k - planI a n v k i
def planW (a n v k i : Nat) : Rat := planV a n v k i - planC a n v k i
def planA (a n v k i : Nat) : Rat := planC a n v k i + planI a n v k i
theorem planW_next {a n v k i : Nat} (h : i + 1 < n) : planW a n v k i = planV a n v k (i + 1) := by
  unfold planW planC
  rw [if_neg (by omega)]; rfl
theorem planW_last {a n v k i : Nat} (h : i + 1 = n) : planW a n v k i = 0 := by
  unfold planW planC
  rw [if_pos h]; grind
theorem planA_same {a n v k i : Nat} (h : i + 1 < n) : planA a n v k i = planP a n v k := by
  unfold planA planC
  rw [if_neg (by omega)]; grind
end Go.Proofs.YtkbhlkinlcmgoaaGreatDoor.Num

/- A loan's plan of at most 40 rows: all numbers on the way have fewer than 300 digits. Plain: no program. -/
namespace Go.Proofs.YtkbhlkinlcmgoaaGreatDoor.Num

theorem plan_step {c p b : Int} {M T : Nat} (hc : c.natAbs ≤ M) (h1 : p.natAbs ≤ T) (h2 : b.natAbs ≤ c.natAbs + 1) (h5 : T + 1 ≤ M) : (c - (p - b)).natAbs ≤ 3 * M := by omega
/-- the bounds of a plan -/
structure Plan (a n v k : Nat) : Prop where
  a9 : a ≤ 19
  n1 : 1 ≤ n
  n9 : n ≤ 40
  v9 : v ≤ 99999
  k9 : k ≤ 3
section
variable {a n v k : Nat} (h : Plan a n v k)
include h
theorem mille_sm : Sm (mille a) 19 1000 := ⟨a, 1000, by decide, by unfold mille; rw [Rat.intCast_natCast], by have := h.a9; omega, Nat.le_refl _⟩
theorem mille_sd : SD (mille a) 2 3 := sd_of (mille_sm h) (by decide) (by decide)
theorem one_mille : Sm (1 + mille a) 1019 1000 := by
  refine ⟨(1000 + a : Nat), 1000, by decide, ?_, by have := h.a9; omega, Nat.le_refl _⟩
  unfold mille
  rw [Rat.intCast_natCast, Rat.natCast_add]
  have : ((1000 : Nat) : Rat) ≠ 0 := by decide
  grind
theorem one_sd : SD (1 + mille a) 4 3 := sd_of (one_mille h) (by decide) (by decide)
theorem grow_m (j : Nat) (hj : j ≤ 40) : Sm (growR (mille a) j) (1019 ^ 40) (1000 ^ 40) :=
  (Sm.pow (one_mille h) j).mono (Nat.pow_le_pow_right (by decide) hj) (Nat.pow_le_pow_right (by decide) hj)
theorem grow_md : SD (growR (mille a) n) 121 120 := sd_of (grow_m h n h.n9) (by decide +kernel) (by decide +kernel)
set_option exponentiation.threshold 400 in
theorem grow_lim : up (1 + mille a) ^ n < 10 ^ 300 ∧ (1 + mille a).den ^ n < 10 ^ 300 := by
  have g := (one_mille h).up_den
  constructor
  · exact Nat.lt_of_le_of_lt (Nat.le_trans (Nat.pow_le_pow_left g.1 n) (Nat.pow_le_pow_right (by decide) h.n9)) (by decide +kernel)
  · exact Nat.lt_of_le_of_lt (Nat.le_trans (Nat.pow_le_pow_left g.2 n) (Nat.pow_le_pow_right (by decide) h.n9)) (by decide +kernel)
theorem mille_zero : mille a = 0 ↔ a = 0 := by
  unfold mille
  constructor
  · intro e
    have h2 : ((1000 : Nat) : Rat) ≠ 0 := by decide
    have h1 : ((a : Nat) : Rat) = 0 := by grind
    have h3 : ((a : Nat) : Rat) = ((0 : Nat) : Rat) := h1
    exact_mod_cast h3
  · rintro rfl; decide +kernel
omit h in
theorem grow_nat (j : Nat) : growR (mille a) j = (((1000 + a) ^ j : Nat) : Rat) / ((1000 ^ j : Nat) : Rat) := by
  have h2 : ((1000 : Nat) : Rat) ≠ 0 := by decide
  induction j with
  | zero => rw [grow_zero, Nat.pow_zero, Nat.pow_zero]; decide +kernel
  | succ j ih =>
    rw [grow_succ, ih, Nat.pow_succ, Nat.pow_succ, Rat.natCast_mul, Rat.natCast_mul, Rat.natCast_add]
    have h3 : ((1000 ^ j : Nat) : Rat) ≠ 0 := nat_ne (Nat.ne_of_gt (Nat.pow_pos (by decide)))
    unfold mille
    grind
theorem sum0_m : sumR0 (mille a) n ≠ 0 := by
  unfold sumR0
  split
  · exact nat_ne (by have := h.n1; omega)
  · rename_i hz
    have ha : a ≠ 0 := fun e => hz ((mille_zero h).2 e)
    intro e
    have h1 : growR (mille a) n = 1 := by grind
    rw [grow_nat] at h1
    have h3 : ((1000 ^ n : Nat) : Rat) ≠ 0 := nat_ne (Nat.ne_of_gt (Nat.pow_pos (by decide)))
    have h4 : (((1000 + a) ^ n : Nat) : Rat) = ((1000 ^ n : Nat) : Rat) := by grind
    have h5 : (1000 + a) ^ n = 1000 ^ n := by exact_mod_cast h4
    have h6 : 1000 ^ n < (1000 + a) ^ n := Nat.pow_lt_pow_left (by omega) (by have := h.n1; omega)
    omega
theorem grow1_md : SD (growR (mille a) n - 1) 122 120 := SD.sub (grow_md h) (sd_of (Sm.int 1 (A := 1) (by decide)) (k := 0) (l := 0) (by decide) (by decide)) (by decide) (by decide)
theorem sum0_md : SD (sumR0 (mille a) n) 125 122 := by
  unfold sumR0
  split
  · have x := Sm.int (n : Int) (A := 40) (by have := h.n9; omega)
    rw [Rat.intCast_natCast] at x
    exact sd_of x (by decide +kernel) (by decide +kernel)
  · rename_i hz
    exact SD.div (grow1_md h) (mille_sd h) hz
theorem v_sd : SD ((v : Nat) : Rat) 5 0 := by
  have x := Sm.int (v : Int) (A := 100000) (by have := h.v9; omega)
  rw [Rat.intCast_natCast] at x
  exact sd_of x (by decide) (by decide)
theorem vg_md : SD (((v : Nat) : Rat) * growR (mille a) n) 126 120 := SD.mul (v_sd h) (grow_md h)
theorem pay_md : SD (payR (mille a) n false ((v : Nat) : Rat) 0) 248 245 := by
  unfold payR
  rw [Rat.add_zero]
  exact SD.neg (SD.div (vg_md h) (sum0_md h) (sum0_m h))
/-- the payment's numerator -/
def payI (a n v k : Nat) : Int := rndI (-(payR (mille a) n false ((v : Nat) : Rat) 0)) k
omit h in
theorem planP_over : planP a n v k = (payI a n v k : Rat) / ((10 ^ k : Nat) : Rat) := round_over _ _
theorem payI_le : (payI a n v k).natAbs ≤ 10 ^ 252 := by
  have h1 := rnd_any (-(payR (mille a) n false ((v : Nat) : Rat) 0)) k
  have h2 := (SD.neg (pay_md h)).up_den.1
  have h3 : 10 ^ k ≤ 10 ^ 3 := Nat.pow_le_pow_right (by decide) h.k9
  have h4 := Nat.mul_le_mul h2 h3
  refine Nat.le_trans h1 (Nat.le_trans (Nat.succ_le_succ h4) (by decide +kernel))
theorem planV_over : ∀ i, ∃ c : Int, planV a n v k i = (c : Rat) / ((10 ^ k : Nat) : Rat) ∧ c.natAbs ≤ 3 ^ i * 10 ^ 253
  | 0 => by
    refine ⟨(v * 10 ^ k : Nat), ?_, ?_⟩
    · show ((v : Nat) : Rat) = _
      rw [Rat.intCast_natCast, Rat.natCast_mul]
      have h3 : ((10 ^ k : Nat) : Rat) ≠ 0 := nat_ne (Nat.ne_of_gt (Nat.pow_pos (by decide)))
      grind
    · rw [Int.natAbs_natCast, Nat.pow_zero, Nat.one_mul]
      have h3 : 10 ^ k ≤ 10 ^ 3 := Nat.pow_le_pow_right (by decide) h.k9
      exact Nat.le_trans (Nat.mul_le_mul h.v9 h3) (by decide +kernel)
  | i + 1 => by
    obtain ⟨c, e, hc⟩ := planV_over i
    refine ⟨c - (payI a n v k - rndI (planV a n v k i * mille a) k), ?_, ?_⟩
    · show planV a n v k i - (planP a n v k - roundR (planV a n v k i * mille a) (k : Int)) = _
      rw [planP_over, round_over, e, Rat.intCast_sub, Rat.intCast_sub]
      have h3 : ((10 ^ k : Nat) : Rat) ≠ 0 := nat_ne (Nat.ne_of_gt (Nat.pow_pos (by decide)))
      grind
    · have h1 := payI_le h
      have h2 : (rndI (planV a n v k i * mille a) k).natAbs ≤ c.natAbs + 1 := by
        rw [e]; exact rnd_part (by have := h.a9; omega)
      have h5 : 10 ^ 252 + 1 ≤ 3 ^ i * 10 ^ 253 := Nat.le_trans (by decide +kernel) (Nat.le_mul_of_pos_left _ (Nat.pow_pos (by decide)))
      have h6 : 3 ^ (i + 1) * 10 ^ 253 = 3 * (3 ^ i * 10 ^ 253) := by rw [Nat.pow_succ, Nat.mul_comm (3 ^ i) 3, Nat.mul_assoc]
      rw [h6]
      exact plan_step hc h1 h2 h5
theorem planV_sd (i : Nat) (hi : i ≤ 40) : SD (planV a n v k i) 273 3 := by
  obtain ⟨c, e, hc⟩ := planV_over h i
  refine ⟨c, 10 ^ k, Nat.ne_of_gt (Nat.pow_pos (by decide)), e, ?_, Nat.pow_le_pow_right (by decide) h.k9⟩
  exact Nat.le_trans hc (Nat.le_trans (Nat.mul_le_mul (Nat.pow_le_pow_right (by decide) hi) (Nat.le_refl _)) (by decide +kernel))
theorem planVr_sd (i : Nat) (hi : i ≤ 40) : SD (planV a n v k i * mille a) 275 6 := SD.mul (planV_sd h i hi) (mille_sd h)
theorem planI_sd (i : Nat) (hi : i ≤ 40) : SD (planI a n v k i) 274 3 := by
  obtain ⟨c, e, hc⟩ := planV_over h i
  refine ⟨rndI (planV a n v k i * mille a) k, 10 ^ k, Nat.ne_of_gt (Nat.pow_pos (by decide)), round_over _ _, ?_, Nat.pow_le_pow_right (by decide) h.k9⟩
  have h2 : (rndI (planV a n v k i * mille a) k).natAbs ≤ c.natAbs + 1 := by
    rw [e]; exact rnd_part (by have := h.a9; omega)
  have h3 : c.natAbs ≤ 10 ^ 273 := Nat.le_trans hc (Nat.le_trans (Nat.mul_le_mul (Nat.pow_le_pow_right (by decide) hi) (Nat.le_refl _)) (by decide +kernel))
  exact Nat.le_trans h2 (Nat.le_trans (Nat.succ_le_succ h3) (by decide +kernel))
theorem planP_sd : SD (planP a n v k) 252 3 :=
  ⟨payI a n v k, 10 ^ k, Nat.ne_of_gt (Nat.pow_pos (by decide)), planP_over, payI_le h, Nat.pow_le_pow_right (by decide) h.k9⟩
theorem planPI_sd (i : Nat) (hi : i ≤ 40) : SD (planP a n v k - planI a n v k i) 278 6 := SD.sub (planP_sd h) (planI_sd h i hi) (by decide) (by decide)
theorem planC_sd (i : Nat) (hi : i ≤ 40) : SD (planC a n v k i) 278 6 := by
  unfold planC
  split
  · exact (planV_sd h i hi).mono (by decide) (by decide)
  · exact planPI_sd h i hi
theorem planW_sd (i : Nat) (hi : i ≤ 40) : SD (planW a n v k i) 282 9 := SD.sub (planV_sd h i hi) (planC_sd h i hi) (by decide) (by decide)
theorem planA_sd (i : Nat) (hi : i ≤ 40) : SD (planA a n v k i) 282 9 := SD.add (planC_sd h i hi) (planI_sd h i hi) (by decide) (by decide)
omit h in
/-- the principals add up to what has been paid back -/
theorem planC_sum : ∀ j, j < n → (List.range j).foldl (fun s i => s + planC a n v k i) 0 = ((v : Nat) : Rat) - planV a n v k j
  | 0, _ => by show (0 : Rat) = ((v : Nat) : Rat) - ((v : Nat) : Rat); grind
  | j + 1, hj => by
    rw [List.range_succ, List.foldl_append, planC_sum j (by omega)]
    show _ + planC a n v k j = _
    have e : planV a n v k (j + 1) = planV a n v k j - planC a n v k j := by
      unfold planC
      rw [if_neg (by omega)]; rfl
    rw [e]
    grind
theorem planC_all : (List.range n).foldl (fun s i => s + planC a n v k i) 0 = ((v : Nat) : Rat) := by
  obtain ⟨m, hm⟩ : ∃ m, n = m + 1 := ⟨n - 1, by have := h.n1; omega⟩
  have e : planC a n v k m = planV a n v k m := by unfold planC; rw [if_pos hm.symm]
  have hs := planC_sum (a := a) (n := n) (v := v) (k := k) m (by omega)
  rw [show List.range n = List.range (m + 1) by rw [hm], List.range_succ, List.foldl_append, hs]
  show _ + planC a n v k m = _
  rw [e]; grind
theorem planC_part (j : Nat) (hj : j ≤ n) : SD ((List.range j).foldl (fun s i => s + planC a n v k i) 0) 280 6 := by
  have h9 := h.n9
  rcases Nat.lt_or_eq_of_le hj with g | g
  · rw [planC_sum j g]
    exact (SD.sub (v_sd h) (planV_sd h j (by omega)) (c := 274) (by decide) (by decide)).mono (by decide) (by decide)
  · subst g
    rw [planC_all h]
    exact (v_sd h).mono (by decide) (by decide)
end
end Go.Proofs.YtkbhlkinlcmgoaaGreatDoor.Num
