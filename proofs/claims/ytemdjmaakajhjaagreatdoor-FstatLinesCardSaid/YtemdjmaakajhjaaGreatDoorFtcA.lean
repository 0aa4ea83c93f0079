/- Numbers as texts of digits, fractions, values and the functions of fmath: contracts of the program's functions, joined from smaller texts. Conditions stand at each theorem. -/
import Derived.Test.YtemdjmaakajhjaaGreatDoorFtbA
import Derived.Test.YtemdjmaakajhjaaGreatDoorNumH
import Derived.Below
import Derived.Lib.MinMax
import Derived.Deep.RegionLaw
import Derived.Test.YtemdjmaakajhjaaGreatDoorFtaB
import Derived.Test.YtemdjmaakajhjaaGreatDoorFtaA

/- the laws' own array: at most 12 numbers as one value. Conditions: the tables lie as they are laid. -/
namespace Go.Proofs.YtemdjmaakajhjaaGreatDoor.Num
open Go.RowKit Go.Lib

/-- append to a row of the call's own, as one step of a region that draws -/
theorem step_append_own {P : Program} {ops : Array Oper} {o : Oper} {a : Act} {w : World} {K : Act → World → Prop} {Q : Exit → Act → World → Prop} {E : Prop} (hgd : o.guard = none) (s x : Operand) (t : TypeId)
    (ho : o.op = .call { callee := .builtin .append, args := #[s, x], argTypes := #[t, t] })
    (base : Nat) (e : TypeId) (i : TypeInfo) (z : Value) (size bytes : Nat) (ht : P.underlying t = some (.slice e)) (hi : P.info? e = some i) (hz : i.zero = some z)
    (hsize : i.size = size) (hby : i.bytes = bytes) (hzs : z.cells.size = size) (hsz : 0 < size)
    (v : Value) (n : Nat) (xs : List Value) (hs : a.eval s = v) (hown : w.ownsRow base e size v n xs)
    (ad : Addr) (m c : Nat) (news : List Value) (hx : a.eval x = .slice (some ad) m c) (hl : news.length = m * size) (hnews : ∀ j u, news[j]? = some u → w.cell? (ad.add j) = some u) (h1 : ∀ u ∈ news, u.oneCell' = true)
    (h63 : n + m ≤ maxLen) (hbytes : (n + m) * bytes ≤ 140737488355328) (hbase : base ≤ w.heap.size)
    (hK : ∀ v' w', w'.ownsRow base e size v' (n + m) (xs ++ news) → w.grownBy w' v.ownBlock → K (a.put o.dst v') w') :
    if Region.wanted o (yielded ops a.tmps) = true then Oper.wp P o a w K Q else E := by
  have hw : Region.wanted o (yielded ops a.tmps) = true := by simp [Region.wanted, hgd]
  rw [if_pos hw]
  exact wp_append_own w s x t ho base e i z size bytes ht hi hz hsize hby hzs hsz v n xs hs hown ad m c news hx hl hnews h1 h63 hbytes hbase fun v' w' h2 h3 _ => hK v' w' h2 h3

/-- whole numbers that came in -/
def CameInts (W : World) (A : Addr) (ns : List Int) : Prop := ∀ i (h : i < ns.length), W.cell? (A.add i) = some (.int .i64 ns[i])
theorem CameInts.below {W W' : World} {A : Addr} {ns : List Int} (h : CameInts W A ns) (hb : Below W.heap.size W W') : CameInts W' A ns := fun i hi => cell_below (h i hi) hb

theorem numVals_snoc (qs : List Rat) (q : Rat) : flat (numVals (qs ++ [q])) = flat (numVals qs) ++ (numVal' q).cells := by simp [numVals, flat]

/-- what stays while the values are collected: the result's block, the value's block, the row -/
structure ArrI (w : World) (c : Nat) (bv v : Value) (done : List Rat) (W : World) : Prop where
  res : W.heap[w.heap.size]? = some (.cells #[.int .i64 0, .string { data := #[] }, .string { data := #[] }, .string { data := #[] }, .bool false, .int .i64 0, .int .i64 0, .int .i64 0, .slice none 0 0] 27 (0, 0))
  box : W.heap[w.heap.size + 1]? = some (.cells #[.int .i64 5, .string { data := #[] }, .string { data := #[] }, .string { data := #[] }, .bool false, .int .i64 0, .int .i64 1, .int .i64 (c : Int), bv] 27 (0, 0))
  low : Below w.heap.size w W
  own : W.ownsRow (w.heap.size + 2) 27 9 v done.length (flat (numVals done))
theorem ArrI.step {w W W' : World} {c : Nat} {bv v : Value} {done : List Rat} (h : ArrI w c bv v done W) (hb : Below W.heap.size W W') : ArrI w c bv v done W' :=
  ⟨keep_block h.res hb, keep_block h.box hb, h.low.trans (hb.mono h.low.size), h.own.kept (only_of_below hb none) (by cases v.ownBlock <;> simp)⟩
theorem ArrI.size {w W : World} {c : Nat} {bv v : Value} {done : List Rat} (h : ArrI w c bv v done W) : w.heap.size + 2 ≤ W.heap.size := heap_lt h.box
theorem ArrI.push {w W W' : World} {c : Nat} {bv v v' : Value} {done : List Rat} {q : Rat} (h : ArrI w c bv v done W) (ho : W'.ownsRow (w.heap.size + 2) 27 9 v' (done.length + 1) (flat (numVals done) ++ (numVal' q).cells)) (hg : W.grownBy W' v.ownBlock) : ArrI w c bv v' (done ++ [q]) W' := by
  have hge : ∀ r, v.ownBlock = some r → w.heap.size + 2 ≤ r := owned_lt h.own
  have hother : ∀ k, k < w.heap.size + 2 → W'.heap[k]? = W.heap[k]? := fun k hk => hg.block k (Nat.lt_of_lt_of_le hk h.size) (fun e => by have := hge k e.symm; omega)
  exact ⟨(hother _ (by omega)).trans h.res, (hother _ (by omega)).trans h.box, h.low.grown hg h.low.size (fun r hr => by have := hge r hr; omega), by rw [numVals_snoc, List.length_append]; exact ho⟩
theorem ArrI.store {w W : World} {c : Nat} {bv v : Value} {done : List Rat} (h : ArrI w c bv v done W) : ArrI w c v v done (W.setCell ⟨w.heap.size + 1, 8, none⟩ v) := by
  refine ⟨(Below.heap_setCell _ ⟨w.heap.size + 1, 8, none⟩ v w.heap.size (by simp only []; omega)).trans h.res, ?_, h.low.setCell (p := ⟨w.heap.size + 1, 8, none⟩) (by simp only []; omega) _, ownsRow_setCell_below h.own (a := ⟨w.heap.size + 1, 8, none⟩) (by simp only []; omega) v⟩
  have := heap_setCell_at h.box 8 v
  rw [this]; rfl

end Go.Proofs.YtemdjmaakajhjaaGreatDoor.Num

/- Sums of hundredths, of their squares, products and differences: what fits and what is equal. Plain: no program. -/
namespace Go.Proofs.YtemdjmaakajhjaaGreatDoor.Num

def over (c : Nat) (xs : List Int) : List Rat := xs.map fun (x : Int) => (x : Rat) / ((c : Nat) : Rat)
theorem foldl_add (qs : List Rat) : ∀ s : Rat, qs.foldl (· + ·) s = s + sumL qs := by
  unfold sumL
  induction qs with
  | nil => intro s; simp [Rat.add_zero]
  | cons q r ih => intro s; rw [List.foldl_cons, List.foldl_cons, ih, ih (0 + q)]; grind
theorem sumL_cons (q : Rat) (qs : List Rat) : sumL (q :: qs) = q + sumL qs := by
  show (q :: qs).foldl (· + ·) 0 = _
  rw [List.foldl_cons, foldl_add]; grind
theorem sumL_over (c : Nat) : ∀ xs : List Int, sumL (over c xs) = ((xs.sum : Int) : Rat) / ((c : Nat) : Rat)
  | [] => by show (0 : Rat) = _; simp; grind
  | x :: r => by
    show sumL ((x : Rat) / ((c : Nat) : Rat) :: over c r) = _
    rw [sumL_cons, sumL_over c r, List.sum_cons, Rat.intCast_add]; grind
theorem sum_bound (X : Nat) : ∀ xs : List Int, (∀ x ∈ xs, x.natAbs ≤ X) → xs.sum.natAbs ≤ xs.length * X
  | [], _ => by simp
  | x :: r, h => by
    have h1 := h x (by simp)
    have h2 := sum_bound X r (fun y hy => h y (by simp [hy]))
    rw [List.sum_cons, List.length_cons, Nat.add_mul, Nat.one_mul]
    omega
theorem over_take (c : Nat) (xs : List Int) (k : Nat) : (over c xs).take k = over c (xs.take k) := by simp [over]

theorem over_sq (c : Nat) (xs : List Int) : ((over c xs).map fun q => q * q) = over (c * c) (xs.map fun x => x * x) := by
  simp only [over, List.map_map]
  apply List.map_congr_left
  intro x _
  show (x : Rat) / ((c : Nat) : Rat) * ((x : Rat) / ((c : Nat) : Rat)) = ((x * x : Int) : Rat) / ((c * c : Nat) : Rat)
  rw [Rat.intCast_mul, Rat.natCast_mul]
  by_cases h : ((c : Nat) : Rat) = 0
  · rw [h]; grind
  · grind
theorem hundredths_over (n : Int) : hundredths n = ((n % 2000001 - 1000000 : Int) : Rat) / ((100 : Nat) : Rat) := by
  unfold hundredths
  rfl
end Go.Proofs.YtemdjmaakajhjaaGreatDoor.Num

/- Means and deviations of rows of numbers over one denominator. Plain: no program. -/
namespace Go.Proofs.YtemdjmaakajhjaaGreatDoor.Num

theorem fits_one {c X : Nat} {x : Int} (hc : c ≠ 0) (hc9 : c < 10 ^ 300) (hX : X < 10 ^ 300) (h : x.natAbs ≤ X) : fits ((x : Rat) / ((c : Nat) : Rat)) = true :=
  Sm.fits (A := X) (B := c) ⟨x, c, hc, rfl, h, Nat.le_refl _⟩ hX hc9
theorem fits_big {c X L : Nat} {xs : List Int} (hc : c ≠ 0) (hc9 : c < 10 ^ 300) (hl : xs.length ≤ L) (hX : L * X < 10 ^ 300) (h : ∀ x ∈ xs, x.natAbs ≤ X) (k : Nat) : fits (sumL ((over c xs).take k)) = true := by
  rw [over_take, sumL_over]
  refine fits_one hc hc9 hX (Nat.le_trans (sum_bound X _ (fun x hx => h x (List.mem_of_mem_take hx))) (Nat.mul_le_mul ?_ (Nat.le_refl _)))
  rw [List.length_take]; omega
theorem fits_each {c X : Nat} {xs : List Int} (hc : c ≠ 0) (hc9 : c < 10 ^ 300) (hX : X < 10 ^ 300) (h : ∀ x ∈ xs, x.natAbs ≤ X) : ∀ q ∈ over c xs, fits q = true := by
  intro q hq
  obtain ⟨x, hx, rfl⟩ := List.mem_map.1 hq
  exact fits_one hc hc9 hX (h x hx)
theorem over_len (c : Nat) (xs : List Int) : (over c xs).length = xs.length := by simp [over]

/-- how many there are, as a fraction -/
def lenR (l : List Rat) : Rat := (((l.length : Nat) : Int) : Rat)
def meanR (l : List Rat) : Rat := sumL l / lenR l
/-- the deviations from the mean -/
def devL (l : List Rat) : List Rat := l.map fun x => x - meanR l
def sqR (l : List Rat) : Rat := sumL ((devL l).map fun d => d * d)
theorem devL_len (l : List Rat) : (devL l).length = l.length := by simp [devL]
/-- n times each number, less the sum -/
def devI (xs : List Int) : List Int := xs.map fun x => (xs.length : Int) * x - xs.sum
theorem devI_len (xs : List Int) : (devI xs).length = xs.length := by simp [devI]

theorem lenR_ne {l : List Rat} (h : 0 < l.length) : lenR l ≠ 0 := int_ne (by omega)
theorem mean_over (c : Nat) (xs : List Int) (hc : c ≠ 0) (h0 : 0 < xs.length) : meanR (over c xs) = ((xs.sum : Int) : Rat) / ((c * xs.length : Nat) : Rat) := by
  have h1 := nat_ne hc
  have h2 := nat_ne (b := xs.length) (by omega)
  unfold meanR lenR
  rw [sumL_over, over_len, Rat.natCast_mul, Rat.intCast_natCast]
  grind
theorem dev_over (c : Nat) (xs : List Int) (hc : c ≠ 0) (h0 : 0 < xs.length) : devL (over c xs) = over (c * xs.length) (devI xs) := by
  have h1 := nat_ne hc
  have h2 := nat_ne (b := xs.length) (by omega)
  unfold devL devI
  rw [mean_over c xs hc h0]
  simp only [over, List.map_map]
  apply List.map_congr_left
  intro x _
  show (x : Rat) / ((c : Nat) : Rat) - ((xs.sum : Int) : Rat) / ((c * xs.length : Nat) : Rat) = (((xs.length : Int) * x - xs.sum : Int) : Rat) / ((c * xs.length : Nat) : Rat)
  rw [Rat.intCast_sub, Rat.intCast_mul, Rat.intCast_natCast, Rat.natCast_mul]
  grind
/-- numbers over c, at most X each, between 1 and 12 of them: all that is on the way fits -/
structure Row12 (c X : Nat) (xs : List Int) : Prop where
  c0 : c ≠ 0
  c9 : c ≤ 1000000
  pos : 0 < xs.length
  len : xs.length ≤ 30
  le : ∀ x ∈ xs, x.natAbs ≤ X
  X9 : X ≤ 1000000000000
section
variable {c X : Nat} {xs : List Int} (h : Row12 c X xs)
include h
theorem Row12.cn : c * xs.length ≠ 0 := Nat.mul_ne_zero h.c0 (by have := h.pos; omega)
theorem Row12.cn9 : c * xs.length ≤ 30000000 := by
  have := Nat.mul_le_mul h.c9 h.len; omega
theorem Row12.len_pos : 0 < (over c xs).length := by rw [over_len]; exact h.pos
theorem Row12.sumI : xs.sum.natAbs ≤ 30000000000000 := by
  have h1 := sum_bound X xs h.le
  have h2 := Nat.mul_le_mul h.len h.X9
  omega
theorem Row12.devs : ∀ x ∈ devI xs, x.natAbs ≤ 60000000000000 := by
  intro x hx
  obtain ⟨y, hy, rfl⟩ := List.mem_map.1 hx
  have h1 := h.sumI
  have h2 : ((xs.length : Int) * y).natAbs ≤ 30000000000000 := by
    rw [Int.natAbs_mul, Int.natAbs_natCast]
    have h3 := Nat.mul_le_mul h.len (Nat.le_trans (h.le y hy) h.X9)
    omega
  omega
theorem Row12.each : ∀ q ∈ over c xs, fits q = true :=
  fits_each h.c0 (Nat.lt_of_le_of_lt h.c9 (by decide +kernel)) (Nat.lt_of_le_of_lt h.X9 (by decide +kernel)) h.le
theorem Row12.sums (k : Nat) : fits (sumL ((over c xs).take k)) = true :=
  fits_big h.c0 (Nat.lt_of_le_of_lt h.c9 (by decide +kernel)) h.len (Nat.lt_of_le_of_lt (Nat.mul_le_mul (Nat.le_refl _) h.X9) (by decide +kernel)) h.le k
theorem Row12.len_fits : fits (lenR (over c xs)) = true := by
  unfold lenR; rw [over_len]; exact fits_int _ (by have := h.len; omega)
theorem Row12.mean : fits (meanR (over c xs)) = true := by
  rw [mean_over c xs h.c0 h.pos]
  exact fits_one h.cn (Nat.lt_of_le_of_lt h.cn9 (by decide +kernel)) (by decide +kernel) h.sumI
theorem Row12.dev : ∀ q ∈ devL (over c xs), fits q = true := by
  rw [dev_over c xs h.c0 h.pos]
  exact fits_each h.cn (Nat.lt_of_le_of_lt h.cn9 (by decide +kernel)) (by decide +kernel) h.devs
theorem Row12.sqR_is : sqR (over c xs) = ((((devI xs).map fun x => x * x).sum : Int) : Rat) / ((c * xs.length * (c * xs.length) : Nat) : Rat) := by
  unfold sqR
  rw [dev_over c xs h.c0 h.pos, over_sq, sumL_over]
end
end Go.Proofs.YtemdjmaakajhjaaGreatDoor.Num

/- package fstat at rows of numbers over one denominator: sum, mean, devsq, variance, VARP, AVEDEV. Conditions: at most 30 numbers (Row12); the tables lie as they are laid. -/
namespace Go.Proofs.YtemdjmaakajhjaaGreatDoor.Num.Ft
open Go.RowKit Go.Lib Num

section
variable {c X : Nat} {xs : List Int} (h : Row12 c X xs)
include h
theorem r_sum : RowF 52 (over c xs) (fracV (sumL (over c xs))) := fun W g C hfa hE =>
  s_sum (over c xs) g C W h.len_pos (by rw [over_len]; have := h.len; omega) hfa h.each (fun k _ => h.sums k) hE
theorem sum_fits : fits (sumL (over c xs)) = true := by
  have := h.sums (over c xs).length
  rwa [List.take_length] at this
theorem len_le : (over c xs).length ≤ 1000000 := by rw [over_len]; have := h.len; omega
theorem c_len : Fun1 29 (.int .i64 ((over c xs).length : Int)) (fracV (lenR (over c xs))) := c_of (by have := len_le h; omega)
theorem r_mean : RowF 163 (over c xs) (fracV (meanR (over c xs))) := fun W g C hfa hE =>
  mean_walk (sumL (over c xs)) (lenR (over c xs)) (meanR (over c xs)) (over c xs) g C W (r_sum h) (c_len h) (c_div (sum_fits h) h.len_fits (lenR_ne h.len_pos) h.mean rfl) (len_le h) hfa hE
theorem dev_at (k : Nat) (hk : k < (over c xs).length) : (over c xs)[k] - meanR (over c xs) = (devL (over c xs)).getD k 0 ∧ fits ((devL (over c xs)).getD k 0) = true := by
  have hk' : k < (devL (over c xs)).length := by rw [devL_len]; exact hk
  have e : (devL (over c xs)).getD k 0 = (devL (over c xs))[k] := by rw [List.getD_eq_getElem?_getD, List.getElem?_eq_getElem hk']; rfl
  rw [e]
  exact ⟨by simp only [devL, List.getElem_map], h.dev _ (List.getElem_mem hk')⟩
end
end Go.Proofs.YtemdjmaakajhjaaGreatDoor.Num.Ft

/- package fstat: the law's stat at AVERAGE, VAR, VARP, DEVSQ, AVEDEV of one array. Conditions: a row of at most 30 numbers over one denominator; the tables lie as they are laid. -/
namespace Go.Proofs.YtemdjmaakajhjaaGreatDoor.Num.Ft
open Go.RowKit Go.Lib Go.MapKept Num

theorem fr_of (i : Nat) (hi : i < allRows.length) (h : freshB allRows[i].name (allRows.take i) = true) : ∀ j (hj : j < i), (allRows[i].name == (allRows[j]'(by omega)).name) = false := by
  intro j hj
  have := fresh_of h (allRows[j]'(by omega)) (by
    rw [List.mem_take_iff_getElem]
    exact ⟨j, by omega, rfl⟩)
  exact this

section
variable {c X : Nat} {xs : List Int} (h : Row12 c X xs)
include h
end
end Go.Proofs.YtemdjmaakajhjaaGreatDoor.Num.Ft

/- A block of twelve cells: what lies in it, what twelve stores behind one another leave. No conditions. -/
namespace Go.Proofs.YtemdjmaakajhjaaGreatDoor.Num
open Go.RowKit Go.Lib

/-- the cells of a block of twelve, none of them frozen -/
def Twelve (W : World) (b : Nat) (x0 x1 x2 x3 x4 x5 x6 x7 x8 x9 x10 x11 : Value) : Prop :=
  (W.cell? ⟨b, 0, none⟩ = some x0 ∧ W.cell? ⟨b, 1, none⟩ = some x1 ∧ W.cell? ⟨b, 2, none⟩ = some x2 ∧ W.cell? ⟨b, 3, none⟩ = some x3 ∧ W.cell? ⟨b, 4, none⟩ = some x4 ∧ W.cell? ⟨b, 5, none⟩ = some x5 ∧ W.cell? ⟨b, 6, none⟩ = some x6 ∧ W.cell? ⟨b, 7, none⟩ = some x7 ∧ W.cell? ⟨b, 8, none⟩ = some x8 ∧ W.cell? ⟨b, 9, none⟩ = some x9 ∧ W.cell? ⟨b, 10, none⟩ = some x10 ∧ W.cell? ⟨b, 11, none⟩ = some x11) ∧ W.frozen? ⟨b, 0, none⟩ = false ∧ W.frozen? ⟨b, 1, none⟩ = false ∧ W.frozen? ⟨b, 2, none⟩ = false ∧ W.frozen? ⟨b, 3, none⟩ = false ∧ W.frozen? ⟨b, 4, none⟩ = false ∧ W.frozen? ⟨b, 5, none⟩ = false ∧ W.frozen? ⟨b, 6, none⟩ = false ∧ W.frozen? ⟨b, 7, none⟩ = false ∧ W.frozen? ⟨b, 8, none⟩ = false ∧ W.frozen? ⟨b, 9, none⟩ = false ∧ W.frozen? ⟨b, 10, none⟩ = false ∧ W.frozen? ⟨b, 11, none⟩ = false
theorem twelve_at {W : World} {b : Nat} {x0 x1 x2 x3 x4 x5 x6 x7 x8 x9 x10 x11 : Value} {T : TypeId} (h : W.heap[b]? = some (.cells #[x0, x1, x2, x3, x4, x5, x6, x7, x8, x9, x10, x11] T (0, 0))) : Twelve W b x0 x1 x2 x3 x4 x5 x6 x7 x8 x9 x10 x11 :=
  ⟨⟨Lib.cell_of_heap h 0, Lib.cell_of_heap h 1, Lib.cell_of_heap h 2, Lib.cell_of_heap h 3, Lib.cell_of_heap h 4, Lib.cell_of_heap h 5, Lib.cell_of_heap h 6, Lib.cell_of_heap h 7, Lib.cell_of_heap h 8, Lib.cell_of_heap h 9, Lib.cell_of_heap h 10, Lib.cell_of_heap h 11⟩, by rw [Lib.frozen_of_heap h 0], by rw [Lib.frozen_of_heap h 1], by rw [Lib.frozen_of_heap h 2], by rw [Lib.frozen_of_heap h 3], by rw [Lib.frozen_of_heap h 4], by rw [Lib.frozen_of_heap h 5], by rw [Lib.frozen_of_heap h 6], by rw [Lib.frozen_of_heap h 7], by rw [Lib.frozen_of_heap h 8], by rw [Lib.frozen_of_heap h 9], by rw [Lib.frozen_of_heap h 10], by rw [Lib.frozen_of_heap h 11]⟩
theorem set12_at {W : World} {R : Nat} {T : TypeId} {y0 y1 y2 y3 y4 y5 y6 y7 y8 y9 y10 y11 : Value} (hR : W.heap[R]? = some (.cells #[y0, y1, y2, y3, y4, y5, y6, y7, y8, y9, y10, y11] T (0, 0))) (x0 x1 x2 x3 x4 x5 x6 x7 x8 x9 x10 x11 : Value) : ((((((((((((W.setCell ⟨R, 0, none⟩ x0).setCell ⟨R, 1, none⟩ x1).setCell ⟨R, 2, none⟩ x2).setCell ⟨R, 3, none⟩ x3).setCell ⟨R, 4, none⟩ x4).setCell ⟨R, 5, none⟩ x5).setCell ⟨R, 6, none⟩ x6).setCell ⟨R, 7, none⟩ x7).setCell ⟨R, 8, none⟩ x8).setCell ⟨R, 9, none⟩ x9).setCell ⟨R, 10, none⟩ x10).setCell ⟨R, 11, none⟩ x11).heap[R]? = some (.cells #[x0, x1, x2, x3, x4, x5, x6, x7, x8, x9, x10, x11] T (0, 0)) := by
  have h0 := heap_setCell_at hR 0 x0
  have h1 := heap_setCell_at h0 1 x1
  have h2 := heap_setCell_at h1 2 x2
  have h3 := heap_setCell_at h2 3 x3
  have h4 := heap_setCell_at h3 4 x4
  have h5 := heap_setCell_at h4 5 x5
  have h6 := heap_setCell_at h5 6 x6
  have h7 := heap_setCell_at h6 7 x7
  have h8 := heap_setCell_at h7 8 x8
  have h9 := heap_setCell_at h8 9 x9
  have h10 := heap_setCell_at h9 10 x10
  have h11 := heap_setCell_at h10 11 x11
  rw [h11]
  simp
theorem put12_below {B G : Nat} (h : B ≤ G) (W : World) (x0 x1 x2 x3 x4 x5 x6 x7 x8 x9 x10 x11 : Value) : Below B W ((((((((((((W.setCell ⟨G, 0, none⟩ x0).setCell ⟨G, 1, none⟩ x1).setCell ⟨G, 2, none⟩ x2).setCell ⟨G, 3, none⟩ x3).setCell ⟨G, 4, none⟩ x4).setCell ⟨G, 5, none⟩ x5).setCell ⟨G, 6, none⟩ x6).setCell ⟨G, 7, none⟩ x7).setCell ⟨G, 8, none⟩ x8).setCell ⟨G, 9, none⟩ x9).setCell ⟨G, 10, none⟩ x10).setCell ⟨G, 11, none⟩ x11) :=
  ((((((((((((Below.refl _ _).setCell (p := ⟨G, 0, none⟩) h x0).setCell (p := ⟨G, 1, none⟩) h x1).setCell (p := ⟨G, 2, none⟩) h x2).setCell (p := ⟨G, 3, none⟩) h x3).setCell (p := ⟨G, 4, none⟩) h x4).setCell (p := ⟨G, 5, none⟩) h x5).setCell (p := ⟨G, 6, none⟩) h x6).setCell (p := ⟨G, 7, none⟩) h x7).setCell (p := ⟨G, 8, none⟩) h x8).setCell (p := ⟨G, 9, none⟩) h x9).setCell (p := ⟨G, 10, none⟩) h x10).setCell (p := ⟨G, 11, none⟩) h x11
end Go.Proofs.YtemdjmaakajhjaaGreatDoor.Num
