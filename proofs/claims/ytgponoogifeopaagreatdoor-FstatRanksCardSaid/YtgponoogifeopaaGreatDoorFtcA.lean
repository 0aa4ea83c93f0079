/- Numbers as texts of digits, fractions, values and the functions of fmath: contracts of the program's functions, joined from smaller texts. Conditions stand at each theorem. -/
import Derived.Test.YtgponoogifeopaaGreatDoorFtbA
import Derived.Test.YtgponoogifeopaaGreatDoorNumH
import Derived.Below
import Derived.Lib.MinMax
import Derived.Deep.RegionLaw
import Derived.Test.YtgponoogifeopaaGreatDoorFtaB
import Derived.Test.YtgponoogifeopaaGreatDoorFtaA

/- the laws' own array: at most 12 numbers as one value. Conditions: the tables lie as they are laid. -/
namespace Go.Proofs.YtgponoogifeopaaGreatDoor.Num
open Go.RowKit Go.Lib

/-- append to a row of the call's own, as one step of a region that draws -/
theorem step_append_own {P : Program} {ops : Array Oper} {o : Oper} {a : Act} {w : World} {K : Act → World → Prop} {Q : Exit → Act → World → Prop} {E : Prop} (hgd : o.guard = none) (s x : Operand) (t : TypeId)
    (ho : o.op = .call { callee := .builtin .append, args := #[s, x], argTypes := #[t, t] })
    (base : Nat) (e : TypeId) (i : TypeInfo) (z : Value) (size bytes : Nat) (ht : P.underlying t = some (.slice e)) (hi : P.info? e = some i) (hz : i.zero = some z)
    (hsize : i.size = size) (hby : i.bytes = bytes) (hzs : z.cells.size = size) (hsz : 0 < size)
    (v : Value) (n : Nat) (xs : List Value) (hs : a.eval s = v) (hown : w.ownsRow base e size v n xs)
    (ad : Addr) (m c : Nat) (news : List Value) (hx : a.eval x = .slice (some ad) m c) (hl : news.length = m * size) (hnews : ∀ j u, news[j]? = some u → w.cell? (ad.add j) = some u) (h1 : ∀ u ∈ news, u.oneCell' = true)
    (h63 : n + m ≤ maxLen) (hbytes : (n + m) * bytes ≤ 140737488355328) (hbase : base ≤ w.heap.size)
    (hK : ∀ v' w', w'.ownsRow base e size v' (n + m) (xs ++ news) → w.grownBy w' v.ownBlock → K (a.put o.dst v') w') :
    if Region.wanted o (yielded ops a.tmps) = true then Oper.wp P o a w K Q else E := by
  have hw : Region.wanted o (yielded ops a.tmps) = true := by simp [Region.wanted, hgd]
  rw [if_pos hw]
  exact wp_append_own w s x t ho base e i z size bytes ht hi hz hsize hby hzs hsz v n xs hs hown ad m c news hx hl hnews h1 h63 hbytes hbase fun v' w' h2 h3 _ => hK v' w' h2 h3

/-- whole numbers that came in -/
def CameInts (W : World) (A : Addr) (ns : List Int) : Prop := ∀ i (h : i < ns.length), W.cell? (A.add i) = some (.int .i64 ns[i])
theorem CameInts.below {W W' : World} {A : Addr} {ns : List Int} (h : CameInts W A ns) (hb : Below W.heap.size W W') : CameInts W' A ns := fun i hi => cell_below (h i hi) hb

theorem numVals_snoc (qs : List Rat) (q : Rat) : flat (numVals (qs ++ [q])) = flat (numVals qs) ++ (numVal' q).cells := by simp [numVals, flat]

/-- what stays while the values are collected: the result's block, the value's block, the row -/
structure ArrI (w : World) (c : Nat) (bv v : Value) (done : List Rat) (W : World) : Prop where
  res : W.heap[w.heap.size]? = some (.cells #[.int .i64 0, .string { data := #[] }, .string { data := #[] }, .string { data := #[] }, .bool false, .int .i64 0, .int .i64 0, .int .i64 0, .slice none 0 0] 27 (0, 0))
  box : W.heap[w.heap.size + 1]? = some (.cells #[.int .i64 5, .string { data := #[] }, .string { data := #[] }, .string { data := #[] }, .bool false, .int .i64 0, .int .i64 1, .int .i64 (c : Int), bv] 27 (0, 0))
  low : Below w.heap.size w W
  own : W.ownsRow (w.heap.size + 2) 27 9 v done.length (flat (numVals done))
theorem ArrI.step {w W W' : World} {c : Nat} {bv v : Value} {done : List Rat} (h : ArrI w c bv v done W) (hb : Below W.heap.size W W') : ArrI w c bv v done W' :=
  ⟨keep_block h.res hb, keep_block h.box hb, h.low.trans (hb.mono h.low.size), h.own.kept (only_of_below hb none) (by cases v.ownBlock <;> simp)⟩
theorem ArrI.size {w W : World} {c : Nat} {bv v : Value} {done : List Rat} (h : ArrI w c bv v done W) : w.heap.size + 2 ≤ W.heap.size := heap_lt h.box
theorem ArrI.push {w W W' : World} {c : Nat} {bv v v' : Value} {done : List Rat} {q : Rat} (h : ArrI w c bv v done W) (ho : W'.ownsRow (w.heap.size + 2) 27 9 v' (done.length + 1) (flat (numVals done) ++ (numVal' q).cells)) (hg : W.grownBy W' v.ownBlock) : ArrI w c bv v' (done ++ [q]) W' := by
  have hge : ∀ r, v.ownBlock = some r → w.heap.size + 2 ≤ r := owned_lt h.own
  have hother : ∀ k, k < w.heap.size + 2 → W'.heap[k]? = W.heap[k]? := fun k hk => hg.block k (Nat.lt_of_lt_of_le hk h.size) (fun e => by have := hge k e.symm; omega)
  exact ⟨(hother _ (by omega)).trans h.res, (hother _ (by omega)).trans h.box, h.low.grown hg h.low.size (fun r hr => by have := hge r hr; omega), by rw [numVals_snoc, List.length_append]; exact ho⟩
theorem ArrI.store {w W : World} {c : Nat} {bv v : Value} {done : List Rat} (h : ArrI w c bv v done W) : ArrI w c v v done (W.setCell ⟨w.heap.size + 1, 8, none⟩ v) := by
  refine ⟨(Below.heap_setCell _ ⟨w.heap.size + 1, 8, none⟩ v w.heap.size (by simp only []; omega)).trans h.res, ?_, h.low.setCell (p := ⟨w.heap.size + 1, 8, none⟩) (by simp only []; omega) _, ownsRow_setCell_below h.own (a := ⟨w.heap.size + 1, 8, none⟩) (by simp only []; omega) v⟩
  have := heap_setCell_at h.box 8 v
  rw [this]; rfl

end Go.Proofs.YtgponoogifeopaaGreatDoor.Num

/- Sums of hundredths, of their squares, products and differences: what fits and what is equal. Plain: no program. -/
namespace Go.Proofs.YtgponoogifeopaaGreatDoor.Num

def over (c : Nat) (xs : List Int) : List Rat := xs.map fun (x : Int) => (x : Rat) / ((c : Nat) : Rat)
theorem foldl_add (qs : List Rat) : ∀ s : Rat, qs.foldl (· + ·) s = s + sumL qs := by
  unfold sumL
  induction qs with
  | nil => intro s; simp [Rat.add_zero]
  | cons q r ih => intro s; rw [List.foldl_cons, List.foldl_cons, ih, ih (0 + q)]; grind
theorem sumL_cons (q : Rat) (qs : List Rat) : sumL (q :: qs) = q + sumL qs := by
  show (q :: qs).foldl (· + ·) 0 = _
  rw [List.foldl_cons, foldl_add]; grind
theorem sumL_over (c : Nat) : ∀ xs : List Int, sumL (over c xs) = ((xs.sum : Int) : Rat) / ((c : Nat) : Rat)
  | [] => by show (0 : Rat) = _; simp; grind
  | x :: r => by
    show sumL ((x : Rat) / ((c : Nat) : Rat) :: over c r) = _
    rw [sumL_cons, sumL_over c r, List.sum_cons, Rat.intCast_add]; grind
theorem sum_bound (X : Nat) : ∀ xs : List Int, (∀ x ∈ xs, x.natAbs ≤ X) → xs.sum.natAbs ≤ xs.length * X
  | [], _ => by simp
  | x :: r, h => by
    have h1 := h x (by simp)
    have h2 := sum_bound X r (fun y hy => h y (by simp [hy]))
    rw [List.sum_cons, List.length_cons, Nat.add_mul, Nat.one_mul]
    omega
theorem over_take (c : Nat) (xs : List Int) (k : Nat) : (over c xs).take k = over c (xs.take k) := by simp [over]

end Go.Proofs.YtgponoogifeopaaGreatDoor.Num

/- Means and deviations of rows of numbers over one denominator. Plain: no program. -/
namespace Go.Proofs.YtgponoogifeopaaGreatDoor.Num

theorem fits_one {c X : Nat} {x : Int} (hc : c ≠ 0) (hc9 : c < 10 ^ 300) (hX : X < 10 ^ 300) (h : x.natAbs ≤ X) : fits ((x : Rat) / ((c : Nat) : Rat)) = true :=
  Sm.fits (A := X) (B := c) ⟨x, c, hc, rfl, h, Nat.le_refl _⟩ hX hc9
theorem fits_big {c X L : Nat} {xs : List Int} (hc : c ≠ 0) (hc9 : c < 10 ^ 300) (hl : xs.length ≤ L) (hX : L * X < 10 ^ 300) (h : ∀ x ∈ xs, x.natAbs ≤ X) (k : Nat) : fits (sumL ((over c xs).take k)) = true := by
  rw [over_take, sumL_over]
  refine fits_one hc hc9 hX (Nat.le_trans (sum_bound X _ (fun x hx => h x (List.mem_of_mem_take hx))) (Nat.mul_le_mul ?_ (Nat.le_refl _)))
  rw [List.length_take]; omega
theorem fits_each {c X : Nat} {xs : List Int} (hc : c ≠ 0) (hc9 : c < 10 ^ 300) (hX : X < 10 ^ 300) (h : ∀ x ∈ xs, x.natAbs ≤ X) : ∀ q ∈ over c xs, fits q = true := by
  intro q hq
  obtain ⟨x, hx, rfl⟩ := List.mem_map.1 hq
  exact fits_one hc hc9 hX (h x hx)
theorem over_len (c : Nat) (xs : List Int) : (over c xs).length = xs.length := by simp [over]

/-- how many there are, as a fraction -/
def lenR (l : List Rat) : Rat := (((l.length : Nat) : Int) : Rat)
def meanR (l : List Rat) : Rat := sumL l / lenR l
theorem mean_over (c : Nat) (xs : List Int) (hc : c ≠ 0) (h0 : 0 < xs.length) : meanR (over c xs) = ((xs.sum : Int) : Rat) / ((c * xs.length : Nat) : Rat) := by
  have h1 := nat_ne hc
  have h2 := nat_ne (b := xs.length) (by omega)
  unfold meanR lenR
  rw [sumL_over, over_len, Rat.natCast_mul, Rat.intCast_natCast]
  grind
/-- numbers over c, at most X each, between 1 and 12 of them: all that is on the way fits -/
structure Row12 (c X : Nat) (xs : List Int) : Prop where
  c0 : c ≠ 0
  c9 : c ≤ 1000000
  pos : 0 < xs.length
  len : xs.length ≤ 30
  le : ∀ x ∈ xs, x.natAbs ≤ X
  X9 : X ≤ 1000000000000
section
variable {c X : Nat} {xs : List Int} (h : Row12 c X xs)
include h
theorem Row12.cn : c * xs.length ≠ 0 := Nat.mul_ne_zero h.c0 (by have := h.pos; omega)
theorem Row12.cn9 : c * xs.length ≤ 30000000 := by
  have := Nat.mul_le_mul h.c9 h.len; omega
theorem Row12.sumI : xs.sum.natAbs ≤ 30000000000000 := by
  have h1 := sum_bound X xs h.le
  have h2 := Nat.mul_le_mul h.len h.X9
  omega
theorem Row12.each : ∀ q ∈ over c xs, fits q = true :=
  fits_each h.c0 (Nat.lt_of_le_of_lt h.c9 (by decide +kernel)) (Nat.lt_of_le_of_lt h.X9 (by decide +kernel)) h.le
theorem Row12.sums (k : Nat) : fits (sumL ((over c xs).take k)) = true :=
  fits_big h.c0 (Nat.lt_of_le_of_lt h.c9 (by decide +kernel)) h.len (Nat.lt_of_le_of_lt (Nat.mul_le_mul (Nat.le_refl _) h.X9) (by decide +kernel)) h.le k
theorem Row12.mean : fits (meanR (over c xs)) = true := by
  rw [mean_over c xs h.c0 h.pos]
  exact fits_one h.cn (Nat.lt_of_le_of_lt h.cn9 (by decide +kernel)) (by decide +kernel) h.sumI
end
end Go.Proofs.YtgponoogifeopaaGreatDoor.Num

/- package fstat at rows of numbers over one denominator: sum, mean, devsq, variance, VARP, AVEDEV. Conditions: at most 30 numbers (Row12); the tables lie as they are laid. -/
namespace Go.Proofs.YtgponoogifeopaaGreatDoor.Num.Ft
open Go.RowKit Go.Lib Num

section
variable {c X : Nat} {xs : List Int} (h : Row12 c X xs)
include h
end
end Go.Proofs.YtgponoogifeopaaGreatDoor.Num.Ft

/- package fstat: the law's stat at AVERAGE, VAR, VARP, DEVSQ, AVEDEV of one array. Conditions: a row of at most 30 numbers over one denominator; the tables lie as they are laid. -/
namespace Go.Proofs.YtgponoogifeopaaGreatDoor.Num.Ft
open Go.RowKit Go.Lib Go.MapKept Num

theorem fr_of (i : Nat) (hi : i < allRows.length) (h : freshB allRows[i].name (allRows.take i) = true) : ∀ j (hj : j < i), (allRows[i].name == (allRows[j]'(by omega)).name) = false := by
  intro j hj
  have := fresh_of h (allRows[j]'(by omega)) (by
    rw [List.mem_take_iff_getElem]
    exact ⟨j, by omega, rfl⟩)
  exact this

/-- the law's stat at a row over its arguments, at one array -/
theorem stat_n (i : Nat) (r : Row) (hi : i < allRows.length) (hr : allRows[i] = r) (hraw : isRaw r.fn = false) (hkd : r.kinds = { data := #[97] }) (hfr : ∀ j (hj : j < i), (allRows[i].name == (allRows[j]'(by omega)).name) = false) (hnum : r.num = false) (hc1 : r.least = 1) (hc2 : r.most = 255) (eF : ∀ args w, (callFunc r.fn args).run Tryz.prog w = .ok (.enter r.fn args) w) (qs : List Rat) (q : Rat) (rr ss : Int) (gi Ci ab ao C : Nat) (w : World) (hA : AArg w (arrVal' rr ss gi qs.length Ci) qs) (hav : ValsAt w gi 0 (numVals qs)) (h0 : 0 < qs.length) (_ : qs.length ≤ 1000) (hqs : ∀ x ∈ qs, fits x = true) (hq : fits q = true) (hF : ∀ (W : World) (b g cap : Nat), Env W → Past b → ArgsAt W b (some ⟨g, 0, none⟩) 1 cap 0 → ValsAt W g 0 [arrVal' rr ss gi qs.length Ci] → ValsAt W gi 0 (numVals qs) → g ≠ b → gi ≠ b → Calls Tryz.prog r.fn #[.pointer (some ⟨b, 0, none⟩)] W fun e w' => e = .returned (fracV q) ∧ W.grownBy w' (some b)) (hv : ValsAt w ab ao [arrVal' rr ss gi qs.length Ci]) (hE : Env w) :
    Calls Tryz.prog 10 #[.string r.name, .slice (some ⟨ab, ao, none⟩) 1 C] w fun e w' => e = .returned (numVal q) ∧ Below w.heap.size w w' :=
  math_of r.name (.slice (some ⟨ab, ao, none⟩) 1 C) (numVal' q) w ⟨_, _, _, rfl⟩ (fun W b hb hT =>
    run_a_val i r hi hr hraw hkd hfr [arrVal' rr ss gi qs.length Ci] b ab ao C (numVal' q) W (show 0 < 1 by decide) (show 1 ≤ 300 by decide) (by rw [hc1]; exact (show (1 : Int) ≤ ((1 : Nat) : Int) by decide)) (by rw [hc2]; exact (show ((1 : Nat) : Int) ≤ 255 by decide)) (hv.below hb) (hE.below hb) hT ⟨rfl, rfl, rfl, rfl, rfl⟩ (fun W g => check_num q W hq g)
      (fun v hv' W' h => by
        simp only [List.mem_cons, List.not_mem_nil, or_false] at hv'
        subst hv'
        exact (hA.below (hb.trans (h.mono hb.size))).check hqs ((hE.below hb).below h))
      (fun W' e g cap hb' hE' hfn hva => entryn2_val r g cap e [arrVal' rr ss gi qs.length Ci] q W' hnum hfn eF hE' hva hq (fun W'' b' hb'' hE'' hP hbl hlt ha hva' hne =>
        have hB := hb.trans ((hb'.trans (hb''.mono hb'.size)).mono hb.size)
        have hgi : gi ≠ b' := by
          have h2 : gi < w.heap.size := cell_lt (hav.at 0 (by rw [numVals_len]; exact h0)).1
          have h3 := hb.size
          have h4 := hb'.size
          omega
        hF W'' b' g cap hE'' hP ha hva' (hav.below hB) hne hgi) (show 0 < 1 by decide)))
section
variable {c X : Nat} {xs : List Int} (h : Row12 c X xs)
include h
end
end Go.Proofs.YtgponoogifeopaaGreatDoor.Num.Ft

/- package value's Compare at numbers. Conditions: the numbers are not too long; the tables lie as they are laid. -/
namespace Go.Proofs.YtgponoogifeopaaGreatDoor.Num
open Go.RowKit Go.Lib

theorem same_one (p : Rat) (W : World) : Calls Tryz.prog 8 #[.agg #[.int .i64 1, .string (numS p), .string (denS p), .string { data := #[] }, .bool false, .int .i64 0, .int .i64 0, .int .i64 0, .slice none 0 0], .agg #[.int .i64 1, .string (numS p), .string (denS p), .string { data := #[] }, .bool false, .int .i64 0, .int .i64 0, .int .i64 0, .slice none 0 0]] W fun e w' => e = .returned (.bool true) ∧ Below W.heap.size W w' := by
  refine (same_num p p W).mono ?_
  rintro e w' ⟨rfl, h⟩
  exact ⟨by rw [decide_eq_true rfl], h⟩
set_option linter.unusedSimpArgs false in
set_option linter.unusedVariables false in
set_option maxHeartbeats 4000000 in
set_option maxRecDepth 100000 in
theorem like_num (p q : Rat) (w : World) : Calls Tryz.prog 19 #[.agg #[.int .i64 1, .string (numS p), .string (denS p), .string { data := #[] }, .bool false, .int .i64 0, .int .i64 0, .int .i64 0, .slice none 0 0], .agg #[.int .i64 1, .string (numS q), .string (denS q), .string { data := #[] }, .bool false, .int .i64 0, .int .i64 0, .int .i64 0, .slice none 0 0]] w fun e w' => e = .returned (.agg #[.int .i64 1, .string (numS p), .string (denS p), .string { data := #[] }, .bool false, .int .i64 0, .int .i64 0, .int .i64 0, .slice none 0 0]) ∧ Below w.heap.size w w' := by
  obtain ⟨hx, _, hr, hb⟩ := three_new w (.cells #[.int .i64 1, .string (numS p), .string (denS p), .string { data := #[] }, .bool false, .int .i64 0, .int .i64 0, .int .i64 0, .slice none 0 0] 27) (.cells #[.int .i64 1, .string (numS q), .string (denS q), .string { data := #[] }, .bool false, .int .i64 0, .int .i64 0, .int .i64 0, .slice none 0 0] 27) (.cells #[.int .i64 0, .string { data := #[] }, .string { data := #[] }, .string { data := #[] }, .bool false, .int .i64 0, .int .i64 0, .int .i64 0, .slice none 0 0] 27)
  obtain ⟨⟨x0, x1, x2, x3, x4, x5, x6, x7, x8⟩, _⟩ := nine_at hx
  obtain ⟨⟨r0, r1, r2, r3, r4, r5, r6, r7, r8⟩, g0, g1, g2, g3, g4, g5, g6, g7, g8⟩ := nine_at hr
  clear hx hr hb
  obtain ⟨_, _, hr2, nb⟩ := three_new w (.cells #[.int .i64 1, .string (numS p), .string (denS p), .string { data := #[] }, .bool false, .int .i64 0, .int .i64 0, .int .i64 0, .slice none 0 0] 27) (.cells #[.int .i64 1, .string (numS q), .string (denS q), .string { data := #[] }, .bool false, .int .i64 0, .int .i64 0, .int .i64 0, .slice none 0 0] 27) (.cells #[.int .i64 1, .string (numS p), .string (denS p), .string { data := #[] }, .bool false, .int .i64 0, .int .i64 0, .int .i64 0, .slice none 0 0] 27)
  obtain ⟨⟨e0, e1, e2, e3, e4, e5, e6, e7, e8⟩, _⟩ := nine_at hr2
  clear hr2
  go_enter Tryz.func19, Tryz.ntmps19
  go_wp2
  refine bodyPost_ret (v := .agg #[.int .i64 1, .string (numS p), .string (denS p), .string { data := #[] }, .bool false, .int .i64 0, .int .i64 0, .int .i64 0, .slice none 0 0]) (by simp [results, Tryz.results19, go_sem, e0, e1, e2, e3, e4, e5, e6, e7, e8]) rfl ⟨rfl, nb⟩

set_option linter.unusedSimpArgs false in
set_option linter.unusedVariables false in
set_option maxHeartbeats 4000000 in
set_option maxRecDepth 100000 in
theorem compared_num (p q : Rat) (w : World) (hp : fits p = true) (hq : fits q = true) : Calls Tryz.prog 22 #[.agg #[.int .i64 1, .string (numS p), .string (denS p), .string { data := #[] }, .bool false, .int .i64 0, .int .i64 0, .int .i64 0, .slice none 0 0], .agg #[.int .i64 1, .string (numS q), .string (denS q), .string { data := #[] }, .bool false, .int .i64 0, .int .i64 0, .int .i64 0, .slice none 0 0]] w fun e w' => e = .returned (.int .i64 (cmpR p q)) ∧ Below w.heap.size w w' := by
  have TC := Lib.hid (fun W => compare_q p q W hp hq)
  rw [fracV_is p, fracV_is q] at TC
  obtain ⟨hx, hy, _⟩ := two_new w (.cells #[.int .i64 1, .string (numS p), .string (denS p), .string { data := #[] }, .bool false, .int .i64 0, .int .i64 0, .int .i64 0, .slice none 0 0] 27) (.cells #[.int .i64 1, .string (numS q), .string (denS q), .string { data := #[] }, .bool false, .int .i64 0, .int .i64 0, .int .i64 0, .slice none 0 0] 27)
  have hb : Below w.heap.size w ((w.alloc (.cells #[.int .i64 1, .string (numS p), .string (denS p), .string { data := #[] }, .bool false, .int .i64 0, .int .i64 0, .int .i64 0, .slice none 0 0] 27)).alloc (.cells #[.int .i64 1, .string (numS q), .string (denS q), .string { data := #[] }, .bool false, .int .i64 0, .int .i64 0, .int .i64 0, .slice none 0 0] 27)) := ((Below.refl _ _).alloc (Nat.le_refl _) _).alloc (by simp) _
  have HX := Lib.hid hx
  have HY := Lib.hid hy
  have HL := Lib.hid hb
  clear hx hy hb hp hq
  obtain ⟨⟨x0, x1, x2, x3, x4, x5, x6, x7, x8⟩, _⟩ := nine_at HX.out
  obtain ⟨⟨y0, y1, y2, y3, y4, y5, y6, y7, y8⟩, _⟩ := nine_at HY.out
  go_enter Tryz.func22, Tryz.ntmps22
  go_wp2_with fail
  refine (TC.out _).mono ?_
  rintro e W1 ⟨rfl, hb⟩
  replace HL := Lib.hid (HL.out.trans (hb.mono HL.out.size))
  clear hb
  go_wp2
  go_ret
  exact ⟨rfl, HL.out⟩

set_option linter.unusedSimpArgs false in
set_option linter.unusedVariables false in
set_option maxHeartbeats 4000000 in
set_option maxRecDepth 100000 in
theorem both_num (p q : Rat) (w : World) (hp : fits p = true) (hq : fits q = true) (hE : Env w) : Calls Tryz.prog 18 #[.agg #[.int .i64 1, .string (numS p), .string (denS p), .string { data := #[] }, .bool false, .int .i64 0, .int .i64 0, .int .i64 0, .slice none 0 0], .agg #[.int .i64 1, .string (numS q), .string (denS q), .string { data := #[] }, .bool false, .int .i64 0, .int .i64 0, .int .i64 0, .slice none 0 0], .int .i64 3] w fun e w' => e = .returned (.int .i64 0) ∧ Below w.heap.size w w' := by
  have C1 := Lib.hid (fun W g => check_num p W hp g)
  have C2 := Lib.hid (fun W g => check_num q W hq g)
  have i0 : ∀ w, (Instr.index 52 (.agg #[.int .i64 1, .string (numS p), .string (denS p), .string { data := #[] }, .bool false, .int .i64 0, .int .i64 0, .int .i64 0, .slice none 0 0, .int .i64 1, .string (numS q), .string (denS q), .string { data := #[] }, .bool false, .int .i64 0, .int .i64 0, .int .i64 0, .slice none 0 0]) (.int .i64 0)).run Tryz.prog w = .ok (.agg #[.int .i64 1, .string (numS p), .string (denS p), .string { data := #[] }, .bool false, .int .i64 0, .int .i64 0, .int .i64 0, .slice none 0 0]) w := fun _ => by kernel_rfl
  have i1 : ∀ w, (Instr.index 52 (.agg #[.int .i64 1, .string (numS p), .string (denS p), .string { data := #[] }, .bool false, .int .i64 0, .int .i64 0, .int .i64 0, .slice none 0 0, .int .i64 1, .string (numS q), .string (denS q), .string { data := #[] }, .bool false, .int .i64 0, .int .i64 0, .int .i64 0, .slice none 0 0]) (.int .i64 1)).run Tryz.prog w = .ok (.agg #[.int .i64 1, .string (numS q), .string (denS q), .string { data := #[] }, .bool false, .int .i64 0, .int .i64 0, .int .i64 0, .slice none 0 0]) w := fun _ => by kernel_rfl
  obtain ⟨hx, hy, _⟩ := two_new w (.cells #[.int .i64 1, .string (numS p), .string (denS p), .string { data := #[] }, .bool false, .int .i64 0, .int .i64 0, .int .i64 0, .slice none 0 0] 27) (.cells #[.int .i64 1, .string (numS q), .string (denS q), .string { data := #[] }, .bool false, .int .i64 0, .int .i64 0, .int .i64 0, .slice none 0 0] 27)
  have hb : Below w.heap.size w ((w.alloc (.cells #[.int .i64 1, .string (numS p), .string (denS p), .string { data := #[] }, .bool false, .int .i64 0, .int .i64 0, .int .i64 0, .slice none 0 0] 27)).alloc (.cells #[.int .i64 1, .string (numS q), .string (denS q), .string { data := #[] }, .bool false, .int .i64 0, .int .i64 0, .int .i64 0, .slice none 0 0] 27)) := ((Below.refl _ _).alloc (Nat.le_refl _) _).alloc (by simp) _
  have HX := Lib.hid hx
  have HY := Lib.hid hy
  have HL := Lib.hid hb
  have HE := Lib.hid (hE.below hb)
  clear hx hy hb hp hq hE
  obtain ⟨W0, hW0⟩ : ∃ Z, (w.alloc (.cells #[.int .i64 1, .string (numS p), .string (denS p), .string { data := #[] }, .bool false, .int .i64 0, .int .i64 0, .int .i64 0, .slice none 0 0] 27)).alloc (.cells #[.int .i64 1, .string (numS q), .string (denS q), .string { data := #[] }, .bool false, .int .i64 0, .int .i64 0, .int .i64 0, .slice none 0 0] 27) = Z := ⟨_, rfl⟩
  rw [hW0] at HX HY HL HE
  have EW0 := Lib.hid hW0
  clear hW0
  have hb : Below W0.heap.size W0 (W0.alloc (.cells #[.int .i64 1, .string (numS p), .string (denS p), .string { data := #[] }, .bool false, .int .i64 0, .int .i64 0, .int .i64 0, .slice none 0 0] 27)) := (Below.refl _ _).alloc (Nat.le_refl _) _
  go_enter Tryz.func18, Tryz.ntmps18
  go_wp2
  rw [EW0.out]
  replace HX := Lib.hid (keep_block HX.out hb)
  replace HY := Lib.hid (keep_block HY.out hb)
  replace HE := Lib.hid (HE.out.below hb)
  replace HL := Lib.hid (HL.out.trans (hb.mono HL.out.size))
  clear hb
  refine wp_loop_rounds 3 ?_
  rw [rounds_succ]
  go_wp2_with fail
  refine (C1.out _ HE.out).mono ?_
  rintro e W1 ⟨rfl, hb⟩
  replace HX := Lib.hid (keep_block HX.out hb)
  replace HY := Lib.hid (keep_block HY.out hb)
  replace HE := Lib.hid (HE.out.below hb)
  replace HL := Lib.hid (HL.out.trans (hb.mono HL.out.size))
  clear hb
  go_wp2
  rw [rounds_succ]
  have hb : Below W1.heap.size W1 (W1.alloc (.cells #[.int .i64 1, .string (numS q), .string (denS q), .string { data := #[] }, .bool false, .int .i64 0, .int .i64 0, .int .i64 0, .slice none 0 0] 27)) := (Below.refl _ _).alloc (Nat.le_refl _) _
  replace HX := Lib.hid (keep_block HX.out hb)
  replace HY := Lib.hid (keep_block HY.out hb)
  replace HE := Lib.hid (HE.out.below hb)
  replace HL := Lib.hid (HL.out.trans (hb.mono HL.out.size))
  clear hb
  go_wp2_with fail
  refine (C2.out _ HE.out).mono ?_
  rintro e W2 ⟨rfl, hb⟩
  replace HX := Lib.hid (keep_block HX.out hb)
  replace HY := Lib.hid (keep_block HY.out hb)
  replace HE := Lib.hid (HE.out.below hb)
  replace HL := Lib.hid (HL.out.trans (hb.mono HL.out.size))
  clear hb
  go_wp2
  rw [rounds_succ]
  obtain ⟨⟨x0, x1, x2, x3, x4, x5, x6, x7, x8⟩, _⟩ := nine_at HX.out
  obtain ⟨⟨y0, y1, y2, y3, y4, y5, y6, y7, y8⟩, _⟩ := nine_at HY.out
  go_wp2
  go_ret
  exact ⟨rfl, HL.out⟩

set_option linter.unusedVariables false in
/-- what the operations of region 4 yield -/
def CmpKs4 (w W1 : World) (p q : Rat) : List RK :=
  [.pure (.agg #[.int .i64 1, .string (numS p), .string (denS p), .string { data := #[] }, .bool false, .int .i64 0, .int .i64 0, .int .i64 0, .slice none 0 0]),
   .pure (.agg #[.int .i64 1, .string (numS q), .string (denS q), .string { data := #[] }, .bool false, .int .i64 0, .int .i64 0, .int .i64 0, .slice none 0 0]),
   .pure (.agg #[.int .i64 1, .string (numS p), .string (denS p), .string { data := #[] }, .bool false, .int .i64 0, .int .i64 0, .int .i64 0, .slice none 0 0]),
   .pure (.agg #[.int .i64 1, .string (numS q), .string (denS q), .string { data := #[] }, .bool false, .int .i64 0, .int .i64 0, .int .i64 0, .slice none 0 0]),
   .pure (.agg #[.int .i64 1, .string (numS p), .string (denS p), .string { data := #[] }, .bool false, .int .i64 0, .int .i64 0, .int .i64 0, .slice none 0 0]),
   .pure (.agg #[.int .i64 1, .string (numS q), .string (denS q), .string { data := #[] }, .bool false, .int .i64 0, .int .i64 0, .int .i64 0, .slice none 0 0]),
   .put 8,
   .put 9,
   .box (some (w.heap.size)) #[.int .i64 1, .string (numS p), .string (denS p), .string { data := #[] }, .bool false, .int .i64 0, .int .i64 0, .int .i64 0, .slice none 0 0] #[.int .i64 1, .string (numS p), .string (denS p), .string { data := #[] }, .bool false, .int .i64 0, .int .i64 0, .int .i64 0, .slice none 0 0] 27 6,
   .box (some (w.heap.size + 1)) #[.int .i64 1, .string (numS q), .string (denS q), .string { data := #[] }, .bool false, .int .i64 0, .int .i64 0, .int .i64 0, .slice none 0 0] #[.int .i64 1, .string (numS q), .string (denS q), .string { data := #[] }, .bool false, .int .i64 0, .int .i64 0, .int .i64 0, .slice none 0 0] 27 7]
set_option linter.unusedSimpArgs false in
set_option linter.unusedVariables false in
set_option maxHeartbeats 4000000 in
set_option maxRecDepth 100000 in
theorem compare_num (p q : Rat) (w : World) (hp : fits p = true) (hq : fits q = true) (hE : Env w) : Calls Tryz.prog 11 #[.agg #[.int .i64 1, .string (numS p), .string (denS p), .string { data := #[] }, .bool false, .int .i64 0, .int .i64 0, .int .i64 0, .slice none 0 0], .agg #[.int .i64 1, .string (numS q), .string (denS q), .string { data := #[] }, .bool false, .int .i64 0, .int .i64 0, .int .i64 0, .slice none 0 0]] w fun e w' => e = .returned (.tuple #[.int .i64 (cmpR p q), .int .i64 0]) ∧ Below w.heap.size w w' := by
  have TB := Lib.hid (fun W g => both_num p q W hp hq g)
  have T1 := Lib.hid (fun W => like_num p q W)
  have T2 := Lib.hid (fun W => like_num q p W)
  have TC := Lib.hid (fun W => compared_num p q W hp hq)
  obtain ⟨hx, hy, _⟩ := two_new w (.cells #[.int .i64 1, .string (numS p), .string (denS p), .string { data := #[] }, .bool false, .int .i64 0, .int .i64 0, .int .i64 0, .slice none 0 0] 27) (.cells #[.int .i64 1, .string (numS q), .string (denS q), .string { data := #[] }, .bool false, .int .i64 0, .int .i64 0, .int .i64 0, .slice none 0 0] 27)
  have hb : Below w.heap.size w ((w.alloc (.cells #[.int .i64 1, .string (numS p), .string (denS p), .string { data := #[] }, .bool false, .int .i64 0, .int .i64 0, .int .i64 0, .slice none 0 0] 27)).alloc (.cells #[.int .i64 1, .string (numS q), .string (denS q), .string { data := #[] }, .bool false, .int .i64 0, .int .i64 0, .int .i64 0, .slice none 0 0] 27)) := ((Below.refl _ _).alloc (Nat.le_refl _) _).alloc (by simp) _
  have H2 := Lib.hid hx
  have H3 := Lib.hid hy
  have HL := Lib.hid hb
  have HE := Lib.hid (hE.below hb)
  clear hx hy hb hp hq hE
  obtain ⟨W0, hW0⟩ : ∃ Z, (w.alloc (.cells #[.int .i64 1, .string (numS p), .string (denS p), .string { data := #[] }, .bool false, .int .i64 0, .int .i64 0, .int .i64 0, .slice none 0 0] 27)).alloc (.cells #[.int .i64 1, .string (numS q), .string (denS q), .string { data := #[] }, .bool false, .int .i64 0, .int .i64 0, .int .i64 0, .slice none 0 0] 27) = Z := ⟨_, rfl⟩
  rw [hW0] at H2 H3 HL HE
  have EW0 := Lib.hid hW0
  clear hW0
  go_enter Tryz.func11, Tryz.ntmps11
  go_wp2_with fail
  rw [EW0.out]
  refine (TB.out _ HE.out).mono ?_
  rintro e W1 ⟨rfl, hb⟩
  replace H2 := Lib.hid (keep_block H2.out hb)
  replace H3 := Lib.hid (keep_block H3.out hb)
  replace HE := Lib.hid (HE.out.below hb)
  replace HL := Lib.hid (HL.out.trans (hb.mono HL.out.size))
  clear hb
  go_wp2_with fail
  have hok : okB 8 (CmpKs4 w W1 p q) = true := by kernel_rfl
  have hna := noAny_of (ks := (CmpKs4 w W1 p q)) (by kernel_rfl)
  have hla := lasts_of hna
  refine wp_region_facts (row := none) (w := w) 8 (CmpKs4 w W1 p q) [some 13, some 14, some 15, some 16, some 17, some 18, none, none] (by kernel_rfl) (by kernel_rfl) rfl [undef, undef, undef, undef, undef, undef, undef, undef, .pointer (some ⟨w.heap.size, 0, none⟩), .pointer (some ⟨w.heap.size + 1, 0, none⟩)] ?h00 (Fs.start_olds hla rfl (only_of_below HL.out none) ⟨⟨_, rfl, fun _ h => Option.some.inj h, by omega, H2.out⟩, fun _ => ⟨fun _ => far_of (by omega), trivial⟩, ⟨⟨_, rfl, fun _ h => Option.some.inj h, by omega, H3.out⟩, fun _ => trivial, trivial⟩⟩) ?hs ?hd
  case h00 => simp only [putO, layT_some, layT_none, layT_nil, List.setIfInBounds_toArray, List.set_cons_zero, List.set_cons_succ]
  case hs =>
    rintro listed vs Wr hF i hi hun hpre
    obtain ⟨s0, s1, s2, s3, s4, s5, s6, s7, o0, o1, hvs⟩ := exl_of 10 vs (fun l => vs = l) hF.len rfl
    subst hvs
    obtain ⟨_, eG0, hg0, gG0, hO0⟩ : ∃ G, o0 = .pointer (some ⟨G, 0, none⟩) ∧ (∀ k, some (w.heap.size) = some k → G = k) ∧ w.heap.size ≤ G ∧ Wr.heap[G]? = some (.cells (if listed.getD 6 false = true then #[.int .i64 1, .string (numS p), .string (denS p), .string { data := #[] }, .bool false, .int .i64 0, .int .i64 0, .int .i64 0, .slice none 0 0] else #[.int .i64 1, .string (numS p), .string (denS p), .string { data := #[] }, .bool false, .int .i64 0, .int .i64 0, .int .i64 0, .slice none 0 0]) 27 (0, 0)) := hF.get 8 _ rfl (.inl (by decide))
    have hg0 := hg0 _ rfl
    subst hg0
    subst eG0
    obtain ⟨_, eG1, hg1, gG1, hO1⟩ : ∃ G, o1 = .pointer (some ⟨G, 0, none⟩) ∧ (∀ k, some (w.heap.size + 1) = some k → G = k) ∧ w.heap.size ≤ G ∧ Wr.heap[G]? = some (.cells (if listed.getD 7 false = true then #[.int .i64 1, .string (numS q), .string (denS q), .string { data := #[] }, .bool false, .int .i64 0, .int .i64 0, .int .i64 0, .slice none 0 0] else #[.int .i64 1, .string (numS q), .string (denS q), .string { data := #[] }, .bool false, .int .i64 0, .int .i64 0, .int .i64 0, .slice none 0 0]) 27 (0, 0)) := hF.get 9 _ rfl (.inl (by decide))
    have hg1 := hg1 _ rfl
    subst hg1
    subst eG1
    have hge := Nat.zero_le i
    simp only [putO, layT_some, layT_none, layT_nil, List.setIfInBounds_toArray, List.set_cons_zero, List.set_cons_succ]
    rcases Nat.lt_or_ge i 4 with hlt | hgt
    · replace hi := hlt
      clear hlt
      rcases Nat.lt_or_ge i 2 with hlt | hgt
      · replace hi := hlt
        clear hlt
        rcases Nat.lt_or_ge i 1 with hlt | hgt
        · replace hi := hlt
          clear hlt
          have he : i = 0 := Nat.le_antisymm (Nat.le_of_lt_succ hi) hge
          subst he
          rw [if_neg (fun h => bit_off hun (hF.back 6 0 h (by kernel_rfl)))] at hO0
          have hcc := (nine_at (hO0)).1
          have cH20 := hcc.1
          have cH21 := hcc.2.1
          have cH22 := hcc.2.2.1
          have cH23 := hcc.2.2.2.1
          have cH24 := hcc.2.2.2.2.1
          have cH25 := hcc.2.2.2.2.2.1
          have cH26 := hcc.2.2.2.2.2.2.1
          have cH27 := hcc.2.2.2.2.2.2.2.1
          have cH28 := hcc.2.2.2.2.2.2.2.2
          clear hcc
          refine step_of ⟨some 13, _, _, _, _, _⟩ rfl (fun K' hK => ?_)
          go_simp
          refine hK.out _ _ ⟨_, hF.pure hok hla hpre rfl (Below.refl _ _), ?fr⟩
          case fr => simp only [putO, layT_some, layT_none, layT_nil, List.setIfInBounds_toArray, List.set_cons_zero, List.set_cons_succ]
        · replace hge : 1 ≤ i := hgt
          clear hgt
          have he : i = 1 := Nat.le_antisymm (Nat.le_of_lt_succ hi) hge
          subst he
          rw [if_neg (fun h => bit_off hun (hF.back 7 1 h (by kernel_rfl)))] at hO1
          have hcc := (nine_at (hO1)).1
          have cH30 := hcc.1
          have cH31 := hcc.2.1
          have cH32 := hcc.2.2.1
          have cH33 := hcc.2.2.2.1
          have cH34 := hcc.2.2.2.2.1
          have cH35 := hcc.2.2.2.2.2.1
          have cH36 := hcc.2.2.2.2.2.2.1
          have cH37 := hcc.2.2.2.2.2.2.2.1
          have cH38 := hcc.2.2.2.2.2.2.2.2
          clear hcc
          refine step_of ⟨some 14, _, _, _, _, _⟩ rfl (fun K' hK => ?_)
          go_simp
          refine hK.out _ _ ⟨_, hF.pure hok hla hpre rfl (Below.refl _ _), ?fr⟩
          case fr => simp only [putO, layT_some, layT_none, layT_nil, List.setIfInBounds_toArray, List.set_cons_zero, List.set_cons_succ]
      · replace hge : 2 ≤ i := hgt
        clear hgt
        rcases Nat.lt_or_ge i 3 with hlt | hgt
        · replace hi := hlt
          clear hlt
          have he : i = 2 := Nat.le_antisymm (Nat.le_of_lt_succ hi) hge
          subst he
          have p0 := hpre 0 (by kernel_rfl)
          have e0 : s0 = .agg #[.int .i64 1, .string (numS p), .string (denS p), .string { data := #[] }, .bool false, .int .i64 0, .int .i64 0, .int .i64 0, .slice none 0 0] := hF.get 0 _ rfl (.inr p0)
          subst e0
          have p1 := hpre 1 (by kernel_rfl)
          have e1 : s1 = .agg #[.int .i64 1, .string (numS q), .string (denS q), .string { data := #[] }, .bool false, .int .i64 0, .int .i64 0, .int .i64 0, .slice none 0 0] := hF.get 1 _ rfl (.inr p1)
          subst e1
          refine step_of ⟨some 15, _, _, _, _, _⟩ rfl (fun K' hK => ?_)
          go_simp
          go_at_call 19
          (with_reducible refine (T1.out _).mono ?_)
          rintro e Wq ⟨rfl, hq⟩
          refine hK.out _ _ ⟨_, hF.pure hok hla hpre rfl hq, ?fr⟩
          case fr => simp only [putO, layT_some, layT_none, layT_nil, List.setIfInBounds_toArray, List.set_cons_zero, List.set_cons_succ]
        · replace hge : 3 ≤ i := hgt
          clear hgt
          have he : i = 3 := Nat.le_antisymm (Nat.le_of_lt_succ hi) hge
          subst he
          rw [if_neg (fun h => bit_off hun (hF.back 7 3 h (by kernel_rfl)))] at hO1
          have hcc := (nine_at (hO1)).1
          have cH30 := hcc.1
          have cH31 := hcc.2.1
          have cH32 := hcc.2.2.1
          have cH33 := hcc.2.2.2.1
          have cH34 := hcc.2.2.2.2.1
          have cH35 := hcc.2.2.2.2.2.1
          have cH36 := hcc.2.2.2.2.2.2.1
          have cH37 := hcc.2.2.2.2.2.2.2.1
          have cH38 := hcc.2.2.2.2.2.2.2.2
          clear hcc
          refine step_of ⟨some 16, _, _, _, _, _⟩ rfl (fun K' hK => ?_)
          go_simp
          refine hK.out _ _ ⟨_, hF.pure hok hla hpre rfl (Below.refl _ _), ?fr⟩
          case fr => simp only [putO, layT_some, layT_none, layT_nil, List.setIfInBounds_toArray, List.set_cons_zero, List.set_cons_succ]
    · replace hge : 4 ≤ i := hgt
      clear hgt
      rcases Nat.lt_or_ge i 6 with hlt | hgt
      · replace hi := hlt
        clear hlt
        rcases Nat.lt_or_ge i 5 with hlt | hgt
        · replace hi := hlt
          clear hlt
          have he : i = 4 := Nat.le_antisymm (Nat.le_of_lt_succ hi) hge
          subst he
          rw [if_neg (fun h => bit_off hun (hF.back 6 4 h (by kernel_rfl)))] at hO0
          have hcc := (nine_at (hO0)).1
          have cH20 := hcc.1
          have cH21 := hcc.2.1
          have cH22 := hcc.2.2.1
          have cH23 := hcc.2.2.2.1
          have cH24 := hcc.2.2.2.2.1
          have cH25 := hcc.2.2.2.2.2.1
          have cH26 := hcc.2.2.2.2.2.2.1
          have cH27 := hcc.2.2.2.2.2.2.2.1
          have cH28 := hcc.2.2.2.2.2.2.2.2
          clear hcc
          refine step_of ⟨some 17, _, _, _, _, _⟩ rfl (fun K' hK => ?_)
          go_simp
          refine hK.out _ _ ⟨_, hF.pure hok hla hpre rfl (Below.refl _ _), ?fr⟩
          case fr => simp only [putO, layT_some, layT_none, layT_nil, List.setIfInBounds_toArray, List.set_cons_zero, List.set_cons_succ]
        · replace hge : 5 ≤ i := hgt
          clear hgt
          have he : i = 5 := Nat.le_antisymm (Nat.le_of_lt_succ hi) hge
          subst he
          have p3 := hpre 3 (by kernel_rfl)
          have e3 : s3 = .agg #[.int .i64 1, .string (numS q), .string (denS q), .string { data := #[] }, .bool false, .int .i64 0, .int .i64 0, .int .i64 0, .slice none 0 0] := hF.get 3 _ rfl (.inr p3)
          subst e3
          have p4 := hpre 4 (by kernel_rfl)
          have e4 : s4 = .agg #[.int .i64 1, .string (numS p), .string (denS p), .string { data := #[] }, .bool false, .int .i64 0, .int .i64 0, .int .i64 0, .slice none 0 0] := hF.get 4 _ rfl (.inr p4)
          subst e4
          refine step_of ⟨some 18, _, _, _, _, _⟩ rfl (fun K' hK => ?_)
          go_simp
          go_at_call 19
          (with_reducible refine (T2.out _).mono ?_)
          rintro e Wq ⟨rfl, hq⟩
          refine hK.out _ _ ⟨_, hF.pure hok hla hpre rfl hq, ?fr⟩
          case fr => simp only [putO, layT_some, layT_none, layT_nil, List.setIfInBounds_toArray, List.set_cons_zero, List.set_cons_succ]
      · replace hge : 6 ≤ i := hgt
        clear hgt
        rcases Nat.lt_or_ge i 7 with hlt | hgt
        · replace hi := hlt
          clear hlt
          have he : i = 6 := Nat.le_antisymm (Nat.le_of_lt_succ hi) hge
          subst he
          have p2 := hpre 2 (by kernel_rfl)
          have e2 : s2 = .agg #[.int .i64 1, .string (numS p), .string (denS p), .string { data := #[] }, .bool false, .int .i64 0, .int .i64 0, .int .i64 0, .slice none 0 0] := hF.get 2 _ rfl (.inr p2)
          subst e2
          rw [if_neg (bit_off hun)] at hO0
          have HGB := Lib.hid hO0
          obtain ⟨⟨y0, y1, y2, y3, y4, y5, y6, y7, y8⟩, g0, g1, g2, g3, g4, g5, g6, g7, g8⟩ := nine_at HGB.out
          refine step_of ⟨none, _, _, _, _, _⟩ rfl (fun K' hK => ?_)
          go_simp
          refine hK.out _ _ ⟨undef, hF.put hok hna hpre hun rfl undef rfl (.inl (by decide)) rfl (set9_at HGB.out (.int .i64 1) (.string (numS p)) (.string (denS p)) (.string { data := #[] }) (.bool false) (.int .i64 0) (.int .i64 0) (.int .i64 0) (.slice none 0 0)) (fun k hk => set9_other _ _ (.int .i64 1) (.string (numS p)) (.string (denS p)) (.string { data := #[] }) (.bool false) (.int .i64 0) (.int .i64 0) (.int .i64 0) (.slice none 0 0) hk) (put9_below gG0 _ (.int .i64 1) (.string (numS p)) (.string (denS p)) (.string { data := #[] }) (.bool false) (.int .i64 0) (.int .i64 0) (.int .i64 0) (.slice none 0 0)), ?fr⟩
          case fr => simp only [putO, layT_some, layT_none, layT_nil, List.setIfInBounds_toArray, List.set_cons_zero, List.set_cons_succ]
        · replace hge : 7 ≤ i := hgt
          clear hgt
          have he : i = 7 := Nat.le_antisymm (Nat.le_of_lt_succ hi) hge
          subst he
          have p5 := hpre 5 (by kernel_rfl)
          have e5 : s5 = .agg #[.int .i64 1, .string (numS q), .string (denS q), .string { data := #[] }, .bool false, .int .i64 0, .int .i64 0, .int .i64 0, .slice none 0 0] := hF.get 5 _ rfl (.inr p5)
          subst e5
          rw [if_neg (bit_off hun)] at hO1
          have HGB := Lib.hid hO1
          obtain ⟨⟨y0, y1, y2, y3, y4, y5, y6, y7, y8⟩, g0, g1, g2, g3, g4, g5, g6, g7, g8⟩ := nine_at HGB.out
          refine step_of ⟨none, _, _, _, _, _⟩ rfl (fun K' hK => ?_)
          go_simp
          refine hK.out _ _ ⟨undef, hF.put hok hna hpre hun rfl undef rfl (.inl (by decide)) rfl (set9_at HGB.out (.int .i64 1) (.string (numS q)) (.string (denS q)) (.string { data := #[] }) (.bool false) (.int .i64 0) (.int .i64 0) (.int .i64 0) (.slice none 0 0)) (fun k hk => set9_other _ _ (.int .i64 1) (.string (numS q)) (.string (denS q)) (.string { data := #[] }) (.bool false) (.int .i64 0) (.int .i64 0) (.int .i64 0) (.slice none 0 0) hk) (put9_below gG1 _ (.int .i64 1) (.string (numS q)) (.string (denS q)) (.string { data := #[] }) (.bool false) (.int .i64 0) (.int .i64 0) (.int .i64 0) (.slice none 0 0)), ?fr⟩
          case fr => simp only [putO, layT_some, layT_none, layT_nil, List.setIfInBounds_toArray, List.set_cons_zero, List.set_cons_succ]
  case hd =>
    rintro listed vs W2 hF hall
    obtain ⟨s0, s1, s2, s3, s4, s5, s6, s7, o0, o1, hvs⟩ := exl_of 10 vs (fun l => vs = l) hF.len rfl
    subst hvs
    obtain ⟨_, eG0, hg0, gG0, hO0⟩ : ∃ G, o0 = .pointer (some ⟨G, 0, none⟩) ∧ (∀ k, some (w.heap.size) = some k → G = k) ∧ w.heap.size ≤ G ∧ W2.heap[G]? = some (.cells (if listed.getD 6 false = true then #[.int .i64 1, .string (numS p), .string (denS p), .string { data := #[] }, .bool false, .int .i64 0, .int .i64 0, .int .i64 0, .slice none 0 0] else #[.int .i64 1, .string (numS p), .string (denS p), .string { data := #[] }, .bool false, .int .i64 0, .int .i64 0, .int .i64 0, .slice none 0 0]) 27 (0, 0)) := hF.get 8 _ rfl (.inl (by decide))
    have hg0 := hg0 _ rfl
    subst hg0
    subst eG0
    obtain ⟨_, eG1, hg1, gG1, hO1⟩ : ∃ G, o1 = .pointer (some ⟨G, 0, none⟩) ∧ (∀ k, some (w.heap.size + 1) = some k → G = k) ∧ w.heap.size ≤ G ∧ W2.heap[G]? = some (.cells (if listed.getD 7 false = true then #[.int .i64 1, .string (numS q), .string (denS q), .string { data := #[] }, .bool false, .int .i64 0, .int .i64 0, .int .i64 0, .slice none 0 0] else #[.int .i64 1, .string (numS q), .string (denS q), .string { data := #[] }, .bool false, .int .i64 0, .int .i64 0, .int .i64 0, .slice none 0 0]) 27 (0, 0)) := hF.get 9 _ rfl (.inl (by decide))
    have hg1 := hg1 _ rfl
    subst hg1
    subst eG1
    rw [if_pos (hall 6 (by decide))] at hO0
    replace H2 := Lib.hid hO0
    clear hO0
    rw [if_pos (hall 7 (by decide))] at hO1
    replace H3 := Lib.hid hO1
    clear hO1
    have HQ := Lib.hid hF.low
    clear hF hall hok hna hla
    simp only [putO, layT_some, layT_none, layT_nil, List.setIfInBounds_toArray, List.set_cons_zero, List.set_cons_succ]
    obtain ⟨⟨x0, x1, x2, x3, x4, x5, x6, x7, x8⟩, _⟩ := nine_at H2.out
    obtain ⟨⟨y0, y1, y2, y3, y4, y5, y6, y7, y8⟩, _⟩ := nine_at H3.out
    go_wp2_with fail
    refine (TC.out _).mono ?_
    rintro e W3 ⟨rfl, hb⟩
    have HL3 := Lib.hid ((below_none HQ.out).trans (hb.mono HQ.out.size))
    clear hb
    go_wp2
    go_ret2
    exact ⟨rfl, HL3.out⟩
end Go.Proofs.YtgponoogifeopaaGreatDoor.Num

/- A region that draws its order, by what each operation yields, the frame under one name: each operation reads the frame by facts. Plain: of no program. -/
namespace Go.Proofs.YtgponoogifeopaaGreatDoor.Num
open Go.RowKit Go.Lib

/-- the slots are not one another -/
def distO : List (Option Nat) → Bool
  | [] => true
  | none :: r => distO r
  | some d :: r => !r.contains (some d) && distO r
theorem layT_out : ∀ (sl : List (Option Nat)) (vs : List Value) (t : Array Value) (d : Nat), sl.contains (some d) = false → (layT sl vs t)[d]? = t[d]?
  | [], vs, t, d, _ => by rw [layT_nil]
  | none :: sl, [], t, d, _ => rfl
  | some e :: sl, [], t, d, _ => rfl
  | none :: sl, v :: vs, t, d, h => by
    rw [layT_none]
    exact layT_out sl vs t d (by simpa using h)
  | some e :: sl, v :: vs, t, d, h => by
    have h2 : d ≠ e ∧ sl.contains (some d) = false := by simpa using h
    rw [layT_some, layT_out sl vs _ d h2.2, Array.getElem?_setIfInBounds_ne (Ne.symm h2.1)]
theorem layT_in : ∀ (sl : List (Option Nat)) (vs : List Value) (t : Array Value) (i d : Nat) (v : Value), distO sl = true → sl[i]? = some (some d) → vs[i]? = some v → d < t.size → (layT sl vs t)[d]? = some v
  | [], _, _, i, _, _, _, h, _, _ => by simp at h
  | _ :: _, [], _, i, _, _, _, _, h, _ => by simp at h
  | none :: sl, u :: vs, t, 0, d, v, _, h, _, _ => by simp at h
  | none :: sl, u :: vs, t, i + 1, d, v, hd, h, hv, ht => by
    rw [layT_none]
    exact layT_in sl vs t i d v hd (by simpa using h) (by simpa using hv) ht
  | some e :: sl, u :: vs, t, 0, d, v, hd, h, hv, ht => by
    have h1 : e = d := by simpa using h
    have h2 : u = v := by simpa using hv
    subst h1
    subst h2
    have hd : (!sl.contains (some e) && distO sl) = true := hd
    rw [Bool.and_eq_true, Bool.not_eq_true'] at hd
    rw [layT_some, layT_out sl vs _ e hd.1, Array.getElem?_setIfInBounds_self_of_lt ht]
  | some e :: sl, u :: vs, t, i + 1, d, v, hd, h, hv, ht => by
    have hd : (!sl.contains (some e) && distO sl) = true := hd
    rw [Bool.and_eq_true] at hd
    rw [layT_some]
    exact layT_in sl vs _ i d v hd.2 (by simpa using h) (by simpa using hv) (by simpa using ht)
theorem layT_comm : ∀ (sl : List (Option Nat)) (vs : List Value) (t : Array Value) (d : Nat) (v : Value), sl.contains (some d) = false → (layT sl vs t).setIfInBounds d v = layT sl vs (t.setIfInBounds d v)
  | [], vs, t, d, v, _ => by rw [layT_nil, layT_nil]
  | none :: sl, [], t, d, v, _ => rfl
  | some e :: sl, [], t, d, v, _ => rfl
  | none :: sl, u :: vs, t, d, v, h => by
    rw [layT_none, layT_none]
    exact layT_comm sl vs t d v (by simpa using h)
  | some e :: sl, u :: vs, t, d, v, h => by
    have h2 : d ≠ e ∧ sl.contains (some d) = false := by simpa using h
    rw [layT_some, layT_some, layT_comm sl vs _ d v h2.2, Array.setIfInBounds_comm _ _ (Ne.symm h2.1)]
theorem layT_put : ∀ (sl : List (Option Nat)) (vs : List Value) (t : Array Value) (i d : Nat) (v : Value), distO sl = true → sl[i]? = some (some d) → i < vs.length → (layT sl vs t).setIfInBounds d v = layT sl (vs.set i v) t
  | [], _, _, i, _, _, _, h, _ => by simp at h
  | _ :: _, [], _, i, _, _, _, _, h => by simp at h
  | none :: sl, u :: vs, t, 0, d, v, _, h, _ => by simp at h
  | none :: sl, u :: vs, t, i + 1, d, v, hd, h, hv => by
    rw [layT_none, List.set_cons_succ, layT_none]
    exact layT_put sl vs t i d v hd (by simpa using h) (by simpa using hv)
  | some e :: sl, u :: vs, t, 0, d, v, hd, h, hv => by
    have h1 : e = d := by simpa using h
    subst h1
    have hd : (!sl.contains (some e) && distO sl) = true := hd
    rw [Bool.and_eq_true, Bool.not_eq_true'] at hd
    rw [layT_some, List.set_cons_zero, layT_some, layT_comm sl vs _ e v hd.1]
    simp
  | some e :: sl, u :: vs, t, i + 1, d, v, hd, h, hv => by
    have hd : (!sl.contains (some e) && distO sl) = true := hd
    rw [Bool.and_eq_true] at hd
    rw [layT_some, List.set_cons_succ, layT_some]
    exact layT_put sl vs _ i d v hd.2 (by simpa using h) (by simpa using hv)
theorem layT_skip : ∀ (sl : List (Option Nat)) (vs : List Value) (t : Array Value) (i : Nat) (v : Value), sl[i]? = some none → layT sl (vs.set i v) t = layT sl vs t
  | [], _, _, i, _, h => by simp at h
  | _ :: _, [], _, i, _, _ => rfl
  | none :: sl, u :: vs, t, 0, v, _ => rfl
  | some e :: sl, u :: vs, t, 0, v, h => by simp at h
  | none :: sl, u :: vs, t, i + 1, v, h => by
    rw [layT_none, List.set_cons_succ, layT_none]
    exact layT_skip sl vs t i v (by simpa using h)
  | some e :: sl, u :: vs, t, i + 1, v, h => by
    rw [layT_some, List.set_cons_succ, layT_some]
    exact layT_skip sl vs _ i v (by simpa using h)
/-- what operation i leaves of the frame -/
def putI (A : Act) (sl : List (Option Nat)) (i : Nat) (v : Value) : Act :=
  match sl[i]? with
  | some (some d) => { A with tmps := A.tmps.setIfInBounds d v }
  | _ => A
theorem putI_is {a0 : Act} {sl : List (Option Nat)} {vs : List Value} {i : Nat} (hd : distO sl = true) (hi : i < vs.length) (hs : i < sl.length) (v : Value) : putI (putO a0 sl vs) sl i v = putO a0 sl (vs.set i v) := by
  unfold putI
  obtain ⟨x, hx⟩ : ∃ x, sl[i]? = some x := ⟨sl[i], List.getElem?_eq_getElem hs⟩
  rw [hx]
  cases x with
  | none =>
    show putO a0 sl vs = putO a0 sl (vs.set i v)
    unfold putO
    rw [layT_skip sl vs _ i v hx]
  | some d =>
    show ({ putO a0 sl vs with tmps := (putO a0 sl vs).tmps.setIfInBounds d v } : Act) = putO a0 sl (vs.set i v)
    unfold putO
    simp only []
    rw [layT_put sl vs _ i d v hd hx hi]
/-- what the frame holds: in the region's own slots, and in the others that it reads -/
structure Reads (A : Act) (sl : List (Option Nat)) (vs : List Value) (outs : List (Nat × Value)) : Prop where
  own : ∀ (i d : Nat) (v : Value), sl[i]? = some (some d) → vs[i]? = some v → A.tmps[d]? = some v
  out : ∀ (k : Nat) (x : Nat × Value), outs[k]? = some x → A.tmps[x.1]? = some x.2
/-- the conditions on slots, in one Boolean: distinct, within the frame; what is read besides lies outside of them -/
def slotsOk (sl : List (Option Nat)) (size : Nat) (outs : List Nat) : Bool :=
  distO sl && (sl.all fun | some d => decide (d < size) | none => true) && outs.all fun d => !sl.contains (some d)
theorem reads_of {a0 : Act} {sl : List (Option Nat)} {vs : List Value} {outs : List (Nat × Value)} {size : Nat} (ok : slotsOk sl size (outs.map (·.1)) = true) (hsz : a0.tmps.size = size) (ho : ∀ (k : Nat) (x : Nat × Value), outs[k]? = some x → a0.tmps[x.1]? = some x.2) : Reads (putO a0 sl vs) sl vs outs := by
  unfold slotsOk at ok
  rw [Bool.and_eq_true, Bool.and_eq_true] at ok
  obtain ⟨⟨h1, h2⟩, h3⟩ := ok
  refine ⟨fun i d v hs hv => layT_in sl vs _ i d v h1 hs hv ?_, fun k x hk => ?_⟩
  · have := List.all_eq_true.1 h2 (some d) (List.mem_of_getElem? hs)
    simp only [decide_eq_true_eq] at this
    rw [hsz]; exact this
  · have hm : x.1 ∈ outs.map (·.1) := List.mem_map.2 ⟨x, List.mem_of_getElem? hk, rfl⟩
    have := List.all_eq_true.1 h3 x.1 hm
    rw [Bool.not_eq_true'] at this
    show (layT sl vs a0.tmps)[x.1]? = some x.2
    rw [layT_out sl vs _ x.1 this]
    exact ho k x hk
/-- wp_region_facts_tail, the frame under one name in each operation -/
theorem wp_region_facts_abs {P : Program} {ops : Array Oper} {Q : Exit → Act → World → Prop} {id : Nat} {a0 : Act} {w W0 : World} {row : Option Nat} (m f n : Nat) (rem : List Nat) (ks : List RK) (slots : List (Option Nat)) (outs : List (Nat × Value)) (size : Nat)
    (hm : P.follows .mixedOrders = true) (hb : backB ops = true) (ht : ((List.range ops.size).all fun i => decide (i < m) || (List.range m).all fun j => ndOf ops i j) = true) (hn : ops.size = n) (hf : n - m = f) (hmn : m ≤ n) (hrem : (List.range n).drop m = rem)
    (hso : slotsOk slots size (outs.map (·.1)) = true) (hsl : slots.length = n) (hkl : n ≤ ks.length) (hsz : a0.tmps.size = size) (hout : ∀ (k : Nat) (x : Nat × Value), outs[k]? = some x → a0.tmps[x.1]? = some x.2)
    (vs0 : List Value) (h00 : putO a0 slots vs0 = a0) (hF0 : Fs (ndOf ops) n ks w row (Array.replicate n false) vs0 W0.drew)
    (hstep : ∀ A listed vs W, Fs (ndOf ops) n ks w row listed vs W → Reads A slots vs outs → ∀ i, i < m → listed.getD i true = false → (∀ j, ndOf ops i j = true → listed.getD j false = true) → wpOp P ops Q i (fun a' W' => ∃ v, Fs (ndOf ops) n ks w row (listed.setIfInBounds i true) (vs.set i v) W' ∧ a' = putI A slots i v) A W)
    (hdone : ∀ listed vs W, Fs (ndOf ops) n ks w row listed vs W → (∀ j, j < m → listed.getD j false = true) → restOps P ops Q f rem (putO a0 slots vs) W) : (Code.region id ops true).wp P Q a0 W0 := by
  refine wp_region_facts_tail m f n rem ks slots hm hb ht hn hf hmn hrem vs0 h00 hF0 ?_ hdone
  intro listed vs W hF i hi hun hpre
  refine wpOp_mono (fun a' W' h => ?_) (hstep (putO a0 slots vs) listed vs W hF (reads_of hso hsz hout) i hi hun hpre)
  obtain ⟨v, hF', ha⟩ := h
  refine ⟨v, hF', ha.trans (putI_is ?_ ?_ ?_ v)⟩
  · unfold slotsOk at hso
    rw [Bool.and_eq_true, Bool.and_eq_true] at hso
    exact hso.1.1
  · rw [hF.len]; omega
  · rw [hsl]; omega
end Go.Proofs.YtgponoogifeopaaGreatDoor.Num
