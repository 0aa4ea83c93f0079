/- Numbers as texts of digits, fractions, values and the functions of fmath: contracts of the program's functions, joined from smaller texts. Conditions stand at each theorem. -/
import Derived.Test.YtcbolipiaflfbaaGreatDoorNumH
import Derived.Below
import Derived.OneCell
import Derived.Lib.MinMax
import Derived.Deep.RegionLaw
import Derived.Test.YtcbolipiaflfbaaGreatDoorLayA
import Derived.ProofKit
import Derived.OpenShut
import Derived.Test.YtcbolipiaflfbaaGreatDoorFyaA
import Derived.Test.YtcbolipiaflfbaaGreatDoorFyoB

/- A value that holds an array whose row of items grows: the value's block, the row. No conditions. -/
namespace Go.Proofs.YtcbolipiaflfbaaGreatDoor.Num
open Go.RowKit Go.Lib

/-- append to a row of the call's own, as one step of a region that draws -/
theorem step_append_rowx {P : Program} {ops : Array Oper} {o : Oper} {a : Act} {w : World} {K : Act → World → Prop} {Q : Exit → Act → World → Prop} {E : Prop} (hgd : o.guard = none) (s x : Operand) (t : TypeId)
    (ho : o.op = .call { callee := .builtin .append, args := #[s, x], argTypes := #[t, t] })
    (base : Nat) (e : TypeId) (i : TypeInfo) (z : Value) (size bytes : Nat) (ht : P.underlying t = some (.slice e)) (hi : P.info? e = some i) (hz : i.zero = some z)
    (hsize : i.size = size) (hby : i.bytes = bytes) (hzs : z.cells.size = size) (hsz : 0 < size)
    (v : Value) (n : Nat) (xs : List Value) (hs : a.eval s = v) (hown : w.ownsRow base e size v n xs)
    (ad : Addr) (m c : Nat) (news : List Value) (hx : a.eval x = .slice (some ad) m c) (hl : news.length = m * size) (hnews : ∀ j u, news[j]? = some u → w.cell? (ad.add j) = some u) (h1 : ∀ u ∈ news, u.oneCell' = true)
    (h63 : n + m ≤ maxLen) (hbytes : (n + m) * bytes ≤ 140737488355328) (hbase : base ≤ w.heap.size)
    (hK : ∀ v' w', w'.ownsRow base e size v' (n + m) (xs ++ news) → w.grownBy w' v.ownBlock → K (a.put o.dst v') w') :
    if Region.wanted o (yielded ops a.tmps) = true then Oper.wp P o a w K Q else E := by
  have hw : Region.wanted o (yielded ops a.tmps) = true := by simp [Region.wanted, hgd]
  rw [if_pos hw]
  exact wp_append_own w s x t ho base e i z size bytes ht hi hz hsize hby hzs hsz v n xs hs hown ad m c news hx hl hnews h1 h63 hbytes hbase fun v' w' h2 h3 _ => hK v' w' h2 h3

/-- nine stores behind one another -/
def put9 (W : World) (g o : Nat) (x0 x1 x2 x3 x4 x5 x6 x7 x8 : Value) : World :=
  ((((((((W.setCell ⟨g, o, none⟩ x0).setCell ⟨g, o + 1, none⟩ x1).setCell ⟨g, o + 2, none⟩ x2).setCell ⟨g, o + 3, none⟩ x3).setCell ⟨g, o + 4, none⟩ x4).setCell ⟨g, o + 5, none⟩ x5).setCell ⟨g, o + 6, none⟩ x6).setCell ⟨g, o + 7, none⟩ x7).setCell ⟨g, o + 8, none⟩ x8
theorem set_behind {xs l : List Value} {m : Nat} (h : xs.length = m) (t : Nat) (u : Value) : (xs ++ l).set (m + t) u = xs ++ l.set t u := by
  rw [List.set_append_right _ _ (by omega), show m + t - xs.length = t by omega]
theorem stored9 {w : World} {base : Nat} {e : TypeId} {g n cap : Nat} {xs ys : List Value} (h : w.ownsRow base e 9 (.slice (some ⟨g, 0, none⟩) n cap) n (xs ++ ys)) {o : Nat} (hx : xs.length = o) (hy : ys.length = 9) (x0 x1 x2 x3 x4 x5 x6 x7 x8 : Value) :
    (put9 w g o x0 x1 x2 x3 x4 x5 x6 x7 x8).ownsRow base e 9 (.slice (some ⟨g, 0, none⟩) n cap) n (xs ++ [x0, x1, x2, x3, x4, x5, x6, x7, x8]) ∧ w.grownBy (put9 w g o x0 x1 x2 x3 x4 x5 x6 x7 x8) (some g) := by
  obtain ⟨a0, b0⟩ := h.stored o x0
  obtain ⟨a1, b1⟩ := a0.stored (o + 1) x1
  obtain ⟨a2, b2⟩ := a1.stored (o + 2) x2
  obtain ⟨a3, b3⟩ := a2.stored (o + 3) x3
  obtain ⟨a4, b4⟩ := a3.stored (o + 4) x4
  obtain ⟨a5, b5⟩ := a4.stored (o + 5) x5
  obtain ⟨a6, b6⟩ := a5.stored (o + 6) x6
  obtain ⟨a7, b7⟩ := a6.stored (o + 7) x7
  obtain ⟨a8, b8⟩ := a7.stored (o + 8) x8
  refine ⟨?_, only_trans b0 (only_trans b1 (only_trans b2 (only_trans b3 (only_trans b4 (only_trans b5 (only_trans b6 (only_trans b7 b8)))))))⟩
  have e0 : (xs ++ ys).set o x0 = xs ++ ys.set 0 x0 := by have := set_behind (l := ys) hx 0 x0; rwa [Nat.add_zero] at this
  rw [e0, set_behind hx, set_behind hx, set_behind hx, set_behind hx, set_behind hx, set_behind hx, set_behind hx, set_behind hx] at a8
  match ys, hy with
  | [_, _, _, _, _, _, _, _, _], _ => exact a8

/-- the value's block B (r rows, c columns, items bv), the row v of n items -/
structure RowX (w : World) (B : Nat) (r c : Int) (bv v : Value) (n : Nat) (xs : List Value) (W : World) : Prop where
  box : W.heap[B]? = some (.cells #[.int .i64 5, .string { data := #[] }, .string { data := #[] }, .string { data := #[] }, .bool false, .int .i64 0, .int .i64 r, .int .i64 c, bv] 27 (0, 0))
  low : Below w.heap.size w W
  ge : w.heap.size ≤ B
  own : W.ownsRow w.heap.size 27 9 v n xs
  one : v = .slice none 0 0 ∨ xs[0]? = some (.int .i64 1)
theorem RowX.len {w W : World} {B n : Nat} {r c : Int} {bv v : Value} {xs : List Value} (h : RowX w B r c bv v n xs W) : xs.length = n * 9 := h.own.1
theorem RowX.ge_own {w W : World} {B n : Nat} {r c : Int} {bv v : Value} {xs : List Value} (h : RowX w B r c bv v n xs W) : ∀ b, v.ownBlock = some b → w.heap.size ≤ b := by
  intro b hb
  rcases h.own.2 with ⟨rfl, _⟩ | ⟨g, cap, cur, rfl, hg, _⟩
  · simp [Value.ownBlock] at hb
  · simp [Value.ownBlock] at hb; omega
theorem RowX.ne {w W : World} {B n : Nat} {r c : Int} {bv v : Value} {xs : List Value} (h : RowX w B r c bv v n xs W) : v.ownBlock ≠ some B := by
  rcases h.own.2 with ⟨rfl, _⟩ | ⟨g, cap, cur, rfl, hg, hc, _, _, _, htk⟩
  · simp [Value.ownBlock]
  · rcases h.one with e | e
    · cases e
    · intro eb
      have eb : g = B := by simpa [Value.ownBlock] using eb
      subst eb
      rw [← htk] at e
      have hb := h.box
      rw [hc] at hb
      injection hb with hb
      injection hb with hb
      subst hb
      have hn : 0 < n * 9 := by
        rcases Nat.eq_zero_or_pos (n * 9) with h0 | h0
        · rw [h0] at e; simp at e
        · exact h0
      rw [List.getElem?_take_of_lt hn] at e
      simp at e
theorem RowX.step {w W W' : World} {B n : Nat} {r c : Int} {bv v : Value} {xs : List Value} (h : RowX w B r c bv v n xs W) (hb : Below W.heap.size W W') : RowX w B r c bv v n xs W' :=
  ⟨keep_block h.box hb, h.low.trans (hb.mono h.low.size), h.ge, h.own.kept (only_of_below hb none) (by cases v.ownBlock <;> simp), h.one⟩
theorem RowX.push {w W W' : World} {B n m : Nat} {r c : Int} {bv v v' : Value} {xs ys : List Value} (h : RowX w B r c bv v n xs W) (ho : W'.ownsRow w.heap.size 27 9 v' m ys) (h1 : ys[0]? = some (.int .i64 1)) (hg : W.grownBy W' v.ownBlock) : RowX w B r c bv v' m ys W' :=
  ⟨(hg.block B (heap_lt h.box) (fun e => h.ne e.symm)).trans h.box, h.low.grown hg h.low.size h.ge_own, h.ge, ho, .inr h1⟩
/-- the last item stored anew -/
theorem RowX.put {w W : World} {B n g cap : Nat} {r c : Int} {bv : Value} {xs ys : List Value} (h : RowX w B r c bv (.slice (some ⟨g, 0, none⟩) n cap) n (xs ++ ys) W) {o : Nat} (hx : xs.length = o) (hy : ys.length = 9) (h0 : 0 < o) (x0 x1 x2 x3 x4 x5 x6 x7 x8 : Value) :
    RowX w B r c bv (.slice (some ⟨g, 0, none⟩) n cap) n (xs ++ [x0, x1, x2, x3, x4, x5, x6, x7, x8]) (put9 W g o x0 x1 x2 x3 x4 x5 x6 x7 x8) := by
  obtain ⟨a, b⟩ := stored9 h.own hx hy x0 x1 x2 x3 x4 x5 x6 x7 x8
  refine h.push a ?_ b
  rcases h.one with e | e
  · cases e
  · rw [List.getElem?_append_left (by omega)] at e ⊢
    exact e
theorem RowX.store {w W : World} {B n : Nat} {r c : Int} {bv v : Value} {xs : List Value} (h : RowX w B r c bv v n xs W) : RowX w B r c v v n xs (W.setCell ⟨B, 8, none⟩ v) := by
  refine ⟨?_, h.low.setCell (p := ⟨B, 8, none⟩) h.ge _, h.ge, ownsRow_setCell_other h.own (a := ⟨B, 8, none⟩) h.ne v, h.one⟩
  have := heap_setCell_at h.box 8 v
  rw [this]; rfl
theorem RowX.cols {w W : World} {B n : Nat} {r c c' : Int} {bv v : Value} {xs : List Value} (h : RowX w B r c bv v n xs W) : RowX w B r c' bv v n xs (W.setCell ⟨B, 7, none⟩ (.int .i64 c')) := by
  refine ⟨?_, h.low.setCell (p := ⟨B, 7, none⟩) h.ge _, h.ge, ownsRow_setCell_other h.own (a := ⟨B, 7, none⟩) h.ne _, h.one⟩
  have := heap_setCell_at h.box 7 (.int .i64 c')
  rw [this]; rfl
/-- a cell of the row -/
theorem RowX.cell {w W : World} {B n g cap : Nat} {r c : Int} {bv : Value} {xs : List Value} (h : RowX w B r c bv (.slice (some ⟨g, 0, none⟩) n cap) n xs W) (j : Nat) (hj : j < n * 9) : W.cell? ⟨g, j, none⟩ = xs[j]? ∧ W.frozen? ⟨g, j, none⟩ = false :=
  ⟨h.own.cellAt j hj, h.own.frozenAt j⟩
/-- the cells of the last item -/
theorem RowX.last {w W : World} {B n g cap : Nat} {r c : Int} {bv : Value} {xs : List Value} {y0 y1 y2 y3 y4 y5 y6 y7 y8 : Value} (h : RowX w B r c bv (.slice (some ⟨g, 0, none⟩) (n + 1) cap) (n + 1) (xs ++ [y0, y1, y2, y3, y4, y5, y6, y7, y8]) W) (hx : xs.length = n * 9) :
    (W.cell? ⟨g, n * 9, none⟩ = some y0 ∧ W.cell? ⟨g, n * 9 + 1, none⟩ = some y1 ∧ W.cell? ⟨g, n * 9 + 2, none⟩ = some y2 ∧ W.cell? ⟨g, n * 9 + 3, none⟩ = some y3 ∧ W.cell? ⟨g, n * 9 + 4, none⟩ = some y4 ∧ W.cell? ⟨g, n * 9 + 5, none⟩ = some y5 ∧ W.cell? ⟨g, n * 9 + 6, none⟩ = some y6 ∧ W.cell? ⟨g, n * 9 + 7, none⟩ = some y7 ∧ W.cell? ⟨g, n * 9 + 8, none⟩ = some y8) ∧
    W.frozen? ⟨g, n * 9, none⟩ = false ∧ W.frozen? ⟨g, n * 9 + 1, none⟩ = false ∧ W.frozen? ⟨g, n * 9 + 2, none⟩ = false ∧ W.frozen? ⟨g, n * 9 + 3, none⟩ = false ∧ W.frozen? ⟨g, n * 9 + 4, none⟩ = false ∧ W.frozen? ⟨g, n * 9 + 5, none⟩ = false ∧ W.frozen? ⟨g, n * 9 + 6, none⟩ = false ∧ W.frozen? ⟨g, n * 9 + 7, none⟩ = false ∧ W.frozen? ⟨g, n * 9 + 8, none⟩ = false := by
  have at' : ∀ t, t < 9 → W.cell? ⟨g, n * 9 + t, none⟩ = ([y0, y1, y2, y3, y4, y5, y6, y7, y8] : List Value)[t]? := by
    intro t ht
    rw [(h.cell (n * 9 + t) (by omega)).1, List.getElem?_append_right (by omega), show n * 9 + t - xs.length = t by omega]
  have fr : ∀ t, t < 9 → W.frozen? ⟨g, n * 9 + t, none⟩ = false := fun t ht => (h.cell (n * 9 + t) (by omega)).2
  exact ⟨⟨at' 0 (by decide), at' 1 (by decide), at' 2 (by decide), at' 3 (by decide), at' 4 (by decide), at' 5 (by decide), at' 6 (by decide), at' 7 (by decide), at' 8 (by decide)⟩, fr 0 (by decide), fr 1 (by decide), fr 2 (by decide), fr 3 (by decide), fr 4 (by decide), fr 5 (by decide), fr 6 (by decide), fr 7 (by decide), fr 8 (by decide)⟩
/-- the items as numbers -/
theorem RowX.vals {w W : World} {B n : Nat} {r c : Int} {bv v : Value} {qs : List Rat} (h : RowX w B r c bv v n (flat (numVals qs)) W) (hn : qs.length = n) (h0 : 0 < n) : ∃ g cap, v = .slice (some ⟨g, 0, none⟩) n cap ∧ w.heap.size ≤ g ∧ n ≤ cap ∧ ValsAt W g 0 (numVals qs) :=
  vals_of_owns h.own (by rw [numVals_len, hn]) h0
theorem flat_snoc (qs : List Rat) (q : Rat) : flat (numVals (qs ++ [q])) = flat (numVals qs) ++ [.int .i64 1, .string (numS q), .string (denS q), .string { data := #[] }, .bool false, .int .i64 0, .int .i64 0, .int .i64 0, .slice none 0 0] := by simp [numVals, flat, numVal', Val.cells]
theorem flat_first {qs : List Rat} (h : 0 < qs.length) : (flat (numVals qs))[0]? = some (.int .i64 1) := by
  cases qs with
  | nil => cases h
  | cons q r => rfl
/-- the row of one number, its value -/
theorem RowX.start {w w1 : World} {q : Rat} (hb : Below w.heap.size w w1) :
    RowX w (w1.heap.size + 1) 1 1 (.slice (some ⟨w1.heap.size, 0, none⟩) 1 1) (.slice (some ⟨w1.heap.size, 0, none⟩) 1 1) 1 (flat (numVals [q])) ((w1.alloc (.cells #[.int .i64 1, .string (numS q), .string (denS q), .string { data := #[] }, .bool false, .int .i64 0, .int .i64 0, .int .i64 0, .slice none 0 0] 27)).alloc (.cells #[.int .i64 5, .string { data := #[] }, .string { data := #[] }, .string { data := #[] }, .bool false, .int .i64 0, .int .i64 1, .int .i64 1, .slice (some ⟨w1.heap.size, 0, none⟩) 1 1] 27)) := by
  have hl : Below w1.heap.size w1 ((w1.alloc (.cells #[.int .i64 1, .string (numS q), .string (denS q), .string { data := #[] }, .bool false, .int .i64 0, .int .i64 0, .int .i64 0, .slice none 0 0] 27)).alloc (.cells #[.int .i64 5, .string { data := #[] }, .string { data := #[] }, .string { data := #[] }, .bool false, .int .i64 0, .int .i64 1, .int .i64 1, .slice (some ⟨w1.heap.size, 0, none⟩) 1 1] 27)) := ((Below.refl _ _).alloc (Nat.le_refl _) _).alloc (by simp) _
  have h1 := heap_alloc_new (w1.alloc (.cells #[.int .i64 1, .string (numS q), .string (denS q), .string { data := #[] }, .bool false, .int .i64 0, .int .i64 0, .int .i64 0, .slice none 0 0] 27)) (.cells #[.int .i64 5, .string { data := #[] }, .string { data := #[] }, .string { data := #[] }, .bool false, .int .i64 0, .int .i64 1, .int .i64 1, .slice (some ⟨w1.heap.size, 0, none⟩) 1 1] 27)
  rw [World.size_alloc] at h1
  have h2 := new_keep (heap_alloc_new w1 (.cells #[.int .i64 1, .string (numS q), .string (denS q), .string { data := #[] }, .bool false, .int .i64 0, .int .i64 0, .int .i64 0, .slice none 0 0] 27)) (o' := .cells #[.int .i64 5, .string { data := #[] }, .string { data := #[] }, .string { data := #[] }, .bool false, .int .i64 0, .int .i64 1, .int .i64 1, .slice (some ⟨w1.heap.size, 0, none⟩) 1 1] 27)
  exact ⟨h1, hb.trans (hl.mono hb.size), Nat.le_succ_of_le hb.size, ⟨rfl, .inr ⟨_, 1, _, rfl, hb.size, h2, Nat.le_refl _, by decide, rfl, rfl⟩⟩, .inr rfl⟩
end Go.Proofs.YtcbolipiaflfbaaGreatDoor.Num

/- A slice of whole numbers that came in. No conditions. -/
namespace Go.Proofs.YtcbolipiaflfbaaGreatDoor.Num
open Go.ChangeShapes Go.WideShapes Go.ChangeAt Go.RowKit Go.Lib

/-- whole numbers that came in -/
def CameI (W : World) (A : Addr) (ns : List Int) : Prop := ∀ i (h : i < ns.length), W.cell? (A.add i) = some (.int .i64 ns[i])
theorem CameI.below {W W' : World} {A : Addr} {ns : List Int} (h : CameI W A ns) (hb : Below W.heap.size W W') : CameI W' A ns := fun i hi => cell_below (h i hi) hb
/-- a slice of ints as it came in: where it lies, and its numbers -/
structure IntsIn (W : World) (A : Option Addr) (L C : Nat) (zs : List Int) : Prop where
  len : zs.length = L
  max : L ≤ 9223372036854775807
  cap : L ≤ C
  src : 0 < L → ∃ A', A = some A' ∧ CameI W A' zs
  rng : ∀ z ∈ zs, -9223372036854775808 ≤ z ∧ z ≤ 9223372036854775807
theorem IntsIn.below {W W' : World} {A : Option Addr} {L C : Nat} {zs : List Int} (h : IntsIn W A L C zs) (hb : Below W.heap.size W W') : IntsIn W' A L C zs :=
  ⟨h.len, h.max, h.cap, fun h0 => by obtain ⟨A', e, c⟩ := h.src h0; exact ⟨A', e, c.below hb⟩, h.rng⟩

set_option maxRecDepth 100000 in
theorem ints_in {H : Type} {enc : TypeId × Value → H} {W : World} {base base2 : Nat} {held : Bool} {v : Value} {d : DataW H} {p : List MemPlace} (hok : Value.okWide Tryz.prog W .any base2 22 v) (h : DataW.Trod enc Tryz.prog W base (fun _ => true) held 22 v d p) :
    ∃ A L C zs, v = .slice A L C ∧ IntsIn W A L C zs ∧ ∀ W', Below W.heap.size W W' → DataW.Trod enc Tryz.prog W' base (fun b => decide (b < W.heap.size)) held 22 v d p := by
  obtain ⟨a, len, cap, rfl⟩ := okWide_slice Tryz.underlying22 hok
  obtain ⟨fuel, hf⟩ := h
  rcases open_ints Tryz.underlying22 Tryz.underlying3 (by kernel_rfl) hf with ⟨hcs, hx⟩ | ⟨a', len', cap', zs, hcs, hb, hl, hm, hz, hx, hcell, hwz⟩
  · have hcs' : (Value.slice a len cap) = .slice none 0 0 := by simpa [Value.cells] using hcs
    injection hcs' with h1 h2 h3
    subst h1; subst h2; subst h3
    injection hx with h1 h2
    subst h1; subst h2
    exact ⟨none, 0, 0, [], rfl, ⟨rfl, by decide, Nat.le_refl _, fun h => absurd h (by decide), fun z h => (by cases h)⟩, fun W' _ => shut_slice_nil Tryz.underlying22⟩
  · have hcs' : (Value.slice a len cap) = .slice (some a') len' cap' := by simpa [Value.cells] using hcs
    injection hcs' with h1 h2 h3
    subst h1; subst h2; subst h3
    injection hx with h1 h2
    subst h1; subst h2
    have hz0 : zs.length = cap := by simpa using hz
    have hzl : len ≤ zs.length := by omega
    have hz2 : zs.length = (if decide (a'.block < W.heap.size) then cap else len) := by
      by_cases hc : 0 < cap
      · have h1 : (a'.add 0).block < W.heap.size := cell_lt (hcell 0 (by omega))
        rw [block_add] at h1
        rw [if_pos (decide_eq_true h1)]; exact hz0
      · split <;> omega
    refine ⟨some a', len, cap, zs.take len, rfl, ⟨by rw [List.length_take]; omega, by unfold maxLen at hm; omega, hl, fun _ => ⟨a', rfl, ?_⟩, fun n hn => i64_range (hwz n (List.mem_of_mem_take hn))⟩, fun W' hb' => ⟨2, shut_ints 0 Tryz.underlying22 Tryz.underlying3 (by kernel_rfl) hb hl hm hz2 (fun i hi => cell_below (hcell i hi) hb') hwz⟩⟩
    intro i hi
    have hi' : i < zs.length := by rw [List.length_take] at hi; omega
    have := hcell i hi'
    rw [List.getD_eq_getElem?_getD, List.getElem?_eq_getElem hi', Option.getD_some] at this
    rw [this, List.getElem_take]
end Go.Proofs.YtcbolipiaflfbaaGreatDoor.Num

/- package value's Compare at numbers. Conditions: the numbers are not too long; the tables lie as they are laid. -/
namespace Go.Proofs.YtcbolipiaflfbaaGreatDoor.Num
open Go.RowKit Go.Lib

theorem same_one (p : Rat) (W : World) : Calls Tryz.prog 12 #[.agg #[.int .i64 1, .string (numS p), .string (denS p), .string { data := #[] }, .bool false, .int .i64 0, .int .i64 0, .int .i64 0, .slice none 0 0], .agg #[.int .i64 1, .string (numS p), .string (denS p), .string { data := #[] }, .bool false, .int .i64 0, .int .i64 0, .int .i64 0, .slice none 0 0]] W fun e w' => e = .returned (.bool true) ∧ Below W.heap.size W w' := by
  refine (same_num p p W).mono ?_
  rintro e w' ⟨rfl, h⟩
  exact ⟨by rw [decide_eq_true rfl], h⟩
set_option linter.unusedSimpArgs false in
set_option linter.unusedVariables false in
set_option maxHeartbeats 4000000 in
set_option maxRecDepth 100000 in
theorem like_num (p q : Rat) (w : World) : Calls Tryz.prog 31 #[.agg #[.int .i64 1, .string (numS p), .string (denS p), .string { data := #[] }, .bool false, .int .i64 0, .int .i64 0, .int .i64 0, .slice none 0 0], .agg #[.int .i64 1, .string (numS q), .string (denS q), .string { data := #[] }, .bool false, .int .i64 0, .int .i64 0, .int .i64 0, .slice none 0 0]] w fun e w' => e = .returned (.agg #[.int .i64 1, .string (numS p), .string (denS p), .string { data := #[] }, .bool false, .int .i64 0, .int .i64 0, .int .i64 0, .slice none 0 0]) ∧ Below w.heap.size w w' := by
  obtain ⟨hx, _, hr, hb⟩ := three_new w (.cells #[.int .i64 1, .string (numS p), .string (denS p), .string { data := #[] }, .bool false, .int .i64 0, .int .i64 0, .int .i64 0, .slice none 0 0] 27) (.cells #[.int .i64 1, .string (numS q), .string (denS q), .string { data := #[] }, .bool false, .int .i64 0, .int .i64 0, .int .i64 0, .slice none 0 0] 27) (.cells #[.int .i64 0, .string { data := #[] }, .string { data := #[] }, .string { data := #[] }, .bool false, .int .i64 0, .int .i64 0, .int .i64 0, .slice none 0 0] 27)
  obtain ⟨⟨x0, x1, x2, x3, x4, x5, x6, x7, x8⟩, _⟩ := nine_at hx
  obtain ⟨⟨r0, r1, r2, r3, r4, r5, r6, r7, r8⟩, g0, g1, g2, g3, g4, g5, g6, g7, g8⟩ := nine_at hr
  clear hx hr hb
  obtain ⟨_, _, hr2, nb⟩ := three_new w (.cells #[.int .i64 1, .string (numS p), .string (denS p), .string { data := #[] }, .bool false, .int .i64 0, .int .i64 0, .int .i64 0, .slice none 0 0] 27) (.cells #[.int .i64 1, .string (numS q), .string (denS q), .string { data := #[] }, .bool false, .int .i64 0, .int .i64 0, .int .i64 0, .slice none 0 0] 27) (.cells #[.int .i64 1, .string (numS p), .string (denS p), .string { data := #[] }, .bool false, .int .i64 0, .int .i64 0, .int .i64 0, .slice none 0 0] 27)
  obtain ⟨⟨e0, e1, e2, e3, e4, e5, e6, e7, e8⟩, _⟩ := nine_at hr2
  clear hr2
  go_enter Tryz.func31, Tryz.ntmps31
  go_wp2
  refine bodyPost_ret (v := .agg #[.int .i64 1, .string (numS p), .string (denS p), .string { data := #[] }, .bool false, .int .i64 0, .int .i64 0, .int .i64 0, .slice none 0 0]) (by simp [results, Tryz.results31, go_sem, e0, e1, e2, e3, e4, e5, e6, e7, e8]) rfl ⟨rfl, nb⟩

set_option linter.unusedSimpArgs false in
set_option linter.unusedVariables false in
set_option maxHeartbeats 4000000 in
set_option maxRecDepth 100000 in
theorem compared_num (p q : Rat) (w : World) (hp : fits p = true) (hq : fits q = true) : Calls Tryz.prog 34 #[.agg #[.int .i64 1, .string (numS p), .string (denS p), .string { data := #[] }, .bool false, .int .i64 0, .int .i64 0, .int .i64 0, .slice none 0 0], .agg #[.int .i64 1, .string (numS q), .string (denS q), .string { data := #[] }, .bool false, .int .i64 0, .int .i64 0, .int .i64 0, .slice none 0 0]] w fun e w' => e = .returned (.int .i64 (cmpR p q)) ∧ Below w.heap.size w w' := by
  have TC := Lib.hid (fun W => compare_q p q W hp hq)
  rw [fracV_is p, fracV_is q] at TC
  obtain ⟨hx, hy, _⟩ := two_new w (.cells #[.int .i64 1, .string (numS p), .string (denS p), .string { data := #[] }, .bool false, .int .i64 0, .int .i64 0, .int .i64 0, .slice none 0 0] 27) (.cells #[.int .i64 1, .string (numS q), .string (denS q), .string { data := #[] }, .bool false, .int .i64 0, .int .i64 0, .int .i64 0, .slice none 0 0] 27)
  have hb : Below w.heap.size w ((w.alloc (.cells #[.int .i64 1, .string (numS p), .string (denS p), .string { data := #[] }, .bool false, .int .i64 0, .int .i64 0, .int .i64 0, .slice none 0 0] 27)).alloc (.cells #[.int .i64 1, .string (numS q), .string (denS q), .string { data := #[] }, .bool false, .int .i64 0, .int .i64 0, .int .i64 0, .slice none 0 0] 27)) := ((Below.refl _ _).alloc (Nat.le_refl _) _).alloc (by simp) _
  have HX := Lib.hid hx
  have HY := Lib.hid hy
  have HL := Lib.hid hb
  clear hx hy hb hp hq
  obtain ⟨⟨x0, x1, x2, x3, x4, x5, x6, x7, x8⟩, _⟩ := nine_at HX.out
  obtain ⟨⟨y0, y1, y2, y3, y4, y5, y6, y7, y8⟩, _⟩ := nine_at HY.out
  go_enter Tryz.func34, Tryz.ntmps34
  go_wp2_with fail
  refine (TC.out _).mono ?_
  rintro e W1 ⟨rfl, hb⟩
  replace HL := Lib.hid (HL.out.trans (hb.mono HL.out.size))
  clear hb
  go_wp2
  go_ret
  exact ⟨rfl, HL.out⟩

set_option linter.unusedSimpArgs false in
set_option linter.unusedVariables false in
set_option maxHeartbeats 4000000 in
set_option maxRecDepth 100000 in
theorem both_num (p q : Rat) (w : World) (hp : fits p = true) (hq : fits q = true) (hE : Env w) : Calls Tryz.prog 30 #[.agg #[.int .i64 1, .string (numS p), .string (denS p), .string { data := #[] }, .bool false, .int .i64 0, .int .i64 0, .int .i64 0, .slice none 0 0], .agg #[.int .i64 1, .string (numS q), .string (denS q), .string { data := #[] }, .bool false, .int .i64 0, .int .i64 0, .int .i64 0, .slice none 0 0], .int .i64 3] w fun e w' => e = .returned (.int .i64 0) ∧ Below w.heap.size w w' := by
  have C1 := Lib.hid (fun W g => check_num p W hp g)
  have C2 := Lib.hid (fun W g => check_num q W hq g)
  have i0 : ∀ w, (Instr.index 71 (.agg #[.int .i64 1, .string (numS p), .string (denS p), .string { data := #[] }, .bool false, .int .i64 0, .int .i64 0, .int .i64 0, .slice none 0 0, .int .i64 1, .string (numS q), .string (denS q), .string { data := #[] }, .bool false, .int .i64 0, .int .i64 0, .int .i64 0, .slice none 0 0]) (.int .i64 0)).run Tryz.prog w = .ok (.agg #[.int .i64 1, .string (numS p), .string (denS p), .string { data := #[] }, .bool false, .int .i64 0, .int .i64 0, .int .i64 0, .slice none 0 0]) w := fun _ => by kernel_rfl
  have i1 : ∀ w, (Instr.index 71 (.agg #[.int .i64 1, .string (numS p), .string (denS p), .string { data := #[] }, .bool false, .int .i64 0, .int .i64 0, .int .i64 0, .slice none 0 0, .int .i64 1, .string (numS q), .string (denS q), .string { data := #[] }, .bool false, .int .i64 0, .int .i64 0, .int .i64 0, .slice none 0 0]) (.int .i64 1)).run Tryz.prog w = .ok (.agg #[.int .i64 1, .string (numS q), .string (denS q), .string { data := #[] }, .bool false, .int .i64 0, .int .i64 0, .int .i64 0, .slice none 0 0]) w := fun _ => by kernel_rfl
  obtain ⟨hx, hy, _⟩ := two_new w (.cells #[.int .i64 1, .string (numS p), .string (denS p), .string { data := #[] }, .bool false, .int .i64 0, .int .i64 0, .int .i64 0, .slice none 0 0] 27) (.cells #[.int .i64 1, .string (numS q), .string (denS q), .string { data := #[] }, .bool false, .int .i64 0, .int .i64 0, .int .i64 0, .slice none 0 0] 27)
  have hb : Below w.heap.size w ((w.alloc (.cells #[.int .i64 1, .string (numS p), .string (denS p), .string { data := #[] }, .bool false, .int .i64 0, .int .i64 0, .int .i64 0, .slice none 0 0] 27)).alloc (.cells #[.int .i64 1, .string (numS q), .string (denS q), .string { data := #[] }, .bool false, .int .i64 0, .int .i64 0, .int .i64 0, .slice none 0 0] 27)) := ((Below.refl _ _).alloc (Nat.le_refl _) _).alloc (by simp) _
  have HX := Lib.hid hx
  have HY := Lib.hid hy
  have HL := Lib.hid hb
  have HE := Lib.hid (hE.below hb)
  clear hx hy hb hp hq hE
  obtain ⟨W0, hW0⟩ : ∃ Z, (w.alloc (.cells #[.int .i64 1, .string (numS p), .string (denS p), .string { data := #[] }, .bool false, .int .i64 0, .int .i64 0, .int .i64 0, .slice none 0 0] 27)).alloc (.cells #[.int .i64 1, .string (numS q), .string (denS q), .string { data := #[] }, .bool false, .int .i64 0, .int .i64 0, .int .i64 0, .slice none 0 0] 27) = Z := ⟨_, rfl⟩
  rw [hW0] at HX HY HL HE
  have EW0 := Lib.hid hW0
  clear hW0
  have hb : Below W0.heap.size W0 (W0.alloc (.cells #[.int .i64 1, .string (numS p), .string (denS p), .string { data := #[] }, .bool false, .int .i64 0, .int .i64 0, .int .i64 0, .slice none 0 0] 27)) := (Below.refl _ _).alloc (Nat.le_refl _) _
  go_enter Tryz.func30, Tryz.ntmps30
  go_wp2
  rw [EW0.out]
  replace HX := Lib.hid (keep_block HX.out hb)
  replace HY := Lib.hid (keep_block HY.out hb)
  replace HE := Lib.hid (HE.out.below hb)
  replace HL := Lib.hid (HL.out.trans (hb.mono HL.out.size))
  clear hb
  refine wp_loop_rounds 3 ?_
  rw [rounds_succ]
  go_wp2_with fail
  refine (C1.out _ HE.out).mono ?_
  rintro e W1 ⟨rfl, hb⟩
  replace HX := Lib.hid (keep_block HX.out hb)
  replace HY := Lib.hid (keep_block HY.out hb)
  replace HE := Lib.hid (HE.out.below hb)
  replace HL := Lib.hid (HL.out.trans (hb.mono HL.out.size))
  clear hb
  go_wp2
  rw [rounds_succ]
  have hb : Below W1.heap.size W1 (W1.alloc (.cells #[.int .i64 1, .string (numS q), .string (denS q), .string { data := #[] }, .bool false, .int .i64 0, .int .i64 0, .int .i64 0, .slice none 0 0] 27)) := (Below.refl _ _).alloc (Nat.le_refl _) _
  replace HX := Lib.hid (keep_block HX.out hb)
  replace HY := Lib.hid (keep_block HY.out hb)
  replace HE := Lib.hid (HE.out.below hb)
  replace HL := Lib.hid (HL.out.trans (hb.mono HL.out.size))
  clear hb
  go_wp2_with fail
  refine (C2.out _ HE.out).mono ?_
  rintro e W2 ⟨rfl, hb⟩
  replace HX := Lib.hid (keep_block HX.out hb)
  replace HY := Lib.hid (keep_block HY.out hb)
  replace HE := Lib.hid (HE.out.below hb)
  replace HL := Lib.hid (HL.out.trans (hb.mono HL.out.size))
  clear hb
  go_wp2
  rw [rounds_succ]
  obtain ⟨⟨x0, x1, x2, x3, x4, x5, x6, x7, x8⟩, _⟩ := nine_at HX.out
  obtain ⟨⟨y0, y1, y2, y3, y4, y5, y6, y7, y8⟩, _⟩ := nine_at HY.out
  go_wp2
  go_ret
  exact ⟨rfl, HL.out⟩

set_option linter.unusedVariables false in
/-- what the operations of region 4 yield -/
def CmpKs4 (w W1 : World) (p q : Rat) : List RK :=
  [.pure (.agg #[.int .i64 1, .string (numS p), .string (denS p), .string { data := #[] }, .bool false, .int .i64 0, .int .i64 0, .int .i64 0, .slice none 0 0]),
   .pure (.agg #[.int .i64 1, .string (numS q), .string (denS q), .string { data := #[] }, .bool false, .int .i64 0, .int .i64 0, .int .i64 0, .slice none 0 0]),
   .pure (.agg #[.int .i64 1, .string (numS p), .string (denS p), .string { data := #[] }, .bool false, .int .i64 0, .int .i64 0, .int .i64 0, .slice none 0 0]),
   .pure (.agg #[.int .i64 1, .string (numS q), .string (denS q), .string { data := #[] }, .bool false, .int .i64 0, .int .i64 0, .int .i64 0, .slice none 0 0]),
   .pure (.agg #[.int .i64 1, .string (numS p), .string (denS p), .string { data := #[] }, .bool false, .int .i64 0, .int .i64 0, .int .i64 0, .slice none 0 0]),
   .pure (.agg #[.int .i64 1, .string (numS q), .string (denS q), .string { data := #[] }, .bool false, .int .i64 0, .int .i64 0, .int .i64 0, .slice none 0 0]),
   .put 8,
   .put 9,
   .box (some (w.heap.size)) #[.int .i64 1, .string (numS p), .string (denS p), .string { data := #[] }, .bool false, .int .i64 0, .int .i64 0, .int .i64 0, .slice none 0 0] #[.int .i64 1, .string (numS p), .string (denS p), .string { data := #[] }, .bool false, .int .i64 0, .int .i64 0, .int .i64 0, .slice none 0 0] 27 6,
   .box (some (w.heap.size + 1)) #[.int .i64 1, .string (numS q), .string (denS q), .string { data := #[] }, .bool false, .int .i64 0, .int .i64 0, .int .i64 0, .slice none 0 0] #[.int .i64 1, .string (numS q), .string (denS q), .string { data := #[] }, .bool false, .int .i64 0, .int .i64 0, .int .i64 0, .slice none 0 0] 27 7]
set_option linter.unusedSimpArgs false in
set_option linter.unusedVariables false in
set_option maxHeartbeats 4000000 in
set_option maxRecDepth 100000 in
theorem compare_num (p q : Rat) (w : World) (hp : fits p = true) (hq : fits q = true) (hE : Env w) : Calls Tryz.prog 14 #[.agg #[.int .i64 1, .string (numS p), .string (denS p), .string { data := #[] }, .bool false, .int .i64 0, .int .i64 0, .int .i64 0, .slice none 0 0], .agg #[.int .i64 1, .string (numS q), .string (denS q), .string { data := #[] }, .bool false, .int .i64 0, .int .i64 0, .int .i64 0, .slice none 0 0]] w fun e w' => e = .returned (.tuple #[.int .i64 (cmpR p q), .int .i64 0]) ∧ Below w.heap.size w w' := by
  have TB := Lib.hid (fun W g => both_num p q W hp hq g)
  have T1 := Lib.hid (fun W => like_num p q W)
  have T2 := Lib.hid (fun W => like_num q p W)
  have TC := Lib.hid (fun W => compared_num p q W hp hq)
  obtain ⟨hx, hy, _⟩ := two_new w (.cells #[.int .i64 1, .string (numS p), .string (denS p), .string { data := #[] }, .bool false, .int .i64 0, .int .i64 0, .int .i64 0, .slice none 0 0] 27) (.cells #[.int .i64 1, .string (numS q), .string (denS q), .string { data := #[] }, .bool false, .int .i64 0, .int .i64 0, .int .i64 0, .slice none 0 0] 27)
  have hb : Below w.heap.size w ((w.alloc (.cells #[.int .i64 1, .string (numS p), .string (denS p), .string { data := #[] }, .bool false, .int .i64 0, .int .i64 0, .int .i64 0, .slice none 0 0] 27)).alloc (.cells #[.int .i64 1, .string (numS q), .string (denS q), .string { data := #[] }, .bool false, .int .i64 0, .int .i64 0, .int .i64 0, .slice none 0 0] 27)) := ((Below.refl _ _).alloc (Nat.le_refl _) _).alloc (by simp) _
  have H2 := Lib.hid hx
  have H3 := Lib.hid hy
  have HL := Lib.hid hb
  have HE := Lib.hid (hE.below hb)
  clear hx hy hb hp hq hE
  obtain ⟨W0, hW0⟩ : ∃ Z, (w.alloc (.cells #[.int .i64 1, .string (numS p), .string (denS p), .string { data := #[] }, .bool false, .int .i64 0, .int .i64 0, .int .i64 0, .slice none 0 0] 27)).alloc (.cells #[.int .i64 1, .string (numS q), .string (denS q), .string { data := #[] }, .bool false, .int .i64 0, .int .i64 0, .int .i64 0, .slice none 0 0] 27) = Z := ⟨_, rfl⟩
  rw [hW0] at H2 H3 HL HE
  have EW0 := Lib.hid hW0
  clear hW0
  go_enter Tryz.func14, Tryz.ntmps14
  go_wp2_with fail
  rw [EW0.out]
  refine (TB.out _ HE.out).mono ?_
  rintro e W1 ⟨rfl, hb⟩
  replace H2 := Lib.hid (keep_block H2.out hb)
  replace H3 := Lib.hid (keep_block H3.out hb)
  replace HE := Lib.hid (HE.out.below hb)
  replace HL := Lib.hid (HL.out.trans (hb.mono HL.out.size))
  clear hb
  go_wp2_with fail
  have hok : okB 8 (CmpKs4 w W1 p q) = true := by kernel_rfl
  have hna := noAny_of (ks := (CmpKs4 w W1 p q)) (by kernel_rfl)
  have hla := lasts_of hna
  refine wp_region_facts (row := none) (w := w) 8 (CmpKs4 w W1 p q) [some 13, some 14, some 15, some 16, some 17, some 18, none, none] (by kernel_rfl) (by kernel_rfl) rfl [undef, undef, undef, undef, undef, undef, undef, undef, .pointer (some ⟨w.heap.size, 0, none⟩), .pointer (some ⟨w.heap.size + 1, 0, none⟩)] ?h00 (Fs.start_olds hla rfl (only_of_below HL.out none) ⟨⟨_, rfl, fun _ h => Option.some.inj h, by omega, H2.out⟩, fun _ => ⟨fun _ => far_of (by omega), trivial⟩, ⟨⟨_, rfl, fun _ h => Option.some.inj h, by omega, H3.out⟩, fun _ => trivial, trivial⟩⟩) ?hs ?hd
  case h00 => simp only [putO, layT_some, layT_none, layT_nil, List.setIfInBounds_toArray, List.set_cons_zero, List.set_cons_succ]
  case hs =>
    rintro listed vs Wr hF i hi hun hpre
    obtain ⟨s0, s1, s2, s3, s4, s5, s6, s7, o0, o1, hvs⟩ := exl_of 10 vs (fun l => vs = l) hF.len rfl
    subst hvs
    obtain ⟨_, eG0, hg0, gG0, hO0⟩ : ∃ G, o0 = .pointer (some ⟨G, 0, none⟩) ∧ (∀ k, some (w.heap.size) = some k → G = k) ∧ w.heap.size ≤ G ∧ Wr.heap[G]? = some (.cells (if listed.getD 6 false = true then #[.int .i64 1, .string (numS p), .string (denS p), .string { data := #[] }, .bool false, .int .i64 0, .int .i64 0, .int .i64 0, .slice none 0 0] else #[.int .i64 1, .string (numS p), .string (denS p), .string { data := #[] }, .bool false, .int .i64 0, .int .i64 0, .int .i64 0, .slice none 0 0]) 27 (0, 0)) := hF.get 8 _ rfl (.inl (by decide))
    have hg0 := hg0 _ rfl
    subst hg0
    subst eG0
    obtain ⟨_, eG1, hg1, gG1, hO1⟩ : ∃ G, o1 = .pointer (some ⟨G, 0, none⟩) ∧ (∀ k, some (w.heap.size + 1) = some k → G = k) ∧ w.heap.size ≤ G ∧ Wr.heap[G]? = some (.cells (if listed.getD 7 false = true then #[.int .i64 1, .string (numS q), .string (denS q), .string { data := #[] }, .bool false, .int .i64 0, .int .i64 0, .int .i64 0, .slice none 0 0] else #[.int .i64 1, .string (numS q), .string (denS q), .string { data := #[] }, .bool false, .int .i64 0, .int .i64 0, .int .i64 0, .slice none 0 0]) 27 (0, 0)) := hF.get 9 _ rfl (.inl (by decide))
    have hg1 := hg1 _ rfl
    subst hg1
    subst eG1
    have hge := Nat.zero_le i
    simp only [putO, layT_some, layT_none, layT_nil, List.setIfInBounds_toArray, List.set_cons_zero, List.set_cons_succ]
    rcases Nat.lt_or_ge i 4 with hlt | hgt
    · replace hi := hlt
      clear hlt
      rcases Nat.lt_or_ge i 2 with hlt | hgt
      · replace hi := hlt
        clear hlt
        rcases Nat.lt_or_ge i 1 with hlt | hgt
        · replace hi := hlt
          clear hlt
          have he : i = 0 := Nat.le_antisymm (Nat.le_of_lt_succ hi) hge
          subst he
          rw [if_neg (fun h => bit_off hun (hF.back 6 0 h (by kernel_rfl)))] at hO0
          have hcc := (nine_at (hO0)).1
          have cH20 := hcc.1
          have cH21 := hcc.2.1
          have cH22 := hcc.2.2.1
          have cH23 := hcc.2.2.2.1
          have cH24 := hcc.2.2.2.2.1
          have cH25 := hcc.2.2.2.2.2.1
          have cH26 := hcc.2.2.2.2.2.2.1
          have cH27 := hcc.2.2.2.2.2.2.2.1
          have cH28 := hcc.2.2.2.2.2.2.2.2
          clear hcc
          refine step_of ⟨some 13, _, _, _, _, _⟩ rfl (fun K' hK => ?_)
          go_simp
          refine hK.out _ _ ⟨_, hF.pure hok hla hpre rfl (Below.refl _ _), ?fr⟩
          case fr => simp only [putO, layT_some, layT_none, layT_nil, List.setIfInBounds_toArray, List.set_cons_zero, List.set_cons_succ]
        · replace hge : 1 ≤ i := hgt
          clear hgt
          have he : i = 1 := Nat.le_antisymm (Nat.le_of_lt_succ hi) hge
          subst he
          rw [if_neg (fun h => bit_off hun (hF.back 7 1 h (by kernel_rfl)))] at hO1
          have hcc := (nine_at (hO1)).1
          have cH30 := hcc.1
          have cH31 := hcc.2.1
          have cH32 := hcc.2.2.1
          have cH33 := hcc.2.2.2.1
          have cH34 := hcc.2.2.2.2.1
          have cH35 := hcc.2.2.2.2.2.1
          have cH36 := hcc.2.2.2.2.2.2.1
          have cH37 := hcc.2.2.2.2.2.2.2.1
          have cH38 := hcc.2.2.2.2.2.2.2.2
          clear hcc
          refine step_of ⟨some 14, _, _, _, _, _⟩ rfl (fun K' hK => ?_)
          go_simp
          refine hK.out _ _ ⟨_, hF.pure hok hla hpre rfl (Below.refl _ _), ?fr⟩
          case fr => simp only [putO, layT_some, layT_none, layT_nil, List.setIfInBounds_toArray, List.set_cons_zero, List.set_cons_succ]
      · replace hge : 2 ≤ i := hgt
        clear hgt
        rcases Nat.lt_or_ge i 3 with hlt | hgt
        · replace hi := hlt
          clear hlt
          have he : i = 2 := Nat.le_antisymm (Nat.le_of_lt_succ hi) hge
          subst he
          have p0 := hpre 0 (by kernel_rfl)
          have e0 : s0 = .agg #[.int .i64 1, .string (numS p), .string (denS p), .string { data := #[] }, .bool false, .int .i64 0, .int .i64 0, .int .i64 0, .slice none 0 0] := hF.get 0 _ rfl (.inr p0)
          subst e0
          have p1 := hpre 1 (by kernel_rfl)
          have e1 : s1 = .agg #[.int .i64 1, .string (numS q), .string (denS q), .string { data := #[] }, .bool false, .int .i64 0, .int .i64 0, .int .i64 0, .slice none 0 0] := hF.get 1 _ rfl (.inr p1)
          subst e1
          refine step_of ⟨some 15, _, _, _, _, _⟩ rfl (fun K' hK => ?_)
          go_simp
          go_at_call 31
          (with_reducible refine (T1.out _).mono ?_)
          rintro e Wq ⟨rfl, hq⟩
          refine hK.out _ _ ⟨_, hF.pure hok hla hpre rfl hq, ?fr⟩
          case fr => simp only [putO, layT_some, layT_none, layT_nil, List.setIfInBounds_toArray, List.set_cons_zero, List.set_cons_succ]
        · replace hge : 3 ≤ i := hgt
          clear hgt
          have he : i = 3 := Nat.le_antisymm (Nat.le_of_lt_succ hi) hge
          subst he
          rw [if_neg (fun h => bit_off hun (hF.back 7 3 h (by kernel_rfl)))] at hO1
          have hcc := (nine_at (hO1)).1
          have cH30 := hcc.1
          have cH31 := hcc.2.1
          have cH32 := hcc.2.2.1
          have cH33 := hcc.2.2.2.1
          have cH34 := hcc.2.2.2.2.1
          have cH35 := hcc.2.2.2.2.2.1
          have cH36 := hcc.2.2.2.2.2.2.1
          have cH37 := hcc.2.2.2.2.2.2.2.1
          have cH38 := hcc.2.2.2.2.2.2.2.2
          clear hcc
          refine step_of ⟨some 16, _, _, _, _, _⟩ rfl (fun K' hK => ?_)
          go_simp
          refine hK.out _ _ ⟨_, hF.pure hok hla hpre rfl (Below.refl _ _), ?fr⟩
          case fr => simp only [putO, layT_some, layT_none, layT_nil, List.setIfInBounds_toArray, List.set_cons_zero, List.set_cons_succ]
    · replace hge : 4 ≤ i := hgt
      clear hgt
      rcases Nat.lt_or_ge i 6 with hlt | hgt
      · replace hi := hlt
        clear hlt
        rcases Nat.lt_or_ge i 5 with hlt | hgt
        · replace hi := hlt
          clear hlt
          have he : i = 4 := Nat.le_antisymm (Nat.le_of_lt_succ hi) hge
          subst he
          rw [if_neg (fun h => bit_off hun (hF.back 6 4 h (by kernel_rfl)))] at hO0
          have hcc := (nine_at (hO0)).1
          have cH20 := hcc.1
          have cH21 := hcc.2.1
          have cH22 := hcc.2.2.1
          have cH23 := hcc.2.2.2.1
          have cH24 := hcc.2.2.2.2.1
          have cH25 := hcc.2.2.2.2.2.1
          have cH26 := hcc.2.2.2.2.2.2.1
          have cH27 := hcc.2.2.2.2.2.2.2.1
          have cH28 := hcc.2.2.2.2.2.2.2.2
          clear hcc
          refine step_of ⟨some 17, _, _, _, _, _⟩ rfl (fun K' hK => ?_)
          go_simp
          refine hK.out _ _ ⟨_, hF.pure hok hla hpre rfl (Below.refl _ _), ?fr⟩
          case fr => simp only [putO, layT_some, layT_none, layT_nil, List.setIfInBounds_toArray, List.set_cons_zero, List.set_cons_succ]
        · replace hge : 5 ≤ i := hgt
          clear hgt
          have he : i = 5 := Nat.le_antisymm (Nat.le_of_lt_succ hi) hge
          subst he
          have p3 := hpre 3 (by kernel_rfl)
          have e3 : s3 = .agg #[.int .i64 1, .string (numS q), .string (denS q), .string { data := #[] }, .bool false, .int .i64 0, .int .i64 0, .int .i64 0, .slice none 0 0] := hF.get 3 _ rfl (.inr p3)
          subst e3
          have p4 := hpre 4 (by kernel_rfl)
          have e4 : s4 = .agg #[.int .i64 1, .string (numS p), .string (denS p), .string { data := #[] }, .bool false, .int .i64 0, .int .i64 0, .int .i64 0, .slice none 0 0] := hF.get 4 _ rfl (.inr p4)
          subst e4
          refine step_of ⟨some 18, _, _, _, _, _⟩ rfl (fun K' hK => ?_)
          go_simp
          go_at_call 31
          (with_reducible refine (T2.out _).mono ?_)
          rintro e Wq ⟨rfl, hq⟩
          refine hK.out _ _ ⟨_, hF.pure hok hla hpre rfl hq, ?fr⟩
          case fr => simp only [putO, layT_some, layT_none, layT_nil, List.setIfInBounds_toArray, List.set_cons_zero, List.set_cons_succ]
      · replace hge : 6 ≤ i := hgt
        clear hgt
        rcases Nat.lt_or_ge i 7 with hlt | hgt
        · replace hi := hlt
          clear hlt
          have he : i = 6 := Nat.le_antisymm (Nat.le_of_lt_succ hi) hge
          subst he
          have p2 := hpre 2 (by kernel_rfl)
          have e2 : s2 = .agg #[.int .i64 1, .string (numS p), .string (denS p), .string { data := #[] }, .bool false, .int .i64 0, .int .i64 0, .int .i64 0, .slice none 0 0] := hF.get 2 _ rfl (.inr p2)
          subst e2
          rw [if_neg (bit_off hun)] at hO0
          have HGB := Lib.hid hO0
          obtain ⟨⟨y0, y1, y2, y3, y4, y5, y6, y7, y8⟩, g0, g1, g2, g3, g4, g5, g6, g7, g8⟩ := nine_at HGB.out
          refine step_of ⟨none, _, _, _, _, _⟩ rfl (fun K' hK => ?_)
          go_simp
          refine hK.out _ _ ⟨undef, hF.put hok hna hpre hun rfl undef rfl (.inl (by decide)) rfl (set9_at HGB.out (.int .i64 1) (.string (numS p)) (.string (denS p)) (.string { data := #[] }) (.bool false) (.int .i64 0) (.int .i64 0) (.int .i64 0) (.slice none 0 0)) (fun k hk => set9_other _ _ (.int .i64 1) (.string (numS p)) (.string (denS p)) (.string { data := #[] }) (.bool false) (.int .i64 0) (.int .i64 0) (.int .i64 0) (.slice none 0 0) hk) (put9_below gG0 _ (.int .i64 1) (.string (numS p)) (.string (denS p)) (.string { data := #[] }) (.bool false) (.int .i64 0) (.int .i64 0) (.int .i64 0) (.slice none 0 0)), ?fr⟩
          case fr => simp only [putO, layT_some, layT_none, layT_nil, List.setIfInBounds_toArray, List.set_cons_zero, List.set_cons_succ]
        · replace hge : 7 ≤ i := hgt
          clear hgt
          have he : i = 7 := Nat.le_antisymm (Nat.le_of_lt_succ hi) hge
          subst he
          have p5 := hpre 5 (by kernel_rfl)
          have e5 : s5 = .agg #[.int .i64 1, .string (numS q), .string (denS q), .string { data := #[] }, .bool false, .int .i64 0, .int .i64 0, .int .i64 0, .slice none 0 0] := hF.get 5 _ rfl (.inr p5)
          subst e5
          rw [if_neg (bit_off hun)] at hO1
          have HGB := Lib.hid hO1
          obtain ⟨⟨y0, y1, y2, y3, y4, y5, y6, y7, y8⟩, g0, g1, g2, g3, g4, g5, g6, g7, g8⟩ := nine_at HGB.out
          refine step_of ⟨none, _, _, _, _, _⟩ rfl (fun K' hK => ?_)
          go_simp
          refine hK.out _ _ ⟨undef, hF.put hok hna hpre hun rfl undef rfl (.inl (by decide)) rfl (set9_at HGB.out (.int .i64 1) (.string (numS q)) (.string (denS q)) (.string { data := #[] }) (.bool false) (.int .i64 0) (.int .i64 0) (.int .i64 0) (.slice none 0 0)) (fun k hk => set9_other _ _ (.int .i64 1) (.string (numS q)) (.string (denS q)) (.string { data := #[] }) (.bool false) (.int .i64 0) (.int .i64 0) (.int .i64 0) (.slice none 0 0) hk) (put9_below gG1 _ (.int .i64 1) (.string (numS q)) (.string (denS q)) (.string { data := #[] }) (.bool false) (.int .i64 0) (.int .i64 0) (.int .i64 0) (.slice none 0 0)), ?fr⟩
          case fr => simp only [putO, layT_some, layT_none, layT_nil, List.setIfInBounds_toArray, List.set_cons_zero, List.set_cons_succ]
  case hd =>
    rintro listed vs W2 hF hall
    obtain ⟨s0, s1, s2, s3, s4, s5, s6, s7, o0, o1, hvs⟩ := exl_of 10 vs (fun l => vs = l) hF.len rfl
    subst hvs
    obtain ⟨_, eG0, hg0, gG0, hO0⟩ : ∃ G, o0 = .pointer (some ⟨G, 0, none⟩) ∧ (∀ k, some (w.heap.size) = some k → G = k) ∧ w.heap.size ≤ G ∧ W2.heap[G]? = some (.cells (if listed.getD 6 false = true then #[.int .i64 1, .string (numS p), .string (denS p), .string { data := #[] }, .bool false, .int .i64 0, .int .i64 0, .int .i64 0, .slice none 0 0] else #[.int .i64 1, .string (numS p), .string (denS p), .string { data := #[] }, .bool false, .int .i64 0, .int .i64 0, .int .i64 0, .slice none 0 0]) 27 (0, 0)) := hF.get 8 _ rfl (.inl (by decide))
    have hg0 := hg0 _ rfl
    subst hg0
    subst eG0
    obtain ⟨_, eG1, hg1, gG1, hO1⟩ : ∃ G, o1 = .pointer (some ⟨G, 0, none⟩) ∧ (∀ k, some (w.heap.size + 1) = some k → G = k) ∧ w.heap.size ≤ G ∧ W2.heap[G]? = some (.cells (if listed.getD 7 false = true then #[.int .i64 1, .string (numS q), .string (denS q), .string { data := #[] }, .bool false, .int .i64 0, .int .i64 0, .int .i64 0, .slice none 0 0] else #[.int .i64 1, .string (numS q), .string (denS q), .string { data := #[] }, .bool false, .int .i64 0, .int .i64 0, .int .i64 0, .slice none 0 0]) 27 (0, 0)) := hF.get 9 _ rfl (.inl (by decide))
    have hg1 := hg1 _ rfl
    subst hg1
    subst eG1
    rw [if_pos (hall 6 (by decide))] at hO0
    replace H2 := Lib.hid hO0
    clear hO0
    rw [if_pos (hall 7 (by decide))] at hO1
    replace H3 := Lib.hid hO1
    clear hO1
    have HQ := Lib.hid hF.low
    clear hF hall hok hna hla
    simp only [putO, layT_some, layT_none, layT_nil, List.setIfInBounds_toArray, List.set_cons_zero, List.set_cons_succ]
    obtain ⟨⟨x0, x1, x2, x3, x4, x5, x6, x7, x8⟩, _⟩ := nine_at H2.out
    obtain ⟨⟨y0, y1, y2, y3, y4, y5, y6, y7, y8⟩, _⟩ := nine_at H3.out
    go_wp2_with fail
    refine (TC.out _).mono ?_
    rintro e W3 ⟨rfl, hb⟩
    have HL3 := Lib.hid ((below_none HQ.out).trans (hb.mono HQ.out.size))
    clear hb
    go_wp2
    go_ret2
    exact ⟨rfl, HL3.out⟩
end Go.Proofs.YtcbolipiaflfbaaGreatDoor.Num

/- The law FmoneyReturns' closure: the sign of the value of a flow at a step. Conditions: what the small functions give. -/
namespace Go.Proofs.YtcbolipiaflfbaaGreatDoor.Num.Fy
open Go.RowKit Go.Lib Num
attribute [local irreducible] wpOp
set_option linter.unusedVariables false in
/-- what the operations of region 2 yield -/
def step_walkKs2 (f x y z o : Rat) (g M C Bv : Nat) (s : Int) (W : World) (W0 : World) : List RK :=
  [.pure (.pointer (some ⟨Bv, 8, none⟩)),
   .pure (.slice (some ⟨g, 0, none⟩) (M + 1) (C + 1)),
   .pure (.slice (some ⟨g, 9, none⟩) M C),
   .pure (.pointer (some ⟨Bv, 7, none⟩)),
   .pure (.int .i64 ((M : Int) + 1)),
   .pure (.int .i64 (M : Int)),
   .pure (.pointer (some ⟨W0.heap.size, 8, none⟩)),
   .put 11,
   .put 0,
   .put 0,
   .box (some (W.heap.size)) #[.string (numS f), .string (denS f)] #[.string (numS f), .string (denS f)] 24 12,
   .box (some (W0.heap.size)) #[.int .i64 5, .string { data := #[] }, .string { data := #[] }, .string { data := #[] }, .bool false, .int .i64 0, .int .i64 1, .int .i64 ((M : Int) + 1), .slice (some ⟨g, 0, none⟩) (M + 1) (C + 1)] #[.int .i64 5, .string { data := #[] }, .string { data := #[] }, .string { data := #[] }, .bool false, .int .i64 0, .int .i64 1, .int .i64 ((M : Int) + 1), .slice (some ⟨g, 9, none⟩) M C] 27 7]
set_option linter.unusedVariables false in
/-- what the operations of region 3 yield -/
def step_walkKs3 (f x y z o : Rat) (g M C Bv : Nat) (s : Int) (W : World) (W0 : World) : List RK :=
  [.pure (.agg #[.string (numS f), .string (denS f)]),
   .pure (.agg #[.int .i64 1, .string (numS f), .string (denS f), .string { data := #[] }, .bool false, .int .i64 0, .int .i64 0, .int .i64 0, .slice none 0 0]),
   .pure (.agg #[.int .i64 5, .string { data := #[] }, .string { data := #[] }, .string { data := #[] }, .bool false, .int .i64 0, .int .i64 1, .int .i64 (M : Int), .slice (some ⟨g, 9, none⟩) M C]),
   .row #[.int .i64 1, .string (numS f), .string (denS f), .string { data := #[] }, .bool false, .int .i64 0, .int .i64 0, .int .i64 0, .slice none 0 0, .int .i64 5, .string { data := #[] }, .string { data := #[] }, .string { data := #[] }, .bool false, .int .i64 0, .int .i64 1, .int .i64 (M : Int), .slice (some ⟨g, 9, none⟩) M C] 27 2,
   .pure (.agg #[.int .i64 1, .string (numS y), .string (denS y), .string { data := #[] }, .bool false, .int .i64 0, .int .i64 0, .int .i64 0, .slice none 0 0]),
   .pure (.pointer (some ⟨Bv, 8, none⟩)),
   .pure (.slice (some ⟨g, 0, none⟩) (M + 1) (C + 1)),
   .pure (.pointer (some ⟨g, 0, none⟩)),
   .pure (.agg #[.int .i64 1, .string (numS x), .string (denS x), .string { data := #[] }, .bool false, .int .i64 0, .int .i64 0, .int .i64 0, .slice none 0 0]),
   .pure (.agg #[.int .i64 1, .string (numS z), .string (denS z), .string { data := #[] }, .bool false, .int .i64 0, .int .i64 0, .int .i64 0, .slice none 0 0]),
   .box none #[.int .i64 0, .string { data := #[] }, .string { data := #[] }, .string { data := #[] }, .bool false, .int .i64 0, .int .i64 0, .int .i64 0, .slice none 0 0] #[.int .i64 1, .string (numS z), .string (denS z), .string { data := #[] }, .bool false, .int .i64 0, .int .i64 0, .int .i64 0, .slice none 0 0] 27 11,
   .put 10]
set_option linter.unusedVariables false in
/-- what the operations of region 4 yield -/
def step_walkKs4 (f x y z o : Rat) (g M C Bv : Nat) (s : Int) (W : World) (W0 : World) : List RK :=
  [.pure (.agg #[.int .i64 1, .string (numS z), .string (denS z), .string { data := #[] }, .bool false, .int .i64 0, .int .i64 0, .int .i64 0, .slice none 0 0]),
   .pure (.agg #[.int .i64 1, .string (numS o), .string (denS o), .string { data := #[] }, .bool false, .int .i64 0, .int .i64 0, .int .i64 0, .slice none 0 0]),
   .pure (.tuple #[.int .i64 s, .int .i64 0]),
   .pure (.tuple #[.int .i64 s, .int .i64 0]),
   .pure (.int .i64 s),
   .pure (.int .i64 0),
   .pure (.int .i64 s),
   .pure (.int .i64 0)]
set_option linter.unusedSimpArgs false in
set_option linter.unusedVariables false in
set_option maxHeartbeats 4000000 in
set_option maxRecDepth 100000 in
theorem step_walk (f x y z o : Rat) (qs : List Rat) (g M C Bv : Nat) (s : Int) (W : World) (c0 : Fun1 17 (.agg #[.string (numS f), .string (denS f)]) (.agg #[.int .i64 1, .string (numS f), .string (denS f), .string { data := #[] }, .bool false, .int .i64 0, .int .i64 0, .int .i64 0, .slice none 0 0]))
    (c1 : Fun2 16 (.agg #[.int .i64 1, .string (numS y), .string (denS y), .string { data := #[] }, .bool false, .int .i64 0, .int .i64 0, .int .i64 0, .slice none 0 0]) (.agg #[.int .i64 1, .string (numS x), .string (denS x), .string { data := #[] }, .bool false, .int .i64 0, .int .i64 0, .int .i64 0, .slice none 0 0]) (.agg #[.int .i64 1, .string (numS z), .string (denS z), .string { data := #[] }, .bool false, .int .i64 0, .int .i64 0, .int .i64 0, .slice none 0 0]))
    (c2 : Fun1 10 (.int .i64 0) (.agg #[.int .i64 1, .string (numS o), .string (denS o), .string { data := #[] }, .bool false, .int .i64 0, .int .i64 0, .int .i64 0, .slice none 0 0]))
    (c3 : Fun2 14 (.agg #[.int .i64 1, .string (numS z), .string (denS z), .string { data := #[] }, .bool false, .int .i64 0, .int .i64 0, .int .i64 0, .slice none 0 0]) (.agg #[.int .i64 1, .string (numS o), .string (denS o), .string { data := #[] }, .bool false, .int .i64 0, .int .i64 0, .int .i64 0, .slice none 0 0]) (.tuple #[.int .i64 s, .int .i64 0]))
    (hM9 : M ≤ 1000)
    (hM0 : 0 < M)
    (hMC : M ≤ C)
    (hb1 : W.heap[Bv]? = some (.cells #[.int .i64 5, .string { data := #[] }, .string { data := #[] }, .string { data := #[] }, .bool false, .int .i64 0, .int .i64 1, .int .i64 ((M : Int) + 1), .slice (some ⟨g, 0, none⟩) (M + 1) (C + 1)] 27 (0, 0)))
    (hx : ValsAt W g 0 (numVals (x :: qs)))
    (hM : qs.length = M)
    (hp : ∀ (W' : World) (G : Nat), Below W.heap.size W W' → W'.heap[G]? = some (.cells #[.int .i64 1, .string (numS f), .string (denS f), .string { data := #[] }, .bool false, .int .i64 0, .int .i64 0, .int .i64 0, .slice none 0 0, .int .i64 5, .string { data := #[] }, .string { data := #[] }, .string { data := #[] }, .bool false, .int .i64 0, .int .i64 1, .int .i64 (M : Int), .slice (some ⟨g, 9, none⟩) M C] 27 (0, 0)) → EnvY W' → Calls Tryz.prog 13 #[.string { data := #[78, 80, 86] }, .slice (some ⟨G, 0, none⟩) 2 2] W' fun e w' => e = .returned (.agg #[.int .i64 1, .string (numS y), .string (denS y), .string { data := #[] }, .bool false, .int .i64 0, .int .i64 0, .int .i64 0, .slice none 0 0]) ∧ Below W'.heap.size W' w') (hE : EnvY W) :
    Calls Tryz.prog 15 #[.agg #[.string (numS f), .string (denS f)], .pointer (some ⟨Bv, 0, none⟩)] W fun e w' => e = .returned (.int .i64 s) ∧ Below W.heap.size W w' := by
  have Qc0 := Lib.hid c0
  have Qc1 := Lib.hid c1
  have Qc2 := Lib.hid c2
  have Qc3 := Lib.hid c3
  unfold Fun1 at Qc0 Qc2
  unfold Fun2 at Qc1 Qc3
  have HPT := Lib.hid hp
  have HX := Lib.hid hx
  have H1 := Lib.hid hb1
  have HB := Lib.hid hb1
  have HBV := Lib.hid (heap_lt hb1)
  have hi0 : (0 : Int) < (M : Int) + 1 := by omega
  have hi1 : (0 : Int) ≤ (M : Int) + 1 := by omega
  have hi2 : (1 : Int) ≤ (M : Int) + 1 := by omega
  have hwM : IntKind.i64.wrap (M : Int) = (M : Int) := IntWalk.i64_in _ (by omega)
  have hC0 : (C = 0) = False := eq_false (by omega)
  have HE0 := Lib.hid hE
  have HG := Lib.hid (show Below W.heap.size W (W.alloc (.cells #[.string (numS f), .string (denS f)] 24)) from ((Below.refl _ _).alloc (Nat.le_refl _) _))
  have H2 : Hid ((W.alloc (.cells #[.string (numS f), .string (denS f)] 24)).heap[W.heap.size]? = some (.cells #[.string (numS f), .string (denS f)] 24 (0, 0))) := Lib.hid (by
    have h := heap_alloc_new W (.cells #[.string (numS f), .string (denS f)] 24)
    exact h)
  obtain ⟨W0, hW0⟩ : ∃ Z, (W.alloc (.cells #[.string (numS f), .string (denS f)] 24)) = Z := ⟨_, rfl⟩
  rw [hW0] at HG H2
  have EW0 := Lib.hid hW0
  have HE := Lib.hid (HE0.out.below HG.out)
  clear hW0 hE c0 c1 c2 c3 hp hb1 hx hM
  go_enter Tryz.func15, Tryz.ntmps15
  replace H1 := Lib.hid (keep_block H1.out HG.out)
  go_upto_region 1 with fail
  rw [EW0.out]
  obtain ⟨⟨x1_0, x1_1, x1_2, x1_3, x1_4, x1_5, x1_6, x1_7, x1_8⟩, x1_f0, x1_f1, x1_f2, x1_f3, x1_f4, x1_f5, x1_f6, x1_f7, x1_f8⟩ := nine_at H1.out
  have lt_2 := heap_lt H2.out
  have lt_1 := heap_lt H1.out
  have geW := HG.out.size
  have L4_2 : Hid (W.heap.size < W0.heap.size) := Lib.hid (by omega)
  have L4_1 : Hid (Bv < W0.heap.size) := Lib.hid (by omega)
  have G4 : Hid (W.heap.size ≤ W0.heap.size) := Lib.hid (by omega)
  have hb : Below W0.heap.size W0 (W0.alloc (.cells #[.int .i64 5, .string { data := #[] }, .string { data := #[] }, .string { data := #[] }, .bool false, .int .i64 0, .int .i64 1, .int .i64 ((M : Int) + 1), .slice (some ⟨g, 0, none⟩) (M + 1) (C + 1)] 27)) := (Below.refl _ _).alloc (Nat.le_refl _) _
  replace H2 := Lib.hid (keep_block H2.out hb)
  replace H1 := Lib.hid (keep_block H1.out hb)
  replace HE := Lib.hid (HE.out.below hb)
  replace HG := Lib.hid (HG.out.trans (hb.mono HG.out.size))
  have H4 := Lib.hid (heap_alloc_new W0 (.cells #[.int .i64 5, .string { data := #[] }, .string { data := #[] }, .string { data := #[] }, .bool false, .int .i64 0, .int .i64 1, .int .i64 ((M : Int) + 1), .slice (some ⟨g, 0, none⟩) (M + 1) (C + 1)] 27))
  clear hb
  clear geW lt_2 lt_1
  obtain ⟨WL1, hWL1⟩ : ∃ Z, (W0.alloc (.cells #[.int .i64 5, .string { data := #[] }, .string { data := #[] }, .string { data := #[] }, .bool false, .int .i64 0, .int .i64 1, .int .i64 ((M : Int) + 1), .slice (some ⟨g, 0, none⟩) (M + 1) (C + 1)] 27)) = Z := ⟨_, rfl⟩
  rw [hWL1] at HE HG H2 H1 H4
  have EWL1 := Lib.hid hWL1
  clear hWL1
  go_wp2_with fail
  rw [EWL1.out]
  have := L4_2.out
  have := HG.out.size
  have := G4.out
  have hok : okB 10 (step_walkKs2 f x y z o g M C Bv s W W0) = true := by kernel_rfl
  have hna := noAny_of (ks := (step_walkKs2 f x y z o g M C Bv s W W0)) (by kernel_rfl)
  have hla := lasts_of hna
  refine wp_region_facts_tail (row := none) (w := W) 8 2 10 [8, 9] (step_walkKs2 f x y z o g M C Bv s W W0) [some 9, some 10, some 11, some 12, some 13, some 14, some 15, none, some 16, none] (by kernel_rfl) (by kernel_rfl) (by kernel_rfl) rfl rfl (by decide) rfl [undef, undef, undef, undef, undef, undef, undef, undef, undef, undef, .pointer (some ⟨W.heap.size, 0, none⟩), .pointer (some ⟨W0.heap.size, 0, none⟩)] ?h00 (Fs.start_olds hla rfl (only_of_below HG.out none) ⟨⟨_, rfl, fun _ h => Option.some.inj h, by omega, H2.out⟩, fun _ => ⟨fun _ => far_of (by omega), trivial⟩, ⟨⟨_, rfl, fun _ h => Option.some.inj h, by omega, H4.out⟩, fun _ => trivial, trivial⟩⟩) ?hs ?hd
  case h00 => simp only [putO, layL]
  case hs =>
    rintro listed vs Wr hF i hi hun hpre
    obtain ⟨s0, s1, s2, s3, s4, s5, s6, s7, s8, s9, o0, o1, hvs⟩ := exl_of 12 vs (fun l => vs = l) hF.len rfl
    subst hvs
    obtain ⟨eG0, gG0, hO0⟩ := old_of hF (i := 10) rfl (.inl (by decide))
    replace eG0 : o0 = _ := eG0
    subst eG0
    obtain ⟨eG1, gG1, hO1⟩ := old_of hF (i := 11) rfl (.inl (by decide))
    replace eG1 : o1 = _ := eG1
    subst eG1
    have hge := Nat.zero_le i
    simp only [putO, layL]
    rcases Nat.lt_or_ge i 4 with hlt | hgt
    · replace hi := hlt
      clear hlt
      rcases Nat.lt_or_ge i 2 with hlt | hgt
      · replace hi := hlt
        clear hlt
        rcases Nat.lt_or_ge i 1 with hlt | hgt
        · replace hi := hlt
          clear hlt
          obtain rfl := eqi hi hge
          refine step_of ⟨some 9, _, _, _, _, _⟩ rfl (fun K' hK => ?_)
          go_simp
          refine hK.out _ _ ⟨_, hF.pure hok hla hpre rfl (Below.refl _ _), ?fr⟩
          case fr => simp only [putO, layL]
        · replace hge : 1 ≤ i := hgt
          clear hgt
          obtain rfl := eqi hi hge
          have p0 := hpre 0 (by kernel_rfl)
          have e0 : s0 = .pointer (some ⟨Bv, 8, none⟩) := hF.get 0 _ rfl (.inr p0)
          subst e0
          have hcc := (nine_at (keep_block HB.out (below_none hF.low))).1
          have cH10 := hcc.1
          have cH11 := hcc.2.1
          have cH12 := hcc.2.2.1
          have cH13 := hcc.2.2.2.1
          have cH14 := hcc.2.2.2.2.1
          have cH15 := hcc.2.2.2.2.2.1
          have cH16 := hcc.2.2.2.2.2.2.1
          have cH17 := hcc.2.2.2.2.2.2.2.1
          have cH18 := hcc.2.2.2.2.2.2.2.2
          clear hcc
          refine step_of ⟨some 10, _, _, _, _, _⟩ rfl (fun K' hK => ?_)
          go_simp
          refine hK.out _ _ ⟨_, hF.pure hok hla hpre rfl (Below.refl _ _), ?fr⟩
          case fr => simp only [putO, layL]
      · replace hge : 2 ≤ i := hgt
        clear hgt
        rcases Nat.lt_or_ge i 3 with hlt | hgt
        · replace hi := hlt
          clear hlt
          obtain rfl := eqi hi hge
          have p1 := hpre 1 (by kernel_rfl)
          have e1 : s1 = .slice (some ⟨g, 0, none⟩) (M + 1) (C + 1) := hF.get 1 _ rfl (.inr p1)
          subst e1
          refine step_of ⟨some 11, _, _, _, _, _⟩ rfl (fun K' hK => ?_)
          go_simp
          refine hK.out _ _ ⟨_, hF.pure hok hla hpre rfl (Below.refl _ _), ?fr⟩
          case fr => simp only [putO, layL]
        · replace hge : 3 ≤ i := hgt
          clear hgt
          obtain rfl := eqi hi hge
          refine step_of ⟨some 12, _, _, _, _, _⟩ rfl (fun K' hK => ?_)
          go_simp
          refine hK.out _ _ ⟨_, hF.pure hok hla hpre rfl (Below.refl _ _), ?fr⟩
          case fr => simp only [putO, layL]
    · replace hge : 4 ≤ i := hgt
      clear hgt
      rcases Nat.lt_or_ge i 6 with hlt | hgt
      · replace hi := hlt
        clear hlt
        rcases Nat.lt_or_ge i 5 with hlt | hgt
        · replace hi := hlt
          clear hlt
          obtain rfl := eqi hi hge
          have p3 := hpre 3 (by kernel_rfl)
          have e3 : s3 = .pointer (some ⟨Bv, 7, none⟩) := hF.get 3 _ rfl (.inr p3)
          subst e3
          have hcc := (nine_at (keep_block HB.out (below_none hF.low))).1
          have cH10 := hcc.1
          have cH11 := hcc.2.1
          have cH12 := hcc.2.2.1
          have cH13 := hcc.2.2.2.1
          have cH14 := hcc.2.2.2.2.1
          have cH15 := hcc.2.2.2.2.2.1
          have cH16 := hcc.2.2.2.2.2.2.1
          have cH17 := hcc.2.2.2.2.2.2.2.1
          have cH18 := hcc.2.2.2.2.2.2.2.2
          clear hcc
          refine step_of ⟨some 13, _, _, _, _, _⟩ rfl (fun K' hK => ?_)
          go_simp
          refine hK.out _ _ ⟨_, hF.pure hok hla hpre rfl (Below.refl _ _), ?fr⟩
          case fr => simp only [putO, layL]
        · replace hge : 5 ≤ i := hgt
          clear hgt
          obtain rfl := eqi hi hge
          have p4 := hpre 4 (by kernel_rfl)
          have e4 : s4 = .int .i64 ((M : Int) + 1) := hF.get 4 _ rfl (.inr p4)
          subst e4
          refine step_of ⟨some 14, _, _, _, _, _⟩ rfl (fun K' hK => ?_)
          go_simp
          refine hK.out _ _ ⟨_, hF.pure hok hla hpre rfl (Below.refl _ _), ?fr⟩
          case fr => simp only [putO, layL]
      · replace hge : 6 ≤ i := hgt
        clear hgt
        rcases Nat.lt_or_ge i 7 with hlt | hgt
        · replace hi := hlt
          clear hlt
          obtain rfl := eqi hi hge
          refine step_of ⟨some 15, _, _, _, _, _⟩ rfl (fun K' hK => ?_)
          go_simp
          refine hK.out _ _ ⟨_, hF.pure hok hla hpre rfl (Below.refl _ _), ?fr⟩
          case fr => simp only [putO, layL]
        · replace hge : 7 ≤ i := hgt
          clear hgt
          obtain rfl := eqi hi hge
          have p6 := hpre 6 (by kernel_rfl)
          have e6 : s6 = .pointer (some ⟨W0.heap.size, 8, none⟩) := hF.get 6 _ rfl (.inr p6)
          subst e6
          have p2 := hpre 2 (by kernel_rfl)
          have e2 : s2 = .slice (some ⟨g, 9, none⟩) M C := hF.get 2 _ rfl (.inr p2)
          subst e2
          rw [if_neg (bit_off hun)] at hO1
          have HGB := Lib.hid hO1
          obtain ⟨⟨y0, y1, y2, y3, y4, y5, y6, y7, y8⟩, g0, g1, g2, g3, g4, g5, g6, g7, g8⟩ := nine_at HGB.out
          refine step_of ⟨none, _, _, _, _, _⟩ rfl (fun K' hK => ?_)
          go_simp
          refine hK.out _ _ ⟨undef, hF.put hok hna hpre hun rfl undef rfl (.inl (by decide)) rfl (heap_setCell_at HGB.out 8 (.slice (some ⟨g, 9, none⟩) M C)) (fun k hk => Below.heap_setCell _ ⟨_, 8, none⟩ _ k hk) ((Below.refl _ _).setCell (p := ⟨_, 8, none⟩) gG1 _), ?fr⟩
          case fr => simp only [putO, layL]
  case hd =>
    rintro listed vs WA hF hall
    obtain ⟨s0, s1, s2, s3, s4, s5, s6, s7, s8, s9, o0, o1, hvs⟩ := exl_of 12 vs (fun l => vs = l) hF.len rfl
    subst hvs
    obtain ⟨eG0, gG0, hO0⟩ := old_of hF (i := 10) rfl (.inl (by decide))
    replace eG0 : o0 = _ := eG0
    subst eG0
    obtain ⟨eG1, gG1, hO1⟩ := old_of hF (i := 11) rfl (.inl (by decide))
    replace eG1 : o1 = _ := eG1
    subst eG1
    have e2 : s2 = .slice (some ⟨g, 9, none⟩) M C := hF.get 2 _ rfl (.inr (hall 2 (by decide)))
    subst e2
    have e5 : s5 = .int .i64 (M : Int) := hF.get 5 _ rfl (.inr (hall 5 (by decide)))
    subst e5
    rw [if_neg (hF.unst (by decide))] at hO0
    replace H2 := Lib.hid hO0
    clear hO0
    rw [if_pos (hall 7 (by decide))] at hO1
    replace H4 := Lib.hid hO1
    clear hO1
    have HQ := Lib.hid hF.low
    clear hF hall hok hna hla
    simp only [putO, layL]
    replace HG := Lib.hid (below_none HQ.out)
    clear HQ
    replace HE := Lib.hid (HE0.out.below HG.out)
    clear H1
    have H1 := Lib.hid (keep_block HB.out HG.out)
    refine rest_one 8 ⟨some 16, _, _, _, _, _⟩ rfl (by kernel_rfl) rfl (fun K' hK => ?_)
    go_simp
    refine hK.out _ _ ?_
    obtain ⟨⟨x4_0, x4_1, x4_2, x4_3, x4_4, x4_5, x4_6, x4_7, x4_8⟩, x4_f0, x4_f1, x4_f2, x4_f3, x4_f4, x4_f5, x4_f6, x4_f7, x4_f8⟩ := nine_at H4.out
    refine rest_one 9 ⟨none, _, _, _, _, _⟩ rfl (by kernel_rfl) rfl (fun K' hK => ?_)
    go_simp
    refine hK.out _ _ ?_
    clear x4_0 x4_1 x4_2 x4_3 x4_4 x4_5 x4_6 x4_7 x4_8 x4_f0 x4_f1 x4_f2 x4_f3 x4_f4 x4_f5 x4_f6 x4_f7 x4_f8
    have k2 : (WA.setCell ⟨W0.heap.size, 7, none⟩ (.int .i64 (M : Int))).heap[W.heap.size]? = some (.cells #[.string (numS f), .string (denS f)] 24 (0, 0)) := (Below.heap_setCell _ ⟨W0.heap.size, 7, none⟩ _ _ (show W.heap.size ≠ W0.heap.size from by have := L4_2.out; omega)).trans H2.out
    have k1 : (WA.setCell ⟨W0.heap.size, 7, none⟩ (.int .i64 (M : Int))).heap[Bv]? = some (.cells #[.int .i64 5, .string { data := #[] }, .string { data := #[] }, .string { data := #[] }, .bool false, .int .i64 0, .int .i64 1, .int .i64 ((M : Int) + 1), .slice (some ⟨g, 0, none⟩) (M + 1) (C + 1)] 27 (0, 0)) := (Below.heap_setCell _ ⟨W0.heap.size, 7, none⟩ _ _ (show Bv ≠ W0.heap.size from by have := HBV.out; have := G4.out; omega)).trans H1.out
    have knew : (WA.setCell ⟨W0.heap.size, 7, none⟩ (.int .i64 (M : Int))).heap[W0.heap.size]? = some (.cells #[.int .i64 5, .string { data := #[] }, .string { data := #[] }, .string { data := #[] }, .bool false, .int .i64 0, .int .i64 1, .int .i64 (M : Int), .slice (some ⟨g, 9, none⟩) M C] 27 (0, 0)) := heap_setCell_at H4.out 7 (.int .i64 (M : Int))
    have kgr : Below W.heap.size W (WA.setCell ⟨W0.heap.size, 7, none⟩ (.int .i64 (M : Int))) := HG.out.setCell (p := ⟨W0.heap.size, 7, none⟩) (show W.heap.size ≤ W0.heap.size from G4.out) _
    obtain ⟨WS3, hW⟩ : ∃ Z, (WA.setCell ⟨W0.heap.size, 7, none⟩ (.int .i64 (M : Int))) = Z := ⟨_, rfl⟩
    rw [hW] at knew kgr k2 k1
    rw [hW]
    replace H4 := Lib.hid knew
    replace HG := Lib.hid kgr
    replace HE := Lib.hid (HE0.out.below kgr)
    replace H2 := Lib.hid k2
    replace H1 := Lib.hid k1
    clear hW knew kgr k2 k1
    refine rest_end ?_
    have lt_2 := Lib.hid (heap_lt H2.out)
    have lt_4 := Lib.hid (heap_lt H4.out)
    have lt_1 := Lib.hid (heap_lt H1.out)
    have geW := Lib.hid HG.out.size
    go_wp2_with fail
    have hok : okB 12 (step_walkKs3 f x y z o g M C Bv s W W0) = true := by kernel_rfl
    have hna := noAny_of (ks := (step_walkKs3 f x y z o g M C Bv s W W0)) (by kernel_rfl)
    have hla := lasts_of hna
    refine wp_region_facts (row := none) (w := WS3) 12 (step_walkKs3 f x y z o g M C Bv s W W0) [some 17, some 18, some 19, some 20, some 21, some 22, some 23, some 24, some 25, some 26, some 5, none] (by kernel_rfl) (by kernel_rfl) rfl [undef, undef, undef, undef, undef, undef, undef, undef, undef, undef, undef, undef] ?h00 (Fs.start rfl rfl) ?hs ?hd
    case h00 => simp only [putO, layL]
    case hs =>
      rintro listed vs Wr hF i hi hun hpre
      obtain ⟨s0, s1, s2, s3, s4, s5, s6, s7, s8, s9, s10, s11, hvs⟩ := exl_of 12 vs (fun l => vs = l) hF.len rfl
      subst hvs
      have hge := Nat.zero_le i
      simp only [putO, layL]
      rcases Nat.lt_or_ge i 6 with hlt | hgt
      · replace hi := hlt
        clear hlt
        rcases Nat.lt_or_ge i 3 with hlt | hgt
        · replace hi := hlt
          clear hlt
          rcases Nat.lt_or_ge i 1 with hlt | hgt
          · replace hi := hlt
            clear hlt
            obtain rfl := eqi hi hge
            have hcc := (two_at (keep_block H2.out (below_none hF.low))).1
            have cH20 := hcc.1
            have cH21 := hcc.2
            clear hcc
            refine step_of ⟨some 17, _, _, _, _, _⟩ rfl (fun K' hK => ?_)
            go_simp
            refine hK.out _ _ ⟨_, hF.pure hok hla hpre rfl (Below.refl _ _), ?fr⟩
            case fr => simp only [putO, layL]
          · replace hge : 1 ≤ i := hgt
            clear hgt
            rcases Nat.lt_or_ge i 2 with hlt | hgt
            · replace hi := hlt
              clear hlt
              obtain rfl := eqi hi hge
              have p0 := hpre 0 (by kernel_rfl)
              have e0 : s0 = .agg #[.string (numS f), .string (denS f)] := hF.get 0 _ rfl (.inr p0)
              subst e0
              refine step_of ⟨some 18, _, _, _, _, _⟩ rfl (fun K' hK => ?_)
              go_simp
              go_at_call 17
              (with_reducible refine (Qc0.out _ (HE.out.below (below_none hF.low))).mono ?_)
              rintro e Wq ⟨rfl, hq⟩
              refine hK.out _ _ ⟨_, hF.pure hok hla hpre rfl hq, ?fr⟩
              case fr => simp only [putO, layL]
            · replace hge : 2 ≤ i := hgt
              clear hgt
              obtain rfl := eqi hi hge
              have hcc := (nine_at (keep_block H4.out (below_none hF.low))).1
              have cH40 := hcc.1
              have cH41 := hcc.2.1
              have cH42 := hcc.2.2.1
              have cH43 := hcc.2.2.2.1
              have cH44 := hcc.2.2.2.2.1
              have cH45 := hcc.2.2.2.2.2.1
              have cH46 := hcc.2.2.2.2.2.2.1
              have cH47 := hcc.2.2.2.2.2.2.2.1
              have cH48 := hcc.2.2.2.2.2.2.2.2
              clear hcc
              refine step_of ⟨some 19, _, _, _, _, _⟩ rfl (fun K' hK => ?_)
              go_simp
              refine hK.out _ _ ⟨_, hF.pure hok hla hpre rfl (Below.refl _ _), ?fr⟩
              case fr => simp only [putO, layL]
        · replace hge : 3 ≤ i := hgt
          clear hgt
          rcases Nat.lt_or_ge i 4 with hlt | hgt
          · replace hi := hlt
            clear hlt
            obtain rfl := eqi hi hge
            have p1 := hpre 1 (by kernel_rfl)
            have e1 : s1 = .agg #[.int .i64 1, .string (numS f), .string (denS f), .string { data := #[] }, .bool false, .int .i64 0, .int .i64 0, .int .i64 0, .slice none 0 0] := hF.get 1 _ rfl (.inr p1)
            subst e1
            have p2 := hpre 2 (by kernel_rfl)
            have e2 : s2 = .agg #[.int .i64 5, .string { data := #[] }, .string { data := #[] }, .string { data := #[] }, .bool false, .int .i64 0, .int .i64 1, .int .i64 (M : Int), .slice (some ⟨g, 9, none⟩) M C] := hF.get 2 _ rfl (.inr p2)
            subst e2
            refine step_of ⟨some 20, _, _, _, _, _⟩ rfl (fun K' hK => ?_)
            go_simp
            refine hK.out _ _ ⟨_, hF.row hok hla hpre rfl, ?fr⟩
            case fr => simp only [putO, layL]
          · replace hge : 4 ≤ i := hgt
            clear hgt
            rcases Nat.lt_or_ge i 5 with hlt | hgt
            · replace hi := hlt
              clear hlt
              obtain rfl := eqi hi hge
              have p3 := hpre 3 (by kernel_rfl)
              obtain ⟨G, eG, _, hGB⟩ : ∃ G, s3 = .slice (some ⟨G, 0, none⟩) 2 2 ∧ _ ≤ G ∧ Wr.heap[G]? = some (.cells #[.int .i64 1, .string (numS f), .string (denS f), .string { data := #[] }, .bool false, .int .i64 0, .int .i64 0, .int .i64 0, .slice none 0 0, .int .i64 5, .string { data := #[] }, .string { data := #[] }, .string { data := #[] }, .bool false, .int .i64 0, .int .i64 1, .int .i64 (M : Int), .slice (some ⟨g, 9, none⟩) M C] 27 (0, 0)) := hF.get 3 _ rfl (.inr p3)
              subst eG
              refine step_of ⟨some 21, _, _, _, _, _⟩ rfl (fun K' hK => ?_)
              go_simp
              go_at_call 13
              (with_reducible refine (HPT.out _ _ (HG.out.trans ((below_none hF.low).mono HG.out.size)) hGB (HE.out.below (below_none hF.low))).mono ?_)
              rintro e Wq ⟨rfl, hq⟩
              refine hK.out _ _ ⟨_, hF.pure hok hla hpre rfl hq, ?fr⟩
              case fr => simp only [putO, layL]
            · replace hge : 5 ≤ i := hgt
              clear hgt
              obtain rfl := eqi hi hge
              refine step_of ⟨some 22, _, _, _, _, _⟩ rfl (fun K' hK => ?_)
              go_simp
              refine hK.out _ _ ⟨_, hF.pure hok hla hpre rfl (Below.refl _ _), ?fr⟩
              case fr => simp only [putO, layL]
      · replace hge : 6 ≤ i := hgt
        clear hgt
        rcases Nat.lt_or_ge i 9 with hlt | hgt
        · replace hi := hlt
          clear hlt
          rcases Nat.lt_or_ge i 7 with hlt | hgt
          · replace hi := hlt
            clear hlt
            obtain rfl := eqi hi hge
            have p5 := hpre 5 (by kernel_rfl)
            have e5 : s5 = .pointer (some ⟨Bv, 8, none⟩) := hF.get 5 _ rfl (.inr p5)
            subst e5
            have hcc := (nine_at (keep_block H1.out (below_none hF.low))).1
            have cH10 := hcc.1
            have cH11 := hcc.2.1
            have cH12 := hcc.2.2.1
            have cH13 := hcc.2.2.2.1
            have cH14 := hcc.2.2.2.2.1
            have cH15 := hcc.2.2.2.2.2.1
            have cH16 := hcc.2.2.2.2.2.2.1
            have cH17 := hcc.2.2.2.2.2.2.2.1
            have cH18 := hcc.2.2.2.2.2.2.2.2
            clear hcc
            refine step_of ⟨some 23, _, _, _, _, _⟩ rfl (fun K' hK => ?_)
            go_simp
            refine hK.out _ _ ⟨_, hF.pure hok hla hpre rfl (Below.refl _ _), ?fr⟩
            case fr => simp only [putO, layL]
          · replace hge : 7 ≤ i := hgt
            clear hgt
            rcases Nat.lt_or_ge i 8 with hlt | hgt
            · replace hi := hlt
              clear hlt
              obtain rfl := eqi hi hge
              have p6 := hpre 6 (by kernel_rfl)
              have e6 : s6 = .slice (some ⟨g, 0, none⟩) (M + 1) (C + 1) := hF.get 6 _ rfl (.inr p6)
              subst e6
              have hj0 : (0 : Int) < (M : Int) + 1 := by omega
              refine step_of ⟨some 24, _, _, _, _, _⟩ rfl (fun K' hK => ?_)
              go_simp
              refine hK.out _ _ ⟨_, hF.pure hok hla hpre rfl (Below.refl _ _), ?fr⟩
              case fr => simp only [putO, layL]
            · replace hge : 8 ≤ i := hgt
              clear hgt
              obtain rfl := eqi hi hge
              have p7 := hpre 7 (by kernel_rfl)
              have e7 : s7 = .pointer (some ⟨g, 0, none⟩) := hF.get 7 _ rfl (.inr p7)
              subst e7
              have hx0 := item_at (HX.out.below (HG.out.trans ((below_none hF.low).mono HG.out.size))) 0 (by simp) x rfl
              obtain ⟨i0, i1, i2, i3, i4, i5, i6, i7, i8⟩ := hx0
              simp only [Nat.zero_mul, Nat.zero_add] at i0 i1 i2 i3 i4 i5 i6 i7 i8
              refine step_of ⟨some 25, _, _, _, _, _⟩ rfl (fun K' hK => ?_)
              go_simp
              refine hK.out _ _ ⟨_, hF.pure hok hla hpre rfl (Below.refl _ _), ?fr⟩
              case fr => simp only [putO, layL]
        · replace hge : 9 ≤ i := hgt
          clear hgt
          rcases Nat.lt_or_ge i 10 with hlt | hgt
          · replace hi := hlt
            clear hlt
            obtain rfl := eqi hi hge
            have p4 := hpre 4 (by kernel_rfl)
            have e4 : s4 = .agg #[.int .i64 1, .string (numS y), .string (denS y), .string { data := #[] }, .bool false, .int .i64 0, .int .i64 0, .int .i64 0, .slice none 0 0] := hF.get 4 _ rfl (.inr p4)
            subst e4
            have p8 := hpre 8 (by kernel_rfl)
            have e8 : s8 = .agg #[.int .i64 1, .string (numS x), .string (denS x), .string { data := #[] }, .bool false, .int .i64 0, .int .i64 0, .int .i64 0, .slice none 0 0] := hF.get 8 _ rfl (.inr p8)
            subst e8
            refine step_of ⟨some 26, _, _, _, _, _⟩ rfl (fun K' hK => ?_)
            go_simp
            go_at_call 16
            (with_reducible refine (Qc1.out _ (HE.out.below (below_none hF.low))).mono ?_)
            rintro e Wq ⟨rfl, hq⟩
            refine hK.out _ _ ⟨_, hF.pure hok hla hpre rfl hq, ?fr⟩
            case fr => simp only [putO, layL]
          · replace hge : 10 ≤ i := hgt
            clear hgt
            rcases Nat.lt_or_ge i 11 with hlt | hgt
            · replace hi := hlt
              clear hlt
              obtain rfl := eqi hi hge
              refine step_of ⟨some 5, _, _, _, _, _⟩ rfl (fun K' hK => ?_)
              go_simp
              refine hK.out _ _ ⟨_, hF.box hok hla hpre hun rfl, ?fr⟩
              case fr => simp only [putO, layL]
            · replace hge : 11 ≤ i := hgt
              clear hgt
              obtain rfl := eqi hi hge
              have p10 := hpre 10 (by kernel_rfl)
              obtain ⟨G, eG, _, hGl, hGB⟩ : ∃ G, s10 = .pointer (some ⟨G, 0, none⟩) ∧ (∀ k, none = some k → G = k) ∧ WS3.heap.size ≤ G ∧ Wr.heap[G]? = some (.cells (if listed.getD 11 false = true then #[.int .i64 1, .string (numS z), .string (denS z), .string { data := #[] }, .bool false, .int .i64 0, .int .i64 0, .int .i64 0, .slice none 0 0] else #[.int .i64 0, .string { data := #[] }, .string { data := #[] }, .string { data := #[] }, .bool false, .int .i64 0, .int .i64 0, .int .i64 0, .slice none 0 0]) 27 (0, 0)) := hF.get 10 _ rfl (.inr p10)
              subst eG
              rw [if_neg (bit_off hun)] at hGB
              have HGB := Lib.hid hGB
              clear hGB
              have p9 := hpre 9 (by kernel_rfl)
              have e9 : s9 = .agg #[.int .i64 1, .string (numS z), .string (denS z), .string { data := #[] }, .bool false, .int .i64 0, .int .i64 0, .int .i64 0, .slice none 0 0] := hF.get 9 _ rfl (.inr p9)
              subst e9
              obtain ⟨⟨y0, y1, y2, y3, y4, y5, y6, y7, y8⟩, g0, g1, g2, g3, g4, g5, g6, g7, g8⟩ := nine_at HGB.out
              refine step_of ⟨none, _, _, _, _, _⟩ rfl (fun K' hK => ?_)
              go_simp
              refine hK.out _ _ ⟨undef, hF.put hok hna hpre hun rfl undef rfl (.inr p10) rfl (set9_at HGB.out (.int .i64 1) (.string (numS z)) (.string (denS z)) (.string { data := #[] }) (.bool false) (.int .i64 0) (.int .i64 0) (.int .i64 0) (.slice none 0 0)) (fun k hk => set9_other _ _ (.int .i64 1) (.string (numS z)) (.string (denS z)) (.string { data := #[] }) (.bool false) (.int .i64 0) (.int .i64 0) (.int .i64 0) (.slice none 0 0) hk) (put9_below hGl _ (.int .i64 1) (.string (numS z)) (.string (denS z)) (.string { data := #[] }) (.bool false) (.int .i64 0) (.int .i64 0) (.int .i64 0) (.slice none 0 0)), ?fr⟩
              case fr => simp only [putO, layL]
    case hd =>
      rintro listed vs WB hF hall
      obtain ⟨s0, s1, s2, s3, s4, s5, s6, s7, s8, s9, s10, s11, hvs⟩ := exl_of 12 vs (fun l => vs = l) hF.len rfl
      subst hvs
      obtain ⟨b5, e10, _, gq, k10⟩ : ∃ G, s10 = .pointer (some ⟨G, 0, none⟩) ∧ (∀ k, none = some k → G = k) ∧ _ ≤ G ∧ WB.heap[G]? = some (.cells (if listed.getD 11 false = true then #[.int .i64 1, .string (numS z), .string (denS z), .string { data := #[] }, .bool false, .int .i64 0, .int .i64 0, .int .i64 0, .slice none 0 0] else #[.int .i64 0, .string { data := #[] }, .string { data := #[] }, .string { data := #[] }, .bool false, .int .i64 0, .int .i64 0, .int .i64 0, .slice none 0 0]) 27 (0, 0)) := hF.get 10 _ rfl (.inr (hall 10 (by decide)))
      subst e10
      rw [if_pos (hall 11 (by decide))] at k10
      have H5 := Lib.hid k10
      clear k10
      have ge5 := Lib.hid gq
      clear gq
      have hq := below_none hF.low
      replace H2 := Lib.hid (keep_block H2.out hq)
      replace H4 := Lib.hid (keep_block H4.out hq)
      replace H1 := Lib.hid (keep_block H1.out hq)
      replace HE := Lib.hid (HE.out.below hq)
      replace HG := Lib.hid (HG.out.trans (hq.mono HG.out.size))
      clear hq
      clear hF hall hok hna hla
      simp only [putO, layL]
      have L5_2 : Hid (W.heap.size < b5) := Lib.hid (by have := lt_2.out; have := ge5.out; omega)
      have L5_4 : Hid (W0.heap.size < b5) := Lib.hid (by have := lt_4.out; have := ge5.out; omega)
      have L5_1 : Hid (Bv < b5) := Lib.hid (by have := lt_1.out; have := ge5.out; omega)
      have G5 : Hid (W.heap.size ≤ b5) := Lib.hid (by have := geW.out; have := ge5.out; omega)
      clear geW lt_2 lt_4 lt_1
      have lt_2 := Lib.hid (heap_lt H2.out)
      have lt_4 := Lib.hid (heap_lt H4.out)
      have lt_1 := Lib.hid (heap_lt H1.out)
      have lt_5 := Lib.hid (heap_lt H5.out)
      have geW := Lib.hid HG.out.size
      go_wp2_with fail
      have hok : okB 8 (step_walkKs4 f x y z o g M C Bv s W W0) = true := by kernel_rfl
      have hna := noAny_of (ks := (step_walkKs4 f x y z o g M C Bv s W W0)) (by kernel_rfl)
      have hla := lasts_of hna
      refine wp_region_facts (row := none) (w := WB) 8 (step_walkKs4 f x y z o g M C Bv s W W0) [some 28, some 29, some 30, some 27, some 31, some 32, some 6, some 7] (by kernel_rfl) (by kernel_rfl) rfl [undef, undef, undef, undef, undef, undef, undef, undef] ?h00 (Fs.start rfl rfl) ?hs ?hd
      case h00 => simp only [putO, layL]
      case hs =>
        rintro listed vs Wr hF i hi hun hpre
        obtain ⟨s0, s1, s2, s3, s4, s5, s6, s7, hvs⟩ := exl_of 8 vs (fun l => vs = l) hF.len rfl
        subst hvs
        have hge := Nat.zero_le i
        simp only [putO, layL]
        rcases Nat.lt_or_ge i 4 with hlt | hgt
        · replace hi := hlt
          clear hlt
          rcases Nat.lt_or_ge i 2 with hlt | hgt
          · replace hi := hlt
            clear hlt
            rcases Nat.lt_or_ge i 1 with hlt | hgt
            · replace hi := hlt
              clear hlt
              obtain rfl := eqi hi hge
              have hcc := (nine_at (keep_block H5.out (below_none hF.low))).1
              have cH50 := hcc.1
              have cH51 := hcc.2.1
              have cH52 := hcc.2.2.1
              have cH53 := hcc.2.2.2.1
              have cH54 := hcc.2.2.2.2.1
              have cH55 := hcc.2.2.2.2.2.1
              have cH56 := hcc.2.2.2.2.2.2.1
              have cH57 := hcc.2.2.2.2.2.2.2.1
              have cH58 := hcc.2.2.2.2.2.2.2.2
              clear hcc
              refine step_of ⟨some 28, _, _, _, _, _⟩ rfl (fun K' hK => ?_)
              go_simp
              refine hK.out _ _ ⟨_, hF.pure hok hla hpre rfl (Below.refl _ _), ?fr⟩
              case fr => simp only [putO, layL]
            · replace hge : 1 ≤ i := hgt
              clear hgt
              obtain rfl := eqi hi hge
              refine step_of ⟨some 29, _, _, _, _, _⟩ rfl (fun K' hK => ?_)
              go_simp
              go_at_call 10
              (with_reducible refine (Qc2.out _ (HE.out.below (below_none hF.low))).mono ?_)
              rintro e Wq ⟨rfl, hq⟩
              refine hK.out _ _ ⟨_, hF.pure hok hla hpre rfl hq, ?fr⟩
              case fr => simp only [putO, layL]
          · replace hge : 2 ≤ i := hgt
            clear hgt
            rcases Nat.lt_or_ge i 3 with hlt | hgt
            · replace hi := hlt
              clear hlt
              obtain rfl := eqi hi hge
              have p0 := hpre 0 (by kernel_rfl)
              have e0 : s0 = .agg #[.int .i64 1, .string (numS z), .string (denS z), .string { data := #[] }, .bool false, .int .i64 0, .int .i64 0, .int .i64 0, .slice none 0 0] := hF.get 0 _ rfl (.inr p0)
              subst e0
              have p1 := hpre 1 (by kernel_rfl)
              have e1 : s1 = .agg #[.int .i64 1, .string (numS o), .string (denS o), .string { data := #[] }, .bool false, .int .i64 0, .int .i64 0, .int .i64 0, .slice none 0 0] := hF.get 1 _ rfl (.inr p1)
              subst e1
              refine step_of ⟨some 30, _, _, _, _, _⟩ rfl (fun K' hK => ?_)
              go_simp
              go_at_call 14
              (with_reducible refine (Qc3.out _ (HE.out.below (below_none hF.low))).mono ?_)
              rintro e Wq ⟨rfl, hq⟩
              refine hK.out _ _ ⟨_, hF.pure hok hla hpre rfl hq, ?fr⟩
              case fr => simp only [putO, layL]
            · replace hge : 3 ≤ i := hgt
              clear hgt
              obtain rfl := eqi hi hge
              have p2 := hpre 2 (by kernel_rfl)
              have e2 : s2 = .tuple #[.int .i64 s, .int .i64 0] := hF.get 2 _ rfl (.inr p2)
              subst e2
              refine step_of ⟨some 27, _, _, _, _, _⟩ rfl (fun K' hK => ?_)
              go_simp
              refine hK.out _ _ ⟨_, hF.pure hok hla hpre rfl (Below.refl _ _), ?fr⟩
              case fr => simp only [putO, layL]
        · replace hge : 4 ≤ i := hgt
          clear hgt
          rcases Nat.lt_or_ge i 6 with hlt | hgt
          · replace hi := hlt
            clear hlt
            rcases Nat.lt_or_ge i 5 with hlt | hgt
            · replace hi := hlt
              clear hlt
              obtain rfl := eqi hi hge
              have p3 := hpre 3 (by kernel_rfl)
              have e3 : s3 = .tuple #[.int .i64 s, .int .i64 0] := hF.get 3 _ rfl (.inr p3)
              subst e3
              refine step_of ⟨some 31, _, _, _, _, _⟩ rfl (fun K' hK => ?_)
              go_simp
              refine hK.out _ _ ⟨_, hF.pure hok hla hpre rfl (Below.refl _ _), ?fr⟩
              case fr => simp only [putO, layL]
            · replace hge : 5 ≤ i := hgt
              clear hgt
              obtain rfl := eqi hi hge
              have p3 := hpre 3 (by kernel_rfl)
              have e3 : s3 = .tuple #[.int .i64 s, .int .i64 0] := hF.get 3 _ rfl (.inr p3)
              subst e3
              refine step_of ⟨some 32, _, _, _, _, _⟩ rfl (fun K' hK => ?_)
              go_simp
              refine hK.out _ _ ⟨_, hF.pure hok hla hpre rfl (Below.refl _ _), ?fr⟩
              case fr => simp only [putO, layL]
          · replace hge : 6 ≤ i := hgt
            clear hgt
            rcases Nat.lt_or_ge i 7 with hlt | hgt
            · replace hi := hlt
              clear hlt
              obtain rfl := eqi hi hge
              have p4 := hpre 4 (by kernel_rfl)
              have e4 : s4 = .int .i64 s := hF.get 4 _ rfl (.inr p4)
              subst e4
              refine step_of ⟨some 6, _, _, _, _, _⟩ rfl (fun K' hK => ?_)
              go_simp
              refine hK.out _ _ ⟨_, hF.pure hok hla hpre rfl (Below.refl _ _), ?fr⟩
              case fr => simp only [putO, layL]
            · replace hge : 7 ≤ i := hgt
              clear hgt
              obtain rfl := eqi hi hge
              have p5 := hpre 5 (by kernel_rfl)
              have e5 : s5 = .int .i64 0 := hF.get 5 _ rfl (.inr p5)
              subst e5
              refine step_of ⟨some 7, _, _, _, _, _⟩ rfl (fun K' hK => ?_)
              go_simp
              refine hK.out _ _ ⟨_, hF.pure hok hla hpre rfl (Below.refl _ _), ?fr⟩
              case fr => simp only [putO, layL]
      case hd =>
        rintro listed vs WC hF hall
        obtain ⟨s0, s1, s2, s3, s4, s5, s6, s7, hvs⟩ := exl_of 8 vs (fun l => vs = l) hF.len rfl
        subst hvs
        have e6 : s6 = .int .i64 s := hF.get 6 _ rfl (.inr (hall 6 (by decide)))
        subst e6
        have hq := below_none hF.low
        replace H2 := Lib.hid (keep_block H2.out hq)
        replace H4 := Lib.hid (keep_block H4.out hq)
        replace H1 := Lib.hid (keep_block H1.out hq)
        replace H5 := Lib.hid (keep_block H5.out hq)
        replace HE := Lib.hid (HE.out.below hq)
        replace HG := Lib.hid (HG.out.trans (hq.mono HG.out.size))
        clear hq
        clear hF hall hok hna hla
        simp only [putO, layL]
        clear geW lt_2 lt_4 lt_1 lt_5
        go_wp2
        go_ret
        exact ⟨rfl, HG.out⟩

end Go.Proofs.YtcbolipiaflfbaaGreatDoor.Num.Fy

/- The law FmoneyReturns' own flow. No conditions. -/
namespace Go.Proofs.YtcbolipiaflfbaaGreatDoor.Num.Fy
open Go.RowKit Go.Lib Num

/-- what comes back: at most eight numbers below 500 -/
def flowL (zs : List Int) : List Int := (zs.take 8).map fun z => z % 500
theorem flowL_len (zs : List Int) : (flowL zs).length = (zs.take 8).length := by simp [flowL]
theorem flow_step (v : Int) (zs : List Int) (k : Nat) (h : k < zs.length) (h8 : k < 8) : (v :: flowL zs).take (1 + k + 1) = (v :: flowL zs).take (1 + k) ++ [zs[k] % 500] := by
  have hk : 1 + k < (v :: flowL zs).length := by rw [List.length_cons, flowL_len, List.length_take]; omega
  rw [List.take_succ_eq_append_getElem hk]
  have e : 1 + k = k + 1 := by omega
  simp only [e, List.getElem_cons_succ, flowL, List.getElem_map, List.getElem_take]
theorem flow_flat (v : Int) (zs : List Int) (k : Nat) (h : k < zs.length) (h8 : k < 8) (q : Rat) (hq : ((zs[k] % 500 : Int) : Rat) = q) : flat (numVals (rats ((v :: flowL zs).take (1 + k + 1)))) = flat (numVals (rats ((v :: flowL zs).take (1 + k)))) ++ [.int .i64 1, .string (numS q), .string (denS q), .string { data := #[] }, .bool false, .int .i64 0, .int .i64 0, .int .i64 0, .slice none 0 0] := by
  rw [flow_step v zs k h h8, show rats ((v :: flowL zs).take (1 + k) ++ [zs[k] % 500]) = rats ((v :: flowL zs).take (1 + k)) ++ [q] by simp [rats, ← hq]]
  exact flat_snoc _ _
theorem flow_ok {v : Int} (zs : List Int) (h0 : -1000 ≤ v) (h1 : v ≤ -1) : Flow v (flowL zs) := by
  refine ⟨h0, h1, fun x hx => ?_, by rw [flowL_len, List.length_take]; omega⟩
  obtain ⟨z, _, rfl⟩ := List.mem_map.1 hx
  omega
end Go.Proofs.YtcbolipiaflfbaaGreatDoor.Num.Fy
