/- Numbers as texts of digits, fractions, values and the functions of fmath: contracts of the program's functions, joined from smaller texts. Conditions stand at each theorem. -/
import Derived.Test.YtemdjmaakajhjaaGreatDoorNumH
import Derived.Below
import Derived.OneCell
import Derived.Lib.MinMax
import Derived.Deep.RegionLaw

/- A value that holds an array whose row of items grows: the value's block, the row. No conditions. -/
namespace Go.Proofs.YtemdjmaakajhjaaGreatDoor.Num
open Go.RowKit Go.Lib

/-- append to a row of the call's own, as one step of a region that draws -/
theorem step_append_rowx {P : Program} {ops : Array Oper} {o : Oper} {a : Act} {w : World} {K : Act → World → Prop} {Q : Exit → Act → World → Prop} {E : Prop} (hgd : o.guard = none) (s x : Operand) (t : TypeId)
    (ho : o.op = .call { callee := .builtin .append, args := #[s, x], argTypes := #[t, t] })
    (base : Nat) (e : TypeId) (i : TypeInfo) (z : Value) (size bytes : Nat) (ht : P.underlying t = some (.slice e)) (hi : P.info? e = some i) (hz : i.zero = some z)
    (hsize : i.size = size) (hby : i.bytes = bytes) (hzs : z.cells.size = size) (hsz : 0 < size)
    (v : Value) (n : Nat) (xs : List Value) (hs : a.eval s = v) (hown : w.ownsRow base e size v n xs)
    (ad : Addr) (m c : Nat) (news : List Value) (hx : a.eval x = .slice (some ad) m c) (hl : news.length = m * size) (hnews : ∀ j u, news[j]? = some u → w.cell? (ad.add j) = some u) (h1 : ∀ u ∈ news, u.oneCell' = true)
    (h63 : n + m ≤ maxLen) (hbytes : (n + m) * bytes ≤ 140737488355328) (hbase : base ≤ w.heap.size)
    (hK : ∀ v' w', w'.ownsRow base e size v' (n + m) (xs ++ news) → w.grownBy w' v.ownBlock → K (a.put o.dst v') w') :
    if Region.wanted o (yielded ops a.tmps) = true then Oper.wp P o a w K Q else E := by
  have hw : Region.wanted o (yielded ops a.tmps) = true := by simp [Region.wanted, hgd]
  rw [if_pos hw]
  exact wp_append_own w s x t ho base e i z size bytes ht hi hz hsize hby hzs hsz v n xs hs hown ad m c news hx hl hnews h1 h63 hbytes hbase fun v' w' h2 h3 _ => hK v' w' h2 h3

/-- nine stores behind one another -/
def put9 (W : World) (g o : Nat) (x0 x1 x2 x3 x4 x5 x6 x7 x8 : Value) : World :=
  ((((((((W.setCell ⟨g, o, none⟩ x0).setCell ⟨g, o + 1, none⟩ x1).setCell ⟨g, o + 2, none⟩ x2).setCell ⟨g, o + 3, none⟩ x3).setCell ⟨g, o + 4, none⟩ x4).setCell ⟨g, o + 5, none⟩ x5).setCell ⟨g, o + 6, none⟩ x6).setCell ⟨g, o + 7, none⟩ x7).setCell ⟨g, o + 8, none⟩ x8
theorem set_behind {xs l : List Value} {m : Nat} (h : xs.length = m) (t : Nat) (u : Value) : (xs ++ l).set (m + t) u = xs ++ l.set t u := by
  rw [List.set_append_right _ _ (by omega), show m + t - xs.length = t by omega]
theorem stored9 {w : World} {base : Nat} {e : TypeId} {g n cap : Nat} {xs ys : List Value} (h : w.ownsRow base e 9 (.slice (some ⟨g, 0, none⟩) n cap) n (xs ++ ys)) {o : Nat} (hx : xs.length = o) (hy : ys.length = 9) (x0 x1 x2 x3 x4 x5 x6 x7 x8 : Value) :
    (put9 w g o x0 x1 x2 x3 x4 x5 x6 x7 x8).ownsRow base e 9 (.slice (some ⟨g, 0, none⟩) n cap) n (xs ++ [x0, x1, x2, x3, x4, x5, x6, x7, x8]) ∧ w.grownBy (put9 w g o x0 x1 x2 x3 x4 x5 x6 x7 x8) (some g) := by
  obtain ⟨a0, b0⟩ := h.stored o x0
  obtain ⟨a1, b1⟩ := a0.stored (o + 1) x1
  obtain ⟨a2, b2⟩ := a1.stored (o + 2) x2
  obtain ⟨a3, b3⟩ := a2.stored (o + 3) x3
  obtain ⟨a4, b4⟩ := a3.stored (o + 4) x4
  obtain ⟨a5, b5⟩ := a4.stored (o + 5) x5
  obtain ⟨a6, b6⟩ := a5.stored (o + 6) x6
  obtain ⟨a7, b7⟩ := a6.stored (o + 7) x7
  obtain ⟨a8, b8⟩ := a7.stored (o + 8) x8
  refine ⟨?_, only_trans b0 (only_trans b1 (only_trans b2 (only_trans b3 (only_trans b4 (only_trans b5 (only_trans b6 (only_trans b7 b8)))))))⟩
  have e0 : (xs ++ ys).set o x0 = xs ++ ys.set 0 x0 := by have := set_behind (l := ys) hx 0 x0; rwa [Nat.add_zero] at this
  rw [e0, set_behind hx, set_behind hx, set_behind hx, set_behind hx, set_behind hx, set_behind hx, set_behind hx, set_behind hx] at a8
  match ys, hy with
  | [_, _, _, _, _, _, _, _, _], _ => exact a8

/-- the value's block B (r rows, c columns, items bv), the row v of n items -/
structure RowX (w : World) (B : Nat) (r c : Int) (bv v : Value) (n : Nat) (xs : List Value) (W : World) : Prop where
  box : W.heap[B]? = some (.cells #[.int .i64 5, .string { data := #[] }, .string { data := #[] }, .string { data := #[] }, .bool false, .int .i64 0, .int .i64 r, .int .i64 c, bv] 27 (0, 0))
  low : Below w.heap.size w W
  ge : w.heap.size ≤ B
  own : W.ownsRow w.heap.size 27 9 v n xs
  one : v = .slice none 0 0 ∨ xs[0]? = some (.int .i64 1)
theorem RowX.len {w W : World} {B n : Nat} {r c : Int} {bv v : Value} {xs : List Value} (h : RowX w B r c bv v n xs W) : xs.length = n * 9 := h.own.1
theorem RowX.ge_own {w W : World} {B n : Nat} {r c : Int} {bv v : Value} {xs : List Value} (h : RowX w B r c bv v n xs W) : ∀ b, v.ownBlock = some b → w.heap.size ≤ b := by
  intro b hb
  rcases h.own.2 with ⟨rfl, _⟩ | ⟨g, cap, cur, rfl, hg, _⟩
  · simp [Value.ownBlock] at hb
  · simp [Value.ownBlock] at hb; omega
theorem RowX.ne {w W : World} {B n : Nat} {r c : Int} {bv v : Value} {xs : List Value} (h : RowX w B r c bv v n xs W) : v.ownBlock ≠ some B := by
  rcases h.own.2 with ⟨rfl, _⟩ | ⟨g, cap, cur, rfl, hg, hc, _, _, _, htk⟩
  · simp [Value.ownBlock]
  · rcases h.one with e | e
    · cases e
    · intro eb
      have eb : g = B := by simpa [Value.ownBlock] using eb
      subst eb
      rw [← htk] at e
      have hb := h.box
      rw [hc] at hb
      injection hb with hb
      injection hb with hb
      subst hb
      have hn : 0 < n * 9 := by
        rcases Nat.eq_zero_or_pos (n * 9) with h0 | h0
        · rw [h0] at e; simp at e
        · exact h0
      rw [List.getElem?_take_of_lt hn] at e
      simp at e
theorem RowX.step {w W W' : World} {B n : Nat} {r c : Int} {bv v : Value} {xs : List Value} (h : RowX w B r c bv v n xs W) (hb : Below W.heap.size W W') : RowX w B r c bv v n xs W' :=
  ⟨keep_block h.box hb, h.low.trans (hb.mono h.low.size), h.ge, h.own.kept (only_of_below hb none) (by cases v.ownBlock <;> simp), h.one⟩
theorem RowX.push {w W W' : World} {B n m : Nat} {r c : Int} {bv v v' : Value} {xs ys : List Value} (h : RowX w B r c bv v n xs W) (ho : W'.ownsRow w.heap.size 27 9 v' m ys) (h1 : ys[0]? = some (.int .i64 1)) (hg : W.grownBy W' v.ownBlock) : RowX w B r c bv v' m ys W' :=
  ⟨(hg.block B (heap_lt h.box) (fun e => h.ne e.symm)).trans h.box, h.low.grown hg h.low.size h.ge_own, h.ge, ho, .inr h1⟩
/-- the last item stored anew -/
theorem RowX.put {w W : World} {B n g cap : Nat} {r c : Int} {bv : Value} {xs ys : List Value} (h : RowX w B r c bv (.slice (some ⟨g, 0, none⟩) n cap) n (xs ++ ys) W) {o : Nat} (hx : xs.length = o) (hy : ys.length = 9) (h0 : 0 < o) (x0 x1 x2 x3 x4 x5 x6 x7 x8 : Value) :
    RowX w B r c bv (.slice (some ⟨g, 0, none⟩) n cap) n (xs ++ [x0, x1, x2, x3, x4, x5, x6, x7, x8]) (put9 W g o x0 x1 x2 x3 x4 x5 x6 x7 x8) := by
  obtain ⟨a, b⟩ := stored9 h.own hx hy x0 x1 x2 x3 x4 x5 x6 x7 x8
  refine h.push a ?_ b
  rcases h.one with e | e
  · cases e
  · rw [List.getElem?_append_left (by omega)] at e ⊢
    exact e
theorem RowX.store {w W : World} {B n : Nat} {r c : Int} {bv v : Value} {xs : List Value} (h : RowX w B r c bv v n xs W) : RowX w B r c v v n xs (W.setCell ⟨B, 8, none⟩ v) := by
  refine ⟨?_, h.low.setCell (p := ⟨B, 8, none⟩) h.ge _, h.ge, ownsRow_setCell_other h.own (a := ⟨B, 8, none⟩) h.ne v, h.one⟩
  have := heap_setCell_at h.box 8 v
  rw [this]; rfl
theorem RowX.cols {w W : World} {B n : Nat} {r c c' : Int} {bv v : Value} {xs : List Value} (h : RowX w B r c bv v n xs W) : RowX w B r c' bv v n xs (W.setCell ⟨B, 7, none⟩ (.int .i64 c')) := by
  refine ⟨?_, h.low.setCell (p := ⟨B, 7, none⟩) h.ge _, h.ge, ownsRow_setCell_other h.own (a := ⟨B, 7, none⟩) h.ne _, h.one⟩
  have := heap_setCell_at h.box 7 (.int .i64 c')
  rw [this]; rfl
/-- a cell of the row -/
theorem RowX.cell {w W : World} {B n g cap : Nat} {r c : Int} {bv : Value} {xs : List Value} (h : RowX w B r c bv (.slice (some ⟨g, 0, none⟩) n cap) n xs W) (j : Nat) (hj : j < n * 9) : W.cell? ⟨g, j, none⟩ = xs[j]? ∧ W.frozen? ⟨g, j, none⟩ = false :=
  ⟨h.own.cellAt j hj, h.own.frozenAt j⟩
/-- the cells of the last item -/
theorem RowX.last {w W : World} {B n g cap : Nat} {r c : Int} {bv : Value} {xs : List Value} {y0 y1 y2 y3 y4 y5 y6 y7 y8 : Value} (h : RowX w B r c bv (.slice (some ⟨g, 0, none⟩) (n + 1) cap) (n + 1) (xs ++ [y0, y1, y2, y3, y4, y5, y6, y7, y8]) W) (hx : xs.length = n * 9) :
    (W.cell? ⟨g, n * 9, none⟩ = some y0 ∧ W.cell? ⟨g, n * 9 + 1, none⟩ = some y1 ∧ W.cell? ⟨g, n * 9 + 2, none⟩ = some y2 ∧ W.cell? ⟨g, n * 9 + 3, none⟩ = some y3 ∧ W.cell? ⟨g, n * 9 + 4, none⟩ = some y4 ∧ W.cell? ⟨g, n * 9 + 5, none⟩ = some y5 ∧ W.cell? ⟨g, n * 9 + 6, none⟩ = some y6 ∧ W.cell? ⟨g, n * 9 + 7, none⟩ = some y7 ∧ W.cell? ⟨g, n * 9 + 8, none⟩ = some y8) ∧
    W.frozen? ⟨g, n * 9, none⟩ = false ∧ W.frozen? ⟨g, n * 9 + 1, none⟩ = false ∧ W.frozen? ⟨g, n * 9 + 2, none⟩ = false ∧ W.frozen? ⟨g, n * 9 + 3, none⟩ = false ∧ W.frozen? ⟨g, n * 9 + 4, none⟩ = false ∧ W.frozen? ⟨g, n * 9 + 5, none⟩ = false ∧ W.frozen? ⟨g, n * 9 + 6, none⟩ = false ∧ W.frozen? ⟨g, n * 9 + 7, none⟩ = false ∧ W.frozen? ⟨g, n * 9 + 8, none⟩ = false := by
  have at' : ∀ t, t < 9 → W.cell? ⟨g, n * 9 + t, none⟩ = ([y0, y1, y2, y3, y4, y5, y6, y7, y8] : List Value)[t]? := by
    intro t ht
    rw [(h.cell (n * 9 + t) (by omega)).1, List.getElem?_append_right (by omega), show n * 9 + t - xs.length = t by omega]
  have fr : ∀ t, t < 9 → W.frozen? ⟨g, n * 9 + t, none⟩ = false := fun t ht => (h.cell (n * 9 + t) (by omega)).2
  exact ⟨⟨at' 0 (by decide), at' 1 (by decide), at' 2 (by decide), at' 3 (by decide), at' 4 (by decide), at' 5 (by decide), at' 6 (by decide), at' 7 (by decide), at' 8 (by decide)⟩, fr 0 (by decide), fr 1 (by decide), fr 2 (by decide), fr 3 (by decide), fr 4 (by decide), fr 5 (by decide), fr 6 (by decide), fr 7 (by decide), fr 8 (by decide)⟩
/-- the items as numbers -/
theorem RowX.vals {w W : World} {B n : Nat} {r c : Int} {bv v : Value} {qs : List Rat} (h : RowX w B r c bv v n (flat (numVals qs)) W) (hn : qs.length = n) (h0 : 0 < n) : ∃ g cap, v = .slice (some ⟨g, 0, none⟩) n cap ∧ w.heap.size ≤ g ∧ n ≤ cap ∧ ValsAt W g 0 (numVals qs) :=
  vals_of_owns h.own (by rw [numVals_len, hn]) h0
theorem flat_snoc (qs : List Rat) (q : Rat) : flat (numVals (qs ++ [q])) = flat (numVals qs) ++ [.int .i64 1, .string (numS q), .string (denS q), .string { data := #[] }, .bool false, .int .i64 0, .int .i64 0, .int .i64 0, .slice none 0 0] := by simp [numVals, flat, numVal', Val.cells]
theorem flat_first {qs : List Rat} (h : 0 < qs.length) : (flat (numVals qs))[0]? = some (.int .i64 1) := by
  cases qs with
  | nil => cases h
  | cons q r => rfl
/-- the row of one number, its value -/
theorem RowX.start {w w1 : World} {q : Rat} (hb : Below w.heap.size w w1) :
    RowX w (w1.heap.size + 1) 1 1 (.slice (some ⟨w1.heap.size, 0, none⟩) 1 1) (.slice (some ⟨w1.heap.size, 0, none⟩) 1 1) 1 (flat (numVals [q])) ((w1.alloc (.cells #[.int .i64 1, .string (numS q), .string (denS q), .string { data := #[] }, .bool false, .int .i64 0, .int .i64 0, .int .i64 0, .slice none 0 0] 27)).alloc (.cells #[.int .i64 5, .string { data := #[] }, .string { data := #[] }, .string { data := #[] }, .bool false, .int .i64 0, .int .i64 1, .int .i64 1, .slice (some ⟨w1.heap.size, 0, none⟩) 1 1] 27)) := by
  have hl : Below w1.heap.size w1 ((w1.alloc (.cells #[.int .i64 1, .string (numS q), .string (denS q), .string { data := #[] }, .bool false, .int .i64 0, .int .i64 0, .int .i64 0, .slice none 0 0] 27)).alloc (.cells #[.int .i64 5, .string { data := #[] }, .string { data := #[] }, .string { data := #[] }, .bool false, .int .i64 0, .int .i64 1, .int .i64 1, .slice (some ⟨w1.heap.size, 0, none⟩) 1 1] 27)) := ((Below.refl _ _).alloc (Nat.le_refl _) _).alloc (by simp) _
  have h1 := heap_alloc_new (w1.alloc (.cells #[.int .i64 1, .string (numS q), .string (denS q), .string { data := #[] }, .bool false, .int .i64 0, .int .i64 0, .int .i64 0, .slice none 0 0] 27)) (.cells #[.int .i64 5, .string { data := #[] }, .string { data := #[] }, .string { data := #[] }, .bool false, .int .i64 0, .int .i64 1, .int .i64 1, .slice (some ⟨w1.heap.size, 0, none⟩) 1 1] 27)
  rw [World.size_alloc] at h1
  have h2 := new_keep (heap_alloc_new w1 (.cells #[.int .i64 1, .string (numS q), .string (denS q), .string { data := #[] }, .bool false, .int .i64 0, .int .i64 0, .int .i64 0, .slice none 0 0] 27)) (o' := .cells #[.int .i64 5, .string { data := #[] }, .string { data := #[] }, .string { data := #[] }, .bool false, .int .i64 0, .int .i64 1, .int .i64 1, .slice (some ⟨w1.heap.size, 0, none⟩) 1 1] 27)
  exact ⟨h1, hb.trans (hl.mono hb.size), Nat.le_succ_of_le hb.size, ⟨rfl, .inr ⟨_, 1, _, rfl, hb.size, h2, Nat.le_refl _, by decide, rfl, rfl⟩⟩, .inr rfl⟩
end Go.Proofs.YtemdjmaakajhjaaGreatDoor.Num
