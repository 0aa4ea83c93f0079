/- Numbers as texts of digits, fractions, values and the functions of fmath: contracts of the program's functions, joined from smaller texts. Conditions stand at each theorem. -/
import Derived.Test.YtkbhlkinlcmgoaaGreatDoorNumH
import Derived.Below
import Derived.OneCell
import Derived.Lib.MinMax
import Derived.Deep.RegionLaw

/- A value that holds an array whose row of items grows: the value's block, the row. No conditions. -/
namespace Go.Proofs.YtkbhlkinlcmgoaaGreatDoor.Num
open Go.RowKit Go.Lib

/-- append to a row of the call's own, as one step of a region that draws -/
theorem step_append_rowx {P : Program} {ops : Array Oper} {o : Oper} {a : Act} {w : World} {K : Act → World → Prop} {Q : Exit → Act → World → Prop} {E : Prop} (hgd : o.guard = none) (s x : Operand) (t : TypeId)
    (ho : o.op = .call { callee := .builtin .append, args := #[s, x], argTypes := #[t, t] })
    (base : Nat) (e : TypeId) (i : TypeInfo) (z : Value) (size bytes : Nat) (ht : P.underlying t = some (.slice e)) (hi : P.info? e = some i) (hz : i.zero = some z)
    (hsize : i.size = size) (hby : i.bytes = bytes) (hzs : z.cells.size = size) (hsz : 0 < size)
    (v : Value) (n : Nat) (xs : List Value) (hs : a.eval s = v) (hown : w.ownsRow base e size v n xs)
    (ad : Addr) (m c : Nat) (news : List Value) (hx : a.eval x = .slice (some ad) m c) (hl : news.length = m * size) (hnews : ∀ j u, news[j]? = some u → w.cell? (ad.add j) = some u) (h1 : ∀ u ∈ news, u.oneCell' = true)
    (h63 : n + m ≤ maxLen) (hbytes : (n + m) * bytes ≤ 140737488355328) (hbase : base ≤ w.heap.size)
    (hK : ∀ v' w', w'.ownsRow base e size v' (n + m) (xs ++ news) → w.grownBy w' v.ownBlock → K (a.put o.dst v') w') :
    if Region.wanted o (yielded ops a.tmps) = true then Oper.wp P o a w K Q else E := by
  have hw : Region.wanted o (yielded ops a.tmps) = true := by simp [Region.wanted, hgd]
  rw [if_pos hw]
  exact wp_append_own w s x t ho base e i z size bytes ht hi hz hsize hby hzs hsz v n xs hs hown ad m c news hx hl hnews h1 h63 hbytes hbase fun v' w' h2 h3 _ => hK v' w' h2 h3

/-- nine stores behind one another -/
def put9 (W : World) (g o : Nat) (x0 x1 x2 x3 x4 x5 x6 x7 x8 : Value) : World :=
  ((((((((W.setCell ⟨g, o, none⟩ x0).setCell ⟨g, o + 1, none⟩ x1).setCell ⟨g, o + 2, none⟩ x2).setCell ⟨g, o + 3, none⟩ x3).setCell ⟨g, o + 4, none⟩ x4).setCell ⟨g, o + 5, none⟩ x5).setCell ⟨g, o + 6, none⟩ x6).setCell ⟨g, o + 7, none⟩ x7).setCell ⟨g, o + 8, none⟩ x8
/-- the value's block B (r rows, c columns, items bv), the row v of n items -/
structure RowX (w : World) (B : Nat) (r c : Int) (bv v : Value) (n : Nat) (xs : List Value) (W : World) : Prop where
  box : W.heap[B]? = some (.cells #[.int .i64 5, .string { data := #[] }, .string { data := #[] }, .string { data := #[] }, .bool false, .int .i64 0, .int .i64 r, .int .i64 c, bv] 30 (0, 0))
  low : Below w.heap.size w W
  ge : w.heap.size ≤ B
  own : W.ownsRow w.heap.size 30 9 v n xs
  one : v = .slice none 0 0 ∨ xs[0]? = some (.int .i64 1)
theorem flat_snoc (qs : List Rat) (q : Rat) : flat (numVals (qs ++ [q])) = flat (numVals qs) ++ [.int .i64 1, .string (numS q), .string (denS q), .string { data := #[] }, .bool false, .int .i64 0, .int .i64 0, .int .i64 0, .slice none 0 0] := by simp [numVals, flat, numVal', Val.cells]
end Go.Proofs.YtkbhlkinlcmgoaaGreatDoor.Num
