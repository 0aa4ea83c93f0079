/- Numbers as texts of digits, fractions, values and the functions of fmath: contracts of the program's functions, joined from smaller texts. Conditions stand at each theorem. -/
import Derived.Test.YtphfefmlappidaaGreatDoorFysB
import Derived.Test.YtphfefmlappidaaGreatDoorNumH

/- The law FmoneyBalances' own walk. Conditions: the tables lie as they are laid. -/
namespace Go.Proofs.YtphfefmlappidaaGreatDoor.Num.Fy
open Go.RowKit Go.Lib Num

set_option linter.unusedVariables false in
/-- what the operations of region 6 yield -/
def BalKs6 (R N P Q E X On Ze I J S : Rat) : List RK :=
  [.pure (.agg #[.int .i64 1, .string (numS R), .string (denS R), .string { data := #[] }, .bool false, .int .i64 0, .int .i64 0, .int .i64 0, .slice none 0 0]),
   .pure (.agg #[.int .i64 1, .string (numS On), .string (denS On), .string { data := #[] }, .bool false, .int .i64 0, .int .i64 0, .int .i64 0, .slice none 0 0]),
   .pure (.agg #[.int .i64 1, .string (numS N), .string (denS N), .string { data := #[] }, .bool false, .int .i64 0, .int .i64 0, .int .i64 0, .slice none 0 0]),
   .pure (.agg #[.int .i64 1, .string (numS P), .string (denS P), .string { data := #[] }, .bool false, .int .i64 0, .int .i64 0, .int .i64 0, .slice none 0 0]),
   .pure (.agg #[.int .i64 1, .string (numS Q), .string (denS Q), .string { data := #[] }, .bool false, .int .i64 0, .int .i64 0, .int .i64 0, .slice none 0 0]),
   .pure (.agg #[.int .i64 1, .string (numS E), .string (denS E), .string { data := #[] }, .bool false, .int .i64 0, .int .i64 0, .int .i64 0, .slice none 0 0]),
   .row #[.int .i64 1, .string (numS R), .string (denS R), .string { data := #[] }, .bool false, .int .i64 0, .int .i64 0, .int .i64 0, .slice none 0 0, .int .i64 1, .string (numS On), .string (denS On), .string { data := #[] }, .bool false, .int .i64 0, .int .i64 0, .int .i64 0, .slice none 0 0, .int .i64 1, .string (numS N), .string (denS N), .string { data := #[] }, .bool false, .int .i64 0, .int .i64 0, .int .i64 0, .slice none 0 0, .int .i64 1, .string (numS P), .string (denS P), .string { data := #[] }, .bool false, .int .i64 0, .int .i64 0, .int .i64 0, .slice none 0 0, .int .i64 1, .string (numS Q), .string (denS Q), .string { data := #[] }, .bool false, .int .i64 0, .int .i64 0, .int .i64 0, .slice none 0 0, .int .i64 1, .string (numS E), .string (denS E), .string { data := #[] }, .bool false, .int .i64 0, .int .i64 0, .int .i64 0, .slice none 0 0] 30 6,
   .pure (.agg #[.int .i64 1, .string (numS I), .string (denS I), .string { data := #[] }, .bool false, .int .i64 0, .int .i64 0, .int .i64 0, .slice none 0 0]),
   .pure (.agg #[.int .i64 1, .string (numS R), .string (denS R), .string { data := #[] }, .bool false, .int .i64 0, .int .i64 0, .int .i64 0, .slice none 0 0]),
   .pure (.agg #[.int .i64 1, .string (numS On), .string (denS On), .string { data := #[] }, .bool false, .int .i64 0, .int .i64 0, .int .i64 0, .slice none 0 0]),
   .pure (.agg #[.int .i64 1, .string (numS N), .string (denS N), .string { data := #[] }, .bool false, .int .i64 0, .int .i64 0, .int .i64 0, .slice none 0 0]),
   .pure (.agg #[.int .i64 1, .string (numS P), .string (denS P), .string { data := #[] }, .bool false, .int .i64 0, .int .i64 0, .int .i64 0, .slice none 0 0]),
   .pure (.agg #[.int .i64 1, .string (numS Q), .string (denS Q), .string { data := #[] }, .bool false, .int .i64 0, .int .i64 0, .int .i64 0, .slice none 0 0]),
   .pure (.agg #[.int .i64 1, .string (numS E), .string (denS E), .string { data := #[] }, .bool false, .int .i64 0, .int .i64 0, .int .i64 0, .slice none 0 0]),
   .row #[.int .i64 1, .string (numS R), .string (denS R), .string { data := #[] }, .bool false, .int .i64 0, .int .i64 0, .int .i64 0, .slice none 0 0, .int .i64 1, .string (numS On), .string (denS On), .string { data := #[] }, .bool false, .int .i64 0, .int .i64 0, .int .i64 0, .slice none 0 0, .int .i64 1, .string (numS N), .string (denS N), .string { data := #[] }, .bool false, .int .i64 0, .int .i64 0, .int .i64 0, .slice none 0 0, .int .i64 1, .string (numS P), .string (denS P), .string { data := #[] }, .bool false, .int .i64 0, .int .i64 0, .int .i64 0, .slice none 0 0, .int .i64 1, .string (numS Q), .string (denS Q), .string { data := #[] }, .bool false, .int .i64 0, .int .i64 0, .int .i64 0, .slice none 0 0, .int .i64 1, .string (numS E), .string (denS E), .string { data := #[] }, .bool false, .int .i64 0, .int .i64 0, .int .i64 0, .slice none 0 0] 30 6,
   .pure (.agg #[.int .i64 1, .string (numS J), .string (denS J), .string { data := #[] }, .bool false, .int .i64 0, .int .i64 0, .int .i64 0, .slice none 0 0]),
   .box none #[.int .i64 0, .string { data := #[] }, .string { data := #[] }, .string { data := #[] }, .bool false, .int .i64 0, .int .i64 0, .int .i64 0, .slice none 0 0] #[.int .i64 1, .string (numS I), .string (denS I), .string { data := #[] }, .bool false, .int .i64 0, .int .i64 0, .int .i64 0, .slice none 0 0] 30 18,
   .box none #[.int .i64 0, .string { data := #[] }, .string { data := #[] }, .string { data := #[] }, .bool false, .int .i64 0, .int .i64 0, .int .i64 0, .slice none 0 0] #[.int .i64 1, .string (numS J), .string (denS J), .string { data := #[] }, .bool false, .int .i64 0, .int .i64 0, .int .i64 0, .slice none 0 0] 30 19,
   .put 16,
   .put 17]
set_option linter.unusedVariables false in
/-- what the operations of region 8 yield -/
def BalKs8 (R N P Q E X On Ze I J S : Rat) : List RK :=
  [.pure (.agg #[.int .i64 1, .string (numS R), .string (denS R), .string { data := #[] }, .bool false, .int .i64 0, .int .i64 0, .int .i64 0, .slice none 0 0]),
   .pure (.agg #[.int .i64 1, .string (numS N), .string (denS N), .string { data := #[] }, .bool false, .int .i64 0, .int .i64 0, .int .i64 0, .slice none 0 0]),
   .pure (.agg #[.int .i64 1, .string (numS P), .string (denS P), .string { data := #[] }, .bool false, .int .i64 0, .int .i64 0, .int .i64 0, .slice none 0 0]),
   .pure (.agg #[.int .i64 1, .string (numS On), .string (denS On), .string { data := #[] }, .bool false, .int .i64 0, .int .i64 0, .int .i64 0, .slice none 0 0]),
   .pure (.agg #[.int .i64 1, .string (numS N), .string (denS N), .string { data := #[] }, .bool false, .int .i64 0, .int .i64 0, .int .i64 0, .slice none 0 0]),
   .pure (.agg #[.int .i64 1, .string (numS Ze), .string (denS Ze), .string { data := #[] }, .bool false, .int .i64 0, .int .i64 0, .int .i64 0, .slice none 0 0]),
   .row #[.int .i64 1, .string (numS R), .string (denS R), .string { data := #[] }, .bool false, .int .i64 0, .int .i64 0, .int .i64 0, .slice none 0 0, .int .i64 1, .string (numS N), .string (denS N), .string { data := #[] }, .bool false, .int .i64 0, .int .i64 0, .int .i64 0, .slice none 0 0, .int .i64 1, .string (numS P), .string (denS P), .string { data := #[] }, .bool false, .int .i64 0, .int .i64 0, .int .i64 0, .slice none 0 0, .int .i64 1, .string (numS On), .string (denS On), .string { data := #[] }, .bool false, .int .i64 0, .int .i64 0, .int .i64 0, .slice none 0 0, .int .i64 1, .string (numS N), .string (denS N), .string { data := #[] }, .bool false, .int .i64 0, .int .i64 0, .int .i64 0, .slice none 0 0, .int .i64 1, .string (numS Ze), .string (denS Ze), .string { data := #[] }, .bool false, .int .i64 0, .int .i64 0, .int .i64 0, .slice none 0 0] 30 6,
   .pure (.agg #[.int .i64 1, .string (numS S), .string (denS S), .string { data := #[] }, .bool false, .int .i64 0, .int .i64 0, .int .i64 0, .slice none 0 0]),
   .box none #[.int .i64 0, .string { data := #[] }, .string { data := #[] }, .string { data := #[] }, .bool false, .int .i64 0, .int .i64 0, .int .i64 0, .slice none 0 0] #[.int .i64 1, .string (numS S), .string (denS S), .string { data := #[] }, .bool false, .int .i64 0, .int .i64 0, .int .i64 0, .slice none 0 0] 30 9,
   .put 8]
set_option linter.unusedVariables false in
/-- what the operations of region 9 yield -/
def BalKs9 (R N P Q E X On Ze I J S : Rat) : List RK :=
  [.pure (.agg #[.int .i64 1, .string (numS R), .string (denS R), .string { data := #[] }, .bool false, .int .i64 0, .int .i64 0, .int .i64 0, .slice none 0 0]),
   .pure (.agg #[.int .i64 1, .string (numS N), .string (denS N), .string { data := #[] }, .bool false, .int .i64 0, .int .i64 0, .int .i64 0, .slice none 0 0]),
   .pure (.agg #[.int .i64 1, .string (numS X), .string (denS X), .string { data := #[] }, .bool false, .int .i64 0, .int .i64 0, .int .i64 0, .slice none 0 0]),
   .pure (.agg #[.int .i64 1, .string (numS P), .string (denS P), .string { data := #[] }, .bool false, .int .i64 0, .int .i64 0, .int .i64 0, .slice none 0 0]),
   .pure (.agg #[.int .i64 1, .string (numS E), .string (denS E), .string { data := #[] }, .bool false, .int .i64 0, .int .i64 0, .int .i64 0, .slice none 0 0]),
   .row #[.int .i64 1, .string (numS R), .string (denS R), .string { data := #[] }, .bool false, .int .i64 0, .int .i64 0, .int .i64 0, .slice none 0 0, .int .i64 1, .string (numS N), .string (denS N), .string { data := #[] }, .bool false, .int .i64 0, .int .i64 0, .int .i64 0, .slice none 0 0, .int .i64 1, .string (numS X), .string (denS X), .string { data := #[] }, .bool false, .int .i64 0, .int .i64 0, .int .i64 0, .slice none 0 0, .int .i64 1, .string (numS P), .string (denS P), .string { data := #[] }, .bool false, .int .i64 0, .int .i64 0, .int .i64 0, .slice none 0 0, .int .i64 1, .string (numS E), .string (denS E), .string { data := #[] }, .bool false, .int .i64 0, .int .i64 0, .int .i64 0, .slice none 0 0] 30 5,
   .pure (.agg #[.int .i64 1, .string (numS Q), .string (denS Q), .string { data := #[] }, .bool false, .int .i64 0, .int .i64 0, .int .i64 0, .slice none 0 0]),
   .pure (.agg #[.int .i64 1, .string (numS Q), .string (denS Q), .string { data := #[] }, .bool false, .int .i64 0, .int .i64 0, .int .i64 0, .slice none 0 0]),
   .pure (.bool true),
   .pure (.bool true),
   .pure (.agg #[.int .i64 1, .string (numS R), .string (denS R), .string { data := #[] }, .bool false, .int .i64 0, .int .i64 0, .int .i64 0, .slice none 0 0]),
   .pure (.agg #[.int .i64 1, .string (numS N), .string (denS N), .string { data := #[] }, .bool false, .int .i64 0, .int .i64 0, .int .i64 0, .slice none 0 0]),
   .pure (.agg #[.int .i64 1, .string (numS X), .string (denS X), .string { data := #[] }, .bool false, .int .i64 0, .int .i64 0, .int .i64 0, .slice none 0 0]),
   .pure (.agg #[.int .i64 1, .string (numS Q), .string (denS Q), .string { data := #[] }, .bool false, .int .i64 0, .int .i64 0, .int .i64 0, .slice none 0 0]),
   .pure (.agg #[.int .i64 1, .string (numS E), .string (denS E), .string { data := #[] }, .bool false, .int .i64 0, .int .i64 0, .int .i64 0, .slice none 0 0]),
   .row #[.int .i64 1, .string (numS R), .string (denS R), .string { data := #[] }, .bool false, .int .i64 0, .int .i64 0, .int .i64 0, .slice none 0 0, .int .i64 1, .string (numS N), .string (denS N), .string { data := #[] }, .bool false, .int .i64 0, .int .i64 0, .int .i64 0, .slice none 0 0, .int .i64 1, .string (numS X), .string (denS X), .string { data := #[] }, .bool false, .int .i64 0, .int .i64 0, .int .i64 0, .slice none 0 0, .int .i64 1, .string (numS Q), .string (denS Q), .string { data := #[] }, .bool false, .int .i64 0, .int .i64 0, .int .i64 0, .slice none 0 0, .int .i64 1, .string (numS E), .string (denS E), .string { data := #[] }, .bool false, .int .i64 0, .int .i64 0, .int .i64 0, .slice none 0 0] 30 5,
   .pure (.agg #[.int .i64 1, .string (numS P), .string (denS P), .string { data := #[] }, .bool false, .int .i64 0, .int .i64 0, .int .i64 0, .slice none 0 0]),
   .pure (.agg #[.int .i64 1, .string (numS P), .string (denS P), .string { data := #[] }, .bool false, .int .i64 0, .int .i64 0, .int .i64 0, .slice none 0 0]),
   .pure (.bool true),
   .pure (.bool true),
   .pure (.bool true),
   .pure (.agg #[.int .i64 1, .string (numS I), .string (denS I), .string { data := #[] }, .bool false, .int .i64 0, .int .i64 0, .int .i64 0, .slice none 0 0]),
   .pure (.agg #[.int .i64 1, .string (numS J), .string (denS J), .string { data := #[] }, .bool false, .int .i64 0, .int .i64 0, .int .i64 0, .slice none 0 0]),
   .pure (.agg #[.int .i64 1, .string (numS X), .string (denS X), .string { data := #[] }, .bool false, .int .i64 0, .int .i64 0, .int .i64 0, .slice none 0 0]),
   .pure (.agg #[.int .i64 1, .string (numS X), .string (denS X), .string { data := #[] }, .bool false, .int .i64 0, .int .i64 0, .int .i64 0, .slice none 0 0]),
   .pure (.bool true),
   .pure (.bool true),
   .pure (.bool true),
   .pure (.agg #[.int .i64 1, .string (numS S), .string (denS S), .string { data := #[] }, .bool false, .int .i64 0, .int .i64 0, .int .i64 0, .slice none 0 0]),
   .pure (.agg #[.int .i64 1, .string (numS P), .string (denS P), .string { data := #[] }, .bool false, .int .i64 0, .int .i64 0, .int .i64 0, .slice none 0 0]),
   .pure (.agg #[.int .i64 1, .string (numS Ze), .string (denS Ze), .string { data := #[] }, .bool false, .int .i64 0, .int .i64 0, .int .i64 0, .slice none 0 0]),
   .pure (.agg #[.int .i64 1, .string (numS Ze), .string (denS Ze), .string { data := #[] }, .bool false, .int .i64 0, .int .i64 0, .int .i64 0, .slice none 0 0]),
   .pure (.bool true),
   .pure (.bool true),
   .pure (.bool true)]
attribute [local irreducible] wpOp
set_option linter.unusedSimpArgs false in
set_option linter.unusedVariables false in
set_option maxHeartbeats 16000000 in
set_option maxRecDepth 100000 in
theorem bal_walk (r n v u e m t z : Int) (R N P Q E X On Ze I J S : Rat) (w : World) (hE : EnvY w) (hr0 : -9223372036854775808 ≤ r) (hr1 : r ≤ 9223372036854775807) (hn0 : -9223372036854775808 ≤ n) (hn1 : n ≤ 9223372036854775807) (he0 : -9223372036854775808 ≤ e) (he1 : e ≤ 9223372036854775807) (hm : r % 40 = m) (ht : n % 24 = t) (hz : e % 2 = z)
    (r0 : RowV { data := #[80, 77, 84] } (numVals [R, N, P, Q, E]) (numVal X))
    (r1 : RowV { data := #[73, 80, 77, 84] } (numVals [R, On, N, P, Q, E]) (numVal I))
    (r2 : RowV { data := #[80, 80, 77, 84] } (numVals [R, On, N, P, Q, E]) (numVal J))
    (r3 : RowV { data := #[67, 85, 77, 80, 82, 73, 78, 67] } (numVals [R, N, P, On, N, Ze]) (numVal S))
    (r4 : RowV { data := #[70, 86] } (numVals [R, N, X, P, E]) (numVal Q))
    (r5 : RowV { data := #[80, 86] } (numVals [R, N, X, Q, E]) (numVal P))
    (t0 : Fun1 11 (.int .i64 (1 + t)) (.agg #[.int .i64 1, .string (numS N), .string (denS N), .string { data := #[] }, .bool false, .int .i64 0, .int .i64 0, .int .i64 0, .slice none 0 0]))
    (t1 : Fun1 11 (.int .i64 z) (.agg #[.int .i64 1, .string (numS E), .string (denS E), .string { data := #[] }, .bool false, .int .i64 0, .int .i64 0, .int .i64 0, .slice none 0 0]))
    (t2 : Fun1 11 (.int .i64 1) (.agg #[.int .i64 1, .string (numS On), .string (denS On), .string { data := #[] }, .bool false, .int .i64 0, .int .i64 0, .int .i64 0, .slice none 0 0]))
    (t3 : Fun1 11 (.int .i64 0) (.agg #[.int .i64 1, .string (numS Ze), .string (denS Ze), .string { data := #[] }, .bool false, .int .i64 0, .int .i64 0, .int .i64 0, .slice none 0 0]))
    (tP : Fun1 12 (.int .i64 v) (.agg #[.int .i64 1, .string (numS P), .string (denS P), .string { data := #[] }, .bool false, .int .i64 0, .int .i64 0, .int .i64 0, .slice none 0 0]))
    (tQ : Fun1 12 (.int .i64 u) (.agg #[.int .i64 1, .string (numS Q), .string (denS Q), .string { data := #[] }, .bool false, .int .i64 0, .int .i64 0, .int .i64 0, .slice none 0 0]))
    (tR : Fun2 8 (.int .i64 (m - 9)) (.int .i64 100) (.tuple #[.agg #[.string (numS R), .string (denS R)], .int .i64 0]))
    (tN : Fun1 10 (.agg #[.string (numS R), .string (denS R)]) (.agg #[.int .i64 1, .string (numS R), .string (denS R), .string { data := #[] }, .bool false, .int .i64 0, .int .i64 0, .int .i64 0, .slice none 0 0]))
    (tX : Fun2 15 (.agg #[.int .i64 1, .string (numS I), .string (denS I), .string { data := #[] }, .bool false, .int .i64 0, .int .i64 0, .int .i64 0, .slice none 0 0]) (.agg #[.int .i64 1, .string (numS J), .string (denS J), .string { data := #[] }, .bool false, .int .i64 0, .int .i64 0, .int .i64 0, .slice none 0 0]) (.agg #[.int .i64 1, .string (numS X), .string (denS X), .string { data := #[] }, .bool false, .int .i64 0, .int .i64 0, .int .i64 0, .slice none 0 0]))
    (tS : Fun2 15 (.agg #[.int .i64 1, .string (numS S), .string (denS S), .string { data := #[] }, .bool false, .int .i64 0, .int .i64 0, .int .i64 0, .slice none 0 0]) (.agg #[.int .i64 1, .string (numS P), .string (denS P), .string { data := #[] }, .bool false, .int .i64 0, .int .i64 0, .int .i64 0, .slice none 0 0]) (.agg #[.int .i64 1, .string (numS Ze), .string (denS Ze), .string { data := #[] }, .bool false, .int .i64 0, .int .i64 0, .int .i64 0, .slice none 0 0])) :
    Calls Tryz.prog 3 #[.int .i64 r, .int .i64 n, .int .i64 v, .int .i64 u, .int .i64 e] w fun e w' => e = .returned (.bool true) ∧ Below w.heap.size w w' := by
  have TMr := Lib.hid (fun W => kmod_any r 40 hr0 hr1 (by decide) (by decide) W)
  rw [hm] at TMr
  have TMn := Lib.hid (fun W => kmod_any n 24 hn0 hn1 (by decide) (by decide) W)
  rw [ht] at TMn
  have TMe := Lib.hid (fun W => kmod_any e 2 he0 he1 (by decide) (by decide) W)
  rw [hz] at TMe
  have hm0 : 0 ≤ m ∧ m ≤ 39 := by omega
  have ht0 : 0 ≤ t ∧ t ≤ 23 := by omega
  have hw0 : IntKind.i64.wrap (m - 9) = m - 9 := IntWalk.i64_in _ (by omega)
  have hw1 : IntKind.i64.wrap (1 + t) = 1 + t := IntWalk.i64_in _ (by omega)
  have Qr0 : Hid (∀ (W : World) (G : Nat), W.heap[G]? = some (.cells #[.int .i64 1, .string (numS R), .string (denS R), .string { data := #[] }, .bool false, .int .i64 0, .int .i64 0, .int .i64 0, .slice none 0 0, .int .i64 1, .string (numS N), .string (denS N), .string { data := #[] }, .bool false, .int .i64 0, .int .i64 0, .int .i64 0, .slice none 0 0, .int .i64 1, .string (numS P), .string (denS P), .string { data := #[] }, .bool false, .int .i64 0, .int .i64 0, .int .i64 0, .slice none 0 0, .int .i64 1, .string (numS Q), .string (denS Q), .string { data := #[] }, .bool false, .int .i64 0, .int .i64 0, .int .i64 0, .slice none 0 0, .int .i64 1, .string (numS E), .string (denS E), .string { data := #[] }, .bool false, .int .i64 0, .int .i64 0, .int .i64 0, .slice none 0 0] 30 (0, 0)) → EnvY W → Calls Tryz.prog 13 #[.string { data := #[80, 77, 84] }, .slice (some ⟨G, 0, none⟩) 5 5] W fun e w' => e = .returned (.agg #[.int .i64 1, .string (numS X), .string (denS X), .string { data := #[] }, .bool false, .int .i64 0, .int .i64 0, .int .i64 0, .slice none 0 0]) ∧ Below W.heap.size W w') := Lib.hid (fun W G h g => r0.row W G h g)
  have Qr1 : Hid (∀ (W : World) (G : Nat), W.heap[G]? = some (.cells #[.int .i64 1, .string (numS R), .string (denS R), .string { data := #[] }, .bool false, .int .i64 0, .int .i64 0, .int .i64 0, .slice none 0 0, .int .i64 1, .string (numS On), .string (denS On), .string { data := #[] }, .bool false, .int .i64 0, .int .i64 0, .int .i64 0, .slice none 0 0, .int .i64 1, .string (numS N), .string (denS N), .string { data := #[] }, .bool false, .int .i64 0, .int .i64 0, .int .i64 0, .slice none 0 0, .int .i64 1, .string (numS P), .string (denS P), .string { data := #[] }, .bool false, .int .i64 0, .int .i64 0, .int .i64 0, .slice none 0 0, .int .i64 1, .string (numS Q), .string (denS Q), .string { data := #[] }, .bool false, .int .i64 0, .int .i64 0, .int .i64 0, .slice none 0 0, .int .i64 1, .string (numS E), .string (denS E), .string { data := #[] }, .bool false, .int .i64 0, .int .i64 0, .int .i64 0, .slice none 0 0] 30 (0, 0)) → EnvY W → Calls Tryz.prog 13 #[.string { data := #[73, 80, 77, 84] }, .slice (some ⟨G, 0, none⟩) 6 6] W fun e w' => e = .returned (.agg #[.int .i64 1, .string (numS I), .string (denS I), .string { data := #[] }, .bool false, .int .i64 0, .int .i64 0, .int .i64 0, .slice none 0 0]) ∧ Below W.heap.size W w') := Lib.hid (fun W G h g => r1.row W G h g)
  have Qr2 : Hid (∀ (W : World) (G : Nat), W.heap[G]? = some (.cells #[.int .i64 1, .string (numS R), .string (denS R), .string { data := #[] }, .bool false, .int .i64 0, .int .i64 0, .int .i64 0, .slice none 0 0, .int .i64 1, .string (numS On), .string (denS On), .string { data := #[] }, .bool false, .int .i64 0, .int .i64 0, .int .i64 0, .slice none 0 0, .int .i64 1, .string (numS N), .string (denS N), .string { data := #[] }, .bool false, .int .i64 0, .int .i64 0, .int .i64 0, .slice none 0 0, .int .i64 1, .string (numS P), .string (denS P), .string { data := #[] }, .bool false, .int .i64 0, .int .i64 0, .int .i64 0, .slice none 0 0, .int .i64 1, .string (numS Q), .string (denS Q), .string { data := #[] }, .bool false, .int .i64 0, .int .i64 0, .int .i64 0, .slice none 0 0, .int .i64 1, .string (numS E), .string (denS E), .string { data := #[] }, .bool false, .int .i64 0, .int .i64 0, .int .i64 0, .slice none 0 0] 30 (0, 0)) → EnvY W → Calls Tryz.prog 13 #[.string { data := #[80, 80, 77, 84] }, .slice (some ⟨G, 0, none⟩) 6 6] W fun e w' => e = .returned (.agg #[.int .i64 1, .string (numS J), .string (denS J), .string { data := #[] }, .bool false, .int .i64 0, .int .i64 0, .int .i64 0, .slice none 0 0]) ∧ Below W.heap.size W w') := Lib.hid (fun W G h g => r2.row W G h g)
  have Qr3 : Hid (∀ (W : World) (G : Nat), W.heap[G]? = some (.cells #[.int .i64 1, .string (numS R), .string (denS R), .string { data := #[] }, .bool false, .int .i64 0, .int .i64 0, .int .i64 0, .slice none 0 0, .int .i64 1, .string (numS N), .string (denS N), .string { data := #[] }, .bool false, .int .i64 0, .int .i64 0, .int .i64 0, .slice none 0 0, .int .i64 1, .string (numS P), .string (denS P), .string { data := #[] }, .bool false, .int .i64 0, .int .i64 0, .int .i64 0, .slice none 0 0, .int .i64 1, .string (numS On), .string (denS On), .string { data := #[] }, .bool false, .int .i64 0, .int .i64 0, .int .i64 0, .slice none 0 0, .int .i64 1, .string (numS N), .string (denS N), .string { data := #[] }, .bool false, .int .i64 0, .int .i64 0, .int .i64 0, .slice none 0 0, .int .i64 1, .string (numS Ze), .string (denS Ze), .string { data := #[] }, .bool false, .int .i64 0, .int .i64 0, .int .i64 0, .slice none 0 0] 30 (0, 0)) → EnvY W → Calls Tryz.prog 13 #[.string { data := #[67, 85, 77, 80, 82, 73, 78, 67] }, .slice (some ⟨G, 0, none⟩) 6 6] W fun e w' => e = .returned (.agg #[.int .i64 1, .string (numS S), .string (denS S), .string { data := #[] }, .bool false, .int .i64 0, .int .i64 0, .int .i64 0, .slice none 0 0]) ∧ Below W.heap.size W w') := Lib.hid (fun W G h g => r3.row W G h g)
  have Qr4 : Hid (∀ (W : World) (G : Nat), W.heap[G]? = some (.cells #[.int .i64 1, .string (numS R), .string (denS R), .string { data := #[] }, .bool false, .int .i64 0, .int .i64 0, .int .i64 0, .slice none 0 0, .int .i64 1, .string (numS N), .string (denS N), .string { data := #[] }, .bool false, .int .i64 0, .int .i64 0, .int .i64 0, .slice none 0 0, .int .i64 1, .string (numS X), .string (denS X), .string { data := #[] }, .bool false, .int .i64 0, .int .i64 0, .int .i64 0, .slice none 0 0, .int .i64 1, .string (numS P), .string (denS P), .string { data := #[] }, .bool false, .int .i64 0, .int .i64 0, .int .i64 0, .slice none 0 0, .int .i64 1, .string (numS E), .string (denS E), .string { data := #[] }, .bool false, .int .i64 0, .int .i64 0, .int .i64 0, .slice none 0 0] 30 (0, 0)) → EnvY W → Calls Tryz.prog 13 #[.string { data := #[70, 86] }, .slice (some ⟨G, 0, none⟩) 5 5] W fun e w' => e = .returned (.agg #[.int .i64 1, .string (numS Q), .string (denS Q), .string { data := #[] }, .bool false, .int .i64 0, .int .i64 0, .int .i64 0, .slice none 0 0]) ∧ Below W.heap.size W w') := Lib.hid (fun W G h g => r4.row W G h g)
  have Qr5 : Hid (∀ (W : World) (G : Nat), W.heap[G]? = some (.cells #[.int .i64 1, .string (numS R), .string (denS R), .string { data := #[] }, .bool false, .int .i64 0, .int .i64 0, .int .i64 0, .slice none 0 0, .int .i64 1, .string (numS N), .string (denS N), .string { data := #[] }, .bool false, .int .i64 0, .int .i64 0, .int .i64 0, .slice none 0 0, .int .i64 1, .string (numS X), .string (denS X), .string { data := #[] }, .bool false, .int .i64 0, .int .i64 0, .int .i64 0, .slice none 0 0, .int .i64 1, .string (numS Q), .string (denS Q), .string { data := #[] }, .bool false, .int .i64 0, .int .i64 0, .int .i64 0, .slice none 0 0, .int .i64 1, .string (numS E), .string (denS E), .string { data := #[] }, .bool false, .int .i64 0, .int .i64 0, .int .i64 0, .slice none 0 0] 30 (0, 0)) → EnvY W → Calls Tryz.prog 13 #[.string { data := #[80, 86] }, .slice (some ⟨G, 0, none⟩) 5 5] W fun e w' => e = .returned (.agg #[.int .i64 1, .string (numS P), .string (denS P), .string { data := #[] }, .bool false, .int .i64 0, .int .i64 0, .int .i64 0, .slice none 0 0]) ∧ Below W.heap.size W w') := Lib.hid (fun W G h g => r5.row W G h g)
  have Qt0 := Lib.hid t0
  have Qt1 := Lib.hid t1
  have Qt2 := Lib.hid t2
  have Qt3 := Lib.hid t3
  have QtP := Lib.hid tP
  have QtQ := Lib.hid tQ
  have QtR := Lib.hid tR
  have QtN := Lib.hid tN
  have QtX := Lib.hid tX
  have QtS := Lib.hid tS
  have QL : Hid (MoneyRow { data := #[80, 77, 84] } #[.int .i64 1, .string (numS R), .string (denS R), .string { data := #[] }, .bool false, .int .i64 0, .int .i64 0, .int .i64 0, .slice none 0 0, .int .i64 1, .string (numS N), .string (denS N), .string { data := #[] }, .bool false, .int .i64 0, .int .i64 0, .int .i64 0, .slice none 0 0, .int .i64 1, .string (numS P), .string (denS P), .string { data := #[] }, .bool false, .int .i64 0, .int .i64 0, .int .i64 0, .slice none 0 0, .int .i64 1, .string (numS Q), .string (denS Q), .string { data := #[] }, .bool false, .int .i64 0, .int .i64 0, .int .i64 0, .slice none 0 0, .int .i64 1, .string (numS E), .string (denS E), .string { data := #[] }, .bool false, .int .i64 0, .int .i64 0, .int .i64 0, .slice none 0 0] 5 (.agg #[.int .i64 1, .string (numS X), .string (denS X), .string { data := #[] }, .bool false, .int .i64 0, .int .i64 0, .int .i64 0, .slice none 0 0])) := Lib.hid Qr0.out
  have RS := Lib.hid same_one
  have HE := Lib.hid hE
  have HL := Lib.hid (Below.refl w.heap.size w)
  unfold Fun1 at Qt0 Qt1 Qt2 Qt3 QtP QtQ QtN
  unfold Fun2 at QtR QtX QtS
  clear hE hm ht hz hr0 hr1 hn0 hn1 he0 he1 r0 r1 r2 r3 r4 r5 t0 t1 t2 t3 tP tQ tR tN tX tS
  go_enter Tryz.func3, Tryz.ntmps3
  go_wp2_with fail
  refine (TMr.out _).mono ?_
  rintro e w1 ⟨rfl, rfl⟩
  go_wp2_with fail
  (with_reducible refine (QtR.out _ HE.out).mono ?_)
  rintro e w2 ⟨rfl, hq⟩
  replace HE := Lib.hid (HE.out.below hq)
  replace HL := Lib.hid (HL.out.trans (hq.mono HL.out.size))
  clear hq
  have hq : Below w2.heap.size w2 (w2.alloc (.cells #[.string (numS R), .string (denS R)] 23)) := ((Below.refl _ _).alloc (Nat.le_refl _) _)
  replace HE := Lib.hid (HE.out.below hq)
  replace HL := Lib.hid (HL.out.trans (hq.mono HL.out.size))
  have H11 : Hid ((w2.alloc (.cells #[.string (numS R), .string (denS R)] 23)).heap[w2.heap.size]? = some (.cells #[.string (numS R), .string (denS R)] 23 (0, 0))) := Lib.hid (by
    have h := heap_alloc_new w2 (.cells #[.string (numS R), .string (denS R)] 23)
    exact h)
  clear hq
  obtain ⟨WL1, hWL1⟩ : ∃ Z, (w2.alloc (.cells #[.string (numS R), .string (denS R)] 23)) = Z := ⟨_, rfl⟩
  rw [hWL1] at HE HL H11
  have EWL1 := Lib.hid hWL1
  clear hWL1
  have SWL1 : Hid (w2.heap.size + 1 = WL1.heap.size) := Lib.hid (by rw [← EWL1.out]; simp only [World.size_alloc])
  have hld := H11.out
  rw [← EWL1.out] at hld
  obtain ⟨⟨lH110, lH111⟩, _⟩ := two_at hld
  clear hld
  go_wp2_with fail
  rw [EWL1.out]
  (with_reducible refine (QtN.out _ HE.out).mono ?_)
  rintro e w3 ⟨rfl, hq⟩
  replace HE := Lib.hid (HE.out.below hq)
  replace HL := Lib.hid (HL.out.trans (hq.mono HL.out.size))
  replace H11 := Lib.hid (keep_block H11.out hq)
  clear hq
  clear lH110 lH111
  go_wp2_with fail
  refine (TMn.out _).mono ?_
  rintro e w4 ⟨rfl, rfl⟩
  go_wp2_with fail
  (with_reducible refine (Qt0.out _ HE.out).mono ?_)
  rintro e w5 ⟨rfl, hq⟩
  replace HE := Lib.hid (HE.out.below hq)
  replace HL := Lib.hid (HL.out.trans (hq.mono HL.out.size))
  replace H11 := Lib.hid (keep_block H11.out hq)
  clear hq
  go_wp2_with fail
  (with_reducible refine (QtP.out _ HE.out).mono ?_)
  rintro e w6 ⟨rfl, hq⟩
  replace HE := Lib.hid (HE.out.below hq)
  replace HL := Lib.hid (HL.out.trans (hq.mono HL.out.size))
  replace H11 := Lib.hid (keep_block H11.out hq)
  clear hq
  go_wp2_with fail
  (with_reducible refine (QtQ.out _ HE.out).mono ?_)
  rintro e w7 ⟨rfl, hq⟩
  replace HE := Lib.hid (HE.out.below hq)
  replace HL := Lib.hid (HL.out.trans (hq.mono HL.out.size))
  replace H11 := Lib.hid (keep_block H11.out hq)
  clear hq
  go_wp2_with fail
  refine (TMe.out _).mono ?_
  rintro e w8 ⟨rfl, rfl⟩
  go_wp2_with fail
  (with_reducible refine (Qt1.out _ HE.out).mono ?_)
  rintro e w9 ⟨rfl, hq⟩
  replace HE := Lib.hid (HE.out.below hq)
  replace HL := Lib.hid (HL.out.trans (hq.mono HL.out.size))
  replace H11 := Lib.hid (keep_block H11.out hq)
  clear hq
  have hq : Below w9.heap.size w9 (((((w9.alloc (.cells #[.int .i64 1, .string (numS R), .string (denS R), .string { data := #[] }, .bool false, .int .i64 0, .int .i64 0, .int .i64 0, .slice none 0 0] 30)).alloc (.cells #[.int .i64 1, .string (numS N), .string (denS N), .string { data := #[] }, .bool false, .int .i64 0, .int .i64 0, .int .i64 0, .slice none 0 0] 30)).alloc (.cells #[.int .i64 1, .string (numS P), .string (denS P), .string { data := #[] }, .bool false, .int .i64 0, .int .i64 0, .int .i64 0, .slice none 0 0] 30)).alloc (.cells #[.int .i64 1, .string (numS Q), .string (denS Q), .string { data := #[] }, .bool false, .int .i64 0, .int .i64 0, .int .i64 0, .slice none 0 0] 30)).alloc (.cells #[.int .i64 1, .string (numS E), .string (denS E), .string { data := #[] }, .bool false, .int .i64 0, .int .i64 0, .int .i64 0, .slice none 0 0] 30)) := ((((((Below.refl _ _).alloc (Nat.le_refl _) _).alloc (by simp only [World.size_alloc]; omega) _).alloc (by simp only [World.size_alloc]; omega) _).alloc (by simp only [World.size_alloc]; omega) _).alloc (by simp only [World.size_alloc]; omega) _)
  replace HE := Lib.hid (HE.out.below hq)
  replace HL := Lib.hid (HL.out.trans (hq.mono HL.out.size))
  replace H11 := Lib.hid (keep_block H11.out hq)
  have H13 : Hid ((((((w9.alloc (.cells #[.int .i64 1, .string (numS R), .string (denS R), .string { data := #[] }, .bool false, .int .i64 0, .int .i64 0, .int .i64 0, .slice none 0 0] 30)).alloc (.cells #[.int .i64 1, .string (numS N), .string (denS N), .string { data := #[] }, .bool false, .int .i64 0, .int .i64 0, .int .i64 0, .slice none 0 0] 30)).alloc (.cells #[.int .i64 1, .string (numS P), .string (denS P), .string { data := #[] }, .bool false, .int .i64 0, .int .i64 0, .int .i64 0, .slice none 0 0] 30)).alloc (.cells #[.int .i64 1, .string (numS Q), .string (denS Q), .string { data := #[] }, .bool false, .int .i64 0, .int .i64 0, .int .i64 0, .slice none 0 0] 30)).alloc (.cells #[.int .i64 1, .string (numS E), .string (denS E), .string { data := #[] }, .bool false, .int .i64 0, .int .i64 0, .int .i64 0, .slice none 0 0] 30)).heap[w9.heap.size]? = some (.cells #[.int .i64 1, .string (numS R), .string (denS R), .string { data := #[] }, .bool false, .int .i64 0, .int .i64 0, .int .i64 0, .slice none 0 0] 30 (0, 0))) := Lib.hid (by
    have h := heap_alloc_new w9 (.cells #[.int .i64 1, .string (numS R), .string (denS R), .string { data := #[] }, .bool false, .int .i64 0, .int .i64 0, .int .i64 0, .slice none 0 0] 30)
    exact new_keep (new_keep (new_keep (new_keep (h)))))
  have H14 : Hid ((((((w9.alloc (.cells #[.int .i64 1, .string (numS R), .string (denS R), .string { data := #[] }, .bool false, .int .i64 0, .int .i64 0, .int .i64 0, .slice none 0 0] 30)).alloc (.cells #[.int .i64 1, .string (numS N), .string (denS N), .string { data := #[] }, .bool false, .int .i64 0, .int .i64 0, .int .i64 0, .slice none 0 0] 30)).alloc (.cells #[.int .i64 1, .string (numS P), .string (denS P), .string { data := #[] }, .bool false, .int .i64 0, .int .i64 0, .int .i64 0, .slice none 0 0] 30)).alloc (.cells #[.int .i64 1, .string (numS Q), .string (denS Q), .string { data := #[] }, .bool false, .int .i64 0, .int .i64 0, .int .i64 0, .slice none 0 0] 30)).alloc (.cells #[.int .i64 1, .string (numS E), .string (denS E), .string { data := #[] }, .bool false, .int .i64 0, .int .i64 0, .int .i64 0, .slice none 0 0] 30)).heap[w9.heap.size + 1]? = some (.cells #[.int .i64 1, .string (numS N), .string (denS N), .string { data := #[] }, .bool false, .int .i64 0, .int .i64 0, .int .i64 0, .slice none 0 0] 30 (0, 0))) := Lib.hid (by
    have h := heap_alloc_new (w9.alloc (.cells #[.int .i64 1, .string (numS R), .string (denS R), .string { data := #[] }, .bool false, .int .i64 0, .int .i64 0, .int .i64 0, .slice none 0 0] 30)) (.cells #[.int .i64 1, .string (numS N), .string (denS N), .string { data := #[] }, .bool false, .int .i64 0, .int .i64 0, .int .i64 0, .slice none 0 0] 30)
    simp only [World.size_alloc] at h
    exact new_keep (new_keep (new_keep (h))))
  have H15 : Hid ((((((w9.alloc (.cells #[.int .i64 1, .string (numS R), .string (denS R), .string { data := #[] }, .bool false, .int .i64 0, .int .i64 0, .int .i64 0, .slice none 0 0] 30)).alloc (.cells #[.int .i64 1, .string (numS N), .string (denS N), .string { data := #[] }, .bool false, .int .i64 0, .int .i64 0, .int .i64 0, .slice none 0 0] 30)).alloc (.cells #[.int .i64 1, .string (numS P), .string (denS P), .string { data := #[] }, .bool false, .int .i64 0, .int .i64 0, .int .i64 0, .slice none 0 0] 30)).alloc (.cells #[.int .i64 1, .string (numS Q), .string (denS Q), .string { data := #[] }, .bool false, .int .i64 0, .int .i64 0, .int .i64 0, .slice none 0 0] 30)).alloc (.cells #[.int .i64 1, .string (numS E), .string (denS E), .string { data := #[] }, .bool false, .int .i64 0, .int .i64 0, .int .i64 0, .slice none 0 0] 30)).heap[w9.heap.size + 2]? = some (.cells #[.int .i64 1, .string (numS P), .string (denS P), .string { data := #[] }, .bool false, .int .i64 0, .int .i64 0, .int .i64 0, .slice none 0 0] 30 (0, 0))) := Lib.hid (by
    have h := heap_alloc_new ((w9.alloc (.cells #[.int .i64 1, .string (numS R), .string (denS R), .string { data := #[] }, .bool false, .int .i64 0, .int .i64 0, .int .i64 0, .slice none 0 0] 30)).alloc (.cells #[.int .i64 1, .string (numS N), .string (denS N), .string { data := #[] }, .bool false, .int .i64 0, .int .i64 0, .int .i64 0, .slice none 0 0] 30)) (.cells #[.int .i64 1, .string (numS P), .string (denS P), .string { data := #[] }, .bool false, .int .i64 0, .int .i64 0, .int .i64 0, .slice none 0 0] 30)
    simp only [World.size_alloc] at h
    exact new_keep (new_keep (h)))
  have H16 : Hid ((((((w9.alloc (.cells #[.int .i64 1, .string (numS R), .string (denS R), .string { data := #[] }, .bool false, .int .i64 0, .int .i64 0, .int .i64 0, .slice none 0 0] 30)).alloc (.cells #[.int .i64 1, .string (numS N), .string (denS N), .string { data := #[] }, .bool false, .int .i64 0, .int .i64 0, .int .i64 0, .slice none 0 0] 30)).alloc (.cells #[.int .i64 1, .string (numS P), .string (denS P), .string { data := #[] }, .bool false, .int .i64 0, .int .i64 0, .int .i64 0, .slice none 0 0] 30)).alloc (.cells #[.int .i64 1, .string (numS Q), .string (denS Q), .string { data := #[] }, .bool false, .int .i64 0, .int .i64 0, .int .i64 0, .slice none 0 0] 30)).alloc (.cells #[.int .i64 1, .string (numS E), .string (denS E), .string { data := #[] }, .bool false, .int .i64 0, .int .i64 0, .int .i64 0, .slice none 0 0] 30)).heap[w9.heap.size + 3]? = some (.cells #[.int .i64 1, .string (numS Q), .string (denS Q), .string { data := #[] }, .bool false, .int .i64 0, .int .i64 0, .int .i64 0, .slice none 0 0] 30 (0, 0))) := Lib.hid (by
    have h := heap_alloc_new (((w9.alloc (.cells #[.int .i64 1, .string (numS R), .string (denS R), .string { data := #[] }, .bool false, .int .i64 0, .int .i64 0, .int .i64 0, .slice none 0 0] 30)).alloc (.cells #[.int .i64 1, .string (numS N), .string (denS N), .string { data := #[] }, .bool false, .int .i64 0, .int .i64 0, .int .i64 0, .slice none 0 0] 30)).alloc (.cells #[.int .i64 1, .string (numS P), .string (denS P), .string { data := #[] }, .bool false, .int .i64 0, .int .i64 0, .int .i64 0, .slice none 0 0] 30)) (.cells #[.int .i64 1, .string (numS Q), .string (denS Q), .string { data := #[] }, .bool false, .int .i64 0, .int .i64 0, .int .i64 0, .slice none 0 0] 30)
    simp only [World.size_alloc] at h
    exact new_keep (h))
  have H17 : Hid ((((((w9.alloc (.cells #[.int .i64 1, .string (numS R), .string (denS R), .string { data := #[] }, .bool false, .int .i64 0, .int .i64 0, .int .i64 0, .slice none 0 0] 30)).alloc (.cells #[.int .i64 1, .string (numS N), .string (denS N), .string { data := #[] }, .bool false, .int .i64 0, .int .i64 0, .int .i64 0, .slice none 0 0] 30)).alloc (.cells #[.int .i64 1, .string (numS P), .string (denS P), .string { data := #[] }, .bool false, .int .i64 0, .int .i64 0, .int .i64 0, .slice none 0 0] 30)).alloc (.cells #[.int .i64 1, .string (numS Q), .string (denS Q), .string { data := #[] }, .bool false, .int .i64 0, .int .i64 0, .int .i64 0, .slice none 0 0] 30)).alloc (.cells #[.int .i64 1, .string (numS E), .string (denS E), .string { data := #[] }, .bool false, .int .i64 0, .int .i64 0, .int .i64 0, .slice none 0 0] 30)).heap[w9.heap.size + 4]? = some (.cells #[.int .i64 1, .string (numS E), .string (denS E), .string { data := #[] }, .bool false, .int .i64 0, .int .i64 0, .int .i64 0, .slice none 0 0] 30 (0, 0))) := Lib.hid (by
    have h := heap_alloc_new ((((w9.alloc (.cells #[.int .i64 1, .string (numS R), .string (denS R), .string { data := #[] }, .bool false, .int .i64 0, .int .i64 0, .int .i64 0, .slice none 0 0] 30)).alloc (.cells #[.int .i64 1, .string (numS N), .string (denS N), .string { data := #[] }, .bool false, .int .i64 0, .int .i64 0, .int .i64 0, .slice none 0 0] 30)).alloc (.cells #[.int .i64 1, .string (numS P), .string (denS P), .string { data := #[] }, .bool false, .int .i64 0, .int .i64 0, .int .i64 0, .slice none 0 0] 30)).alloc (.cells #[.int .i64 1, .string (numS Q), .string (denS Q), .string { data := #[] }, .bool false, .int .i64 0, .int .i64 0, .int .i64 0, .slice none 0 0] 30)) (.cells #[.int .i64 1, .string (numS E), .string (denS E), .string { data := #[] }, .bool false, .int .i64 0, .int .i64 0, .int .i64 0, .slice none 0 0] 30)
    simp only [World.size_alloc] at h
    exact h)
  clear hq
  obtain ⟨WL2, hWL2⟩ : ∃ Z, (((((w9.alloc (.cells #[.int .i64 1, .string (numS R), .string (denS R), .string { data := #[] }, .bool false, .int .i64 0, .int .i64 0, .int .i64 0, .slice none 0 0] 30)).alloc (.cells #[.int .i64 1, .string (numS N), .string (denS N), .string { data := #[] }, .bool false, .int .i64 0, .int .i64 0, .int .i64 0, .slice none 0 0] 30)).alloc (.cells #[.int .i64 1, .string (numS P), .string (denS P), .string { data := #[] }, .bool false, .int .i64 0, .int .i64 0, .int .i64 0, .slice none 0 0] 30)).alloc (.cells #[.int .i64 1, .string (numS Q), .string (denS Q), .string { data := #[] }, .bool false, .int .i64 0, .int .i64 0, .int .i64 0, .slice none 0 0] 30)).alloc (.cells #[.int .i64 1, .string (numS E), .string (denS E), .string { data := #[] }, .bool false, .int .i64 0, .int .i64 0, .int .i64 0, .slice none 0 0] 30)) = Z := ⟨_, rfl⟩
  rw [hWL2] at HE HL H11 H13 H14 H15 H16 H17
  have EWL2 := Lib.hid hWL2
  clear hWL2
  have SWL2 : Hid (w9.heap.size + 1 + 1 + 1 + 1 + 1 = WL2.heap.size) := Lib.hid (by rw [← EWL2.out]; simp only [World.size_alloc])
  have hld := H13.out
  rw [← EWL2.out] at hld
  obtain ⟨⟨lH130, lH131, lH132, lH133, lH134, lH135, lH136, lH137, lH138⟩, _⟩ := nine_at hld
  clear hld
  have hld := H14.out
  rw [← EWL2.out] at hld
  obtain ⟨⟨lH140, lH141, lH142, lH143, lH144, lH145, lH146, lH147, lH148⟩, _⟩ := nine_at hld
  clear hld
  have hld := H15.out
  rw [← EWL2.out] at hld
  obtain ⟨⟨lH150, lH151, lH152, lH153, lH154, lH155, lH156, lH157, lH158⟩, _⟩ := nine_at hld
  clear hld
  have hld := H16.out
  rw [← EWL2.out] at hld
  obtain ⟨⟨lH160, lH161, lH162, lH163, lH164, lH165, lH166, lH167, lH168⟩, _⟩ := nine_at hld
  clear hld
  have hld := H17.out
  rw [← EWL2.out] at hld
  obtain ⟨⟨lH170, lH171, lH172, lH173, lH174, lH175, lH176, lH177, lH178⟩, _⟩ := nine_at hld
  clear hld
  go_wp2_with fail
  rw [EWL2.out]
  rw [SWL2.out]
  (with_reducible refine (at_row (QL.out) _ HE.out).mono ?_)
  rintro e w10 ⟨rfl, hq⟩
  replace HE := Lib.hid (HE.out.below hq)
  replace HL := Lib.hid (HL.out.trans (hq.mono HL.out.size))
  replace H11 := Lib.hid (keep_block H11.out hq)
  replace H13 := Lib.hid (keep_block H13.out hq)
  replace H14 := Lib.hid (keep_block H14.out hq)
  replace H15 := Lib.hid (keep_block H15.out hq)
  replace H16 := Lib.hid (keep_block H16.out hq)
  replace H17 := Lib.hid (keep_block H17.out hq)
  clear hq
  clear lH130 lH131 lH132 lH133 lH134 lH135 lH136 lH137 lH138 lH140 lH141 lH142 lH143 lH144 lH145 lH146 lH147 lH148 lH150 lH151 lH152 lH153 lH154 lH155 lH156 lH157 lH158 lH160 lH161 lH162 lH163 lH164 lH165 lH166 lH167 lH168 lH170 lH171 lH172 lH173 lH174 lH175 lH176 lH177 lH178
  have hq : Below w10.heap.size w10 (w10.alloc (.cells #[.int .i64 1, .string (numS X), .string (denS X), .string { data := #[] }, .bool false, .int .i64 0, .int .i64 0, .int .i64 0, .slice none 0 0] 30)) := ((Below.refl _ _).alloc (Nat.le_refl _) _)
  replace HE := Lib.hid (HE.out.below hq)
  replace HL := Lib.hid (HL.out.trans (hq.mono HL.out.size))
  replace H11 := Lib.hid (keep_block H11.out hq)
  replace H13 := Lib.hid (keep_block H13.out hq)
  replace H14 := Lib.hid (keep_block H14.out hq)
  replace H15 := Lib.hid (keep_block H15.out hq)
  replace H16 := Lib.hid (keep_block H16.out hq)
  replace H17 := Lib.hid (keep_block H17.out hq)
  have H18 : Hid ((w10.alloc (.cells #[.int .i64 1, .string (numS X), .string (denS X), .string { data := #[] }, .bool false, .int .i64 0, .int .i64 0, .int .i64 0, .slice none 0 0] 30)).heap[w10.heap.size]? = some (.cells #[.int .i64 1, .string (numS X), .string (denS X), .string { data := #[] }, .bool false, .int .i64 0, .int .i64 0, .int .i64 0, .slice none 0 0] 30 (0, 0))) := Lib.hid (by
    have h := heap_alloc_new w10 (.cells #[.int .i64 1, .string (numS X), .string (denS X), .string { data := #[] }, .bool false, .int .i64 0, .int .i64 0, .int .i64 0, .slice none 0 0] 30)
    exact h)
  clear hq
  obtain ⟨WL3, hWL3⟩ : ∃ Z, (w10.alloc (.cells #[.int .i64 1, .string (numS X), .string (denS X), .string { data := #[] }, .bool false, .int .i64 0, .int .i64 0, .int .i64 0, .slice none 0 0] 30)) = Z := ⟨_, rfl⟩
  rw [hWL3] at HE HL H11 H13 H14 H15 H16 H17 H18
  have EWL3 := Lib.hid hWL3
  clear hWL3
  have SWL3 : Hid (w10.heap.size + 1 = WL3.heap.size) := Lib.hid (by rw [← EWL3.out]; simp only [World.size_alloc])
  have hld := H18.out
  rw [← EWL3.out] at hld
  obtain ⟨⟨lH180, lH181, lH182, lH183, lH184, lH185, lH186, lH187, lH188⟩, _⟩ := nine_at hld
  clear hld
  go_wp2_with fail
  clear lH180 lH181 lH182 lH183 lH184 lH185 lH186 lH187 lH188
  rw [EWL3.out]
  have hok : okB 20 (BalKs6 R N P Q E X On Ze I J S) = true := by kernel_rfl
  have hna := noAny_of (ks := (BalKs6 R N P Q E X On Ze I J S)) (by kernel_rfl)
  have hla := lasts_of hna
  refine wp_region_facts (row := none) (w := WL3) 20 (BalKs6 R N P Q E X On Ze I J S) [some 53, some 54, some 55, some 56, some 57, some 58, some 59, some 60, some 61, some 62, some 63, some 64, some 65, some 66, some 67, some 68, some 19, some 20, none, none] (by kernel_rfl) (by kernel_rfl) rfl [undef, undef, undef, undef, undef, undef, undef, undef, undef, undef, undef, undef, undef, undef, undef, undef, undef, undef, undef, undef] ?h00 (Fs.start rfl rfl) ?hs ?hd
  case h00 => simp only [putO, layL]
  case hs =>
    rintro listed vs Wr hF i hi hun hpre
    obtain ⟨s0, s1, s2, s3, s4, s5, s6, s7, s8, s9, s10, s11, s12, s13, s14, s15, s16, s17, s18, s19, hvs⟩ := exl_of 20 vs (fun l => vs = l) hF.len rfl
    subst hvs
    have hge := Nat.zero_le i
    simp only [putO, layL]
    rcases Nat.lt_or_ge i 10 with hlt | hgt
    · replace hi := hlt
      clear hlt
      rcases Nat.lt_or_ge i 5 with hlt | hgt
      · replace hi := hlt
        clear hlt
        rcases Nat.lt_or_ge i 2 with hlt | hgt
        · replace hi := hlt
          clear hlt
          rcases Nat.lt_or_ge i 1 with hlt | hgt
          · replace hi := hlt
            clear hlt
            obtain rfl := eqi hi hge
            have hcc := (nine_at (keep_block H13.out (below_none hF.low))).1
            have cH130 := hcc.1
            have cH131 := hcc.2.1
            have cH132 := hcc.2.2.1
            have cH133 := hcc.2.2.2.1
            have cH134 := hcc.2.2.2.2.1
            have cH135 := hcc.2.2.2.2.2.1
            have cH136 := hcc.2.2.2.2.2.2.1
            have cH137 := hcc.2.2.2.2.2.2.2.1
            have cH138 := hcc.2.2.2.2.2.2.2.2
            clear hcc
            refine step_of ⟨some 53, _, _, _, _, _⟩ rfl (fun K' hK => ?_)
            go_simp
            refine hK.out _ _ ⟨_, hF.pure hok hla hpre rfl (Below.refl _ _), ?fr⟩
            case fr => simp only [putO, layL]
          · replace hge : 1 ≤ i := hgt
            clear hgt
            obtain rfl := eqi hi hge
            refine step_of ⟨some 54, _, _, _, _, _⟩ rfl (fun K' hK => ?_)
            go_simp
            go_at_call 11
            (with_reducible refine (Qt2.out _ (HE.out.below (below_none hF.low))).mono ?_)
            rintro e Wq ⟨rfl, hq⟩
            refine hK.out _ _ ⟨_, hF.pure hok hla hpre rfl hq, ?fr⟩
            case fr => simp only [putO, layL]
        · replace hge : 2 ≤ i := hgt
          clear hgt
          rcases Nat.lt_or_ge i 3 with hlt | hgt
          · replace hi := hlt
            clear hlt
            obtain rfl := eqi hi hge
            have hcc := (nine_at (keep_block H14.out (below_none hF.low))).1
            have cH140 := hcc.1
            have cH141 := hcc.2.1
            have cH142 := hcc.2.2.1
            have cH143 := hcc.2.2.2.1
            have cH144 := hcc.2.2.2.2.1
            have cH145 := hcc.2.2.2.2.2.1
            have cH146 := hcc.2.2.2.2.2.2.1
            have cH147 := hcc.2.2.2.2.2.2.2.1
            have cH148 := hcc.2.2.2.2.2.2.2.2
            clear hcc
            refine step_of ⟨some 55, _, _, _, _, _⟩ rfl (fun K' hK => ?_)
            go_simp
            refine hK.out _ _ ⟨_, hF.pure hok hla hpre rfl (Below.refl _ _), ?fr⟩
            case fr => simp only [putO, layL]
          · replace hge : 3 ≤ i := hgt
            clear hgt
            rcases Nat.lt_or_ge i 4 with hlt | hgt
            · replace hi := hlt
              clear hlt
              obtain rfl := eqi hi hge
              have hcc := (nine_at (keep_block H15.out (below_none hF.low))).1
              have cH150 := hcc.1
              have cH151 := hcc.2.1
              have cH152 := hcc.2.2.1
              have cH153 := hcc.2.2.2.1
              have cH154 := hcc.2.2.2.2.1
              have cH155 := hcc.2.2.2.2.2.1
              have cH156 := hcc.2.2.2.2.2.2.1
              have cH157 := hcc.2.2.2.2.2.2.2.1
              have cH158 := hcc.2.2.2.2.2.2.2.2
              clear hcc
              refine step_of ⟨some 56, _, _, _, _, _⟩ rfl (fun K' hK => ?_)
              go_simp
              refine hK.out _ _ ⟨_, hF.pure hok hla hpre rfl (Below.refl _ _), ?fr⟩
              case fr => simp only [putO, layL]
            · replace hge : 4 ≤ i := hgt
              clear hgt
              obtain rfl := eqi hi hge
              have hcc := (nine_at (keep_block H16.out (below_none hF.low))).1
              have cH160 := hcc.1
              have cH161 := hcc.2.1
              have cH162 := hcc.2.2.1
              have cH163 := hcc.2.2.2.1
              have cH164 := hcc.2.2.2.2.1
              have cH165 := hcc.2.2.2.2.2.1
              have cH166 := hcc.2.2.2.2.2.2.1
              have cH167 := hcc.2.2.2.2.2.2.2.1
              have cH168 := hcc.2.2.2.2.2.2.2.2
              clear hcc
              refine step_of ⟨some 57, _, _, _, _, _⟩ rfl (fun K' hK => ?_)
              go_simp
              refine hK.out _ _ ⟨_, hF.pure hok hla hpre rfl (Below.refl _ _), ?fr⟩
              case fr => simp only [putO, layL]
      · replace hge : 5 ≤ i := hgt
        clear hgt
        rcases Nat.lt_or_ge i 7 with hlt | hgt
        · replace hi := hlt
          clear hlt
          rcases Nat.lt_or_ge i 6 with hlt | hgt
          · replace hi := hlt
            clear hlt
            obtain rfl := eqi hi hge
            have hcc := (nine_at (keep_block H17.out (below_none hF.low))).1
            have cH170 := hcc.1
            have cH171 := hcc.2.1
            have cH172 := hcc.2.2.1
            have cH173 := hcc.2.2.2.1
            have cH174 := hcc.2.2.2.2.1
            have cH175 := hcc.2.2.2.2.2.1
            have cH176 := hcc.2.2.2.2.2.2.1
            have cH177 := hcc.2.2.2.2.2.2.2.1
            have cH178 := hcc.2.2.2.2.2.2.2.2
            clear hcc
            refine step_of ⟨some 58, _, _, _, _, _⟩ rfl (fun K' hK => ?_)
            go_simp
            refine hK.out _ _ ⟨_, hF.pure hok hla hpre rfl (Below.refl _ _), ?fr⟩
            case fr => simp only [putO, layL]
          · replace hge : 6 ≤ i := hgt
            clear hgt
            obtain rfl := eqi hi hge
            have p0 := hpre 0 (by kernel_rfl)
            have e0 : s0 = .agg #[.int .i64 1, .string (numS R), .string (denS R), .string { data := #[] }, .bool false, .int .i64 0, .int .i64 0, .int .i64 0, .slice none 0 0] := hF.get 0 _ rfl (.inr p0)
            subst e0
            have p1 := hpre 1 (by kernel_rfl)
            have e1 : s1 = .agg #[.int .i64 1, .string (numS On), .string (denS On), .string { data := #[] }, .bool false, .int .i64 0, .int .i64 0, .int .i64 0, .slice none 0 0] := hF.get 1 _ rfl (.inr p1)
            subst e1
            have p2 := hpre 2 (by kernel_rfl)
            have e2 : s2 = .agg #[.int .i64 1, .string (numS N), .string (denS N), .string { data := #[] }, .bool false, .int .i64 0, .int .i64 0, .int .i64 0, .slice none 0 0] := hF.get 2 _ rfl (.inr p2)
            subst e2
            have p3 := hpre 3 (by kernel_rfl)
            have e3 : s3 = .agg #[.int .i64 1, .string (numS P), .string (denS P), .string { data := #[] }, .bool false, .int .i64 0, .int .i64 0, .int .i64 0, .slice none 0 0] := hF.get 3 _ rfl (.inr p3)
            subst e3
            have p4 := hpre 4 (by kernel_rfl)
            have e4 : s4 = .agg #[.int .i64 1, .string (numS Q), .string (denS Q), .string { data := #[] }, .bool false, .int .i64 0, .int .i64 0, .int .i64 0, .slice none 0 0] := hF.get 4 _ rfl (.inr p4)
            subst e4
            have p5 := hpre 5 (by kernel_rfl)
            have e5 : s5 = .agg #[.int .i64 1, .string (numS E), .string (denS E), .string { data := #[] }, .bool false, .int .i64 0, .int .i64 0, .int .i64 0, .slice none 0 0] := hF.get 5 _ rfl (.inr p5)
            subst e5
            refine step_of ⟨some 59, _, _, _, _, _⟩ rfl (fun K' hK => ?_)
            go_simp
            refine hK.out _ _ ⟨_, hF.row hok hla hpre rfl, ?fr⟩
            case fr => simp only [putO, layL]
        · replace hge : 7 ≤ i := hgt
          clear hgt
          rcases Nat.lt_or_ge i 8 with hlt | hgt
          · replace hi := hlt
            clear hlt
            obtain rfl := eqi hi hge
            have p6 := hpre 6 (by kernel_rfl)
            obtain ⟨G, eG, _, hGB⟩ : ∃ G, s6 = .slice (some ⟨G, 0, none⟩) 6 6 ∧ _ ≤ G ∧ Wr.heap[G]? = some (.cells #[.int .i64 1, .string (numS R), .string (denS R), .string { data := #[] }, .bool false, .int .i64 0, .int .i64 0, .int .i64 0, .slice none 0 0, .int .i64 1, .string (numS On), .string (denS On), .string { data := #[] }, .bool false, .int .i64 0, .int .i64 0, .int .i64 0, .slice none 0 0, .int .i64 1, .string (numS N), .string (denS N), .string { data := #[] }, .bool false, .int .i64 0, .int .i64 0, .int .i64 0, .slice none 0 0, .int .i64 1, .string (numS P), .string (denS P), .string { data := #[] }, .bool false, .int .i64 0, .int .i64 0, .int .i64 0, .slice none 0 0, .int .i64 1, .string (numS Q), .string (denS Q), .string { data := #[] }, .bool false, .int .i64 0, .int .i64 0, .int .i64 0, .slice none 0 0, .int .i64 1, .string (numS E), .string (denS E), .string { data := #[] }, .bool false, .int .i64 0, .int .i64 0, .int .i64 0, .slice none 0 0] 30 (0, 0)) := hF.get 6 _ rfl (.inr p6)
            subst eG
            refine step_of ⟨some 60, _, _, _, _, _⟩ rfl (fun K' hK => ?_)
            go_simp
            go_at_call 13
            (with_reducible refine (Qr1.out _ _ hGB (HE.out.below (below_none hF.low))).mono ?_)
            rintro e Wq ⟨rfl, hq⟩
            refine hK.out _ _ ⟨_, hF.pure hok hla hpre rfl hq, ?fr⟩
            case fr => simp only [putO, layL]
          · replace hge : 8 ≤ i := hgt
            clear hgt
            rcases Nat.lt_or_ge i 9 with hlt | hgt
            · replace hi := hlt
              clear hlt
              obtain rfl := eqi hi hge
              have hcc := (nine_at (keep_block H13.out (below_none hF.low))).1
              have cH130 := hcc.1
              have cH131 := hcc.2.1
              have cH132 := hcc.2.2.1
              have cH133 := hcc.2.2.2.1
              have cH134 := hcc.2.2.2.2.1
              have cH135 := hcc.2.2.2.2.2.1
              have cH136 := hcc.2.2.2.2.2.2.1
              have cH137 := hcc.2.2.2.2.2.2.2.1
              have cH138 := hcc.2.2.2.2.2.2.2.2
              clear hcc
              refine step_of ⟨some 61, _, _, _, _, _⟩ rfl (fun K' hK => ?_)
              go_simp
              refine hK.out _ _ ⟨_, hF.pure hok hla hpre rfl (Below.refl _ _), ?fr⟩
              case fr => simp only [putO, layL]
            · replace hge : 9 ≤ i := hgt
              clear hgt
              obtain rfl := eqi hi hge
              refine step_of ⟨some 62, _, _, _, _, _⟩ rfl (fun K' hK => ?_)
              go_simp
              go_at_call 11
              (with_reducible refine (Qt2.out _ (HE.out.below (below_none hF.low))).mono ?_)
              rintro e Wq ⟨rfl, hq⟩
              refine hK.out _ _ ⟨_, hF.pure hok hla hpre rfl hq, ?fr⟩
              case fr => simp only [putO, layL]
    · replace hge : 10 ≤ i := hgt
      clear hgt
      rcases Nat.lt_or_ge i 15 with hlt | hgt
      · replace hi := hlt
        clear hlt
        rcases Nat.lt_or_ge i 12 with hlt | hgt
        · replace hi := hlt
          clear hlt
          rcases Nat.lt_or_ge i 11 with hlt | hgt
          · replace hi := hlt
            clear hlt
            obtain rfl := eqi hi hge
            have hcc := (nine_at (keep_block H14.out (below_none hF.low))).1
            have cH140 := hcc.1
            have cH141 := hcc.2.1
            have cH142 := hcc.2.2.1
            have cH143 := hcc.2.2.2.1
            have cH144 := hcc.2.2.2.2.1
            have cH145 := hcc.2.2.2.2.2.1
            have cH146 := hcc.2.2.2.2.2.2.1
            have cH147 := hcc.2.2.2.2.2.2.2.1
            have cH148 := hcc.2.2.2.2.2.2.2.2
            clear hcc
            refine step_of ⟨some 63, _, _, _, _, _⟩ rfl (fun K' hK => ?_)
            go_simp
            refine hK.out _ _ ⟨_, hF.pure hok hla hpre rfl (Below.refl _ _), ?fr⟩
            case fr => simp only [putO, layL]
          · replace hge : 11 ≤ i := hgt
            clear hgt
            obtain rfl := eqi hi hge
            have hcc := (nine_at (keep_block H15.out (below_none hF.low))).1
            have cH150 := hcc.1
            have cH151 := hcc.2.1
            have cH152 := hcc.2.2.1
            have cH153 := hcc.2.2.2.1
            have cH154 := hcc.2.2.2.2.1
            have cH155 := hcc.2.2.2.2.2.1
            have cH156 := hcc.2.2.2.2.2.2.1
            have cH157 := hcc.2.2.2.2.2.2.2.1
            have cH158 := hcc.2.2.2.2.2.2.2.2
            clear hcc
            refine step_of ⟨some 64, _, _, _, _, _⟩ rfl (fun K' hK => ?_)
            go_simp
            refine hK.out _ _ ⟨_, hF.pure hok hla hpre rfl (Below.refl _ _), ?fr⟩
            case fr => simp only [putO, layL]
        · replace hge : 12 ≤ i := hgt
          clear hgt
          rcases Nat.lt_or_ge i 13 with hlt | hgt
          · replace hi := hlt
            clear hlt
            obtain rfl := eqi hi hge
            have hcc := (nine_at (keep_block H16.out (below_none hF.low))).1
            have cH160 := hcc.1
            have cH161 := hcc.2.1
            have cH162 := hcc.2.2.1
            have cH163 := hcc.2.2.2.1
            have cH164 := hcc.2.2.2.2.1
            have cH165 := hcc.2.2.2.2.2.1
            have cH166 := hcc.2.2.2.2.2.2.1
            have cH167 := hcc.2.2.2.2.2.2.2.1
            have cH168 := hcc.2.2.2.2.2.2.2.2
            clear hcc
            refine step_of ⟨some 65, _, _, _, _, _⟩ rfl (fun K' hK => ?_)
            go_simp
            refine hK.out _ _ ⟨_, hF.pure hok hla hpre rfl (Below.refl _ _), ?fr⟩
            case fr => simp only [putO, layL]
          · replace hge : 13 ≤ i := hgt
            clear hgt
            rcases Nat.lt_or_ge i 14 with hlt | hgt
            · replace hi := hlt
              clear hlt
              obtain rfl := eqi hi hge
              have hcc := (nine_at (keep_block H17.out (below_none hF.low))).1
              have cH170 := hcc.1
              have cH171 := hcc.2.1
              have cH172 := hcc.2.2.1
              have cH173 := hcc.2.2.2.1
              have cH174 := hcc.2.2.2.2.1
              have cH175 := hcc.2.2.2.2.2.1
              have cH176 := hcc.2.2.2.2.2.2.1
              have cH177 := hcc.2.2.2.2.2.2.2.1
              have cH178 := hcc.2.2.2.2.2.2.2.2
              clear hcc
              refine step_of ⟨some 66, _, _, _, _, _⟩ rfl (fun K' hK => ?_)
              go_simp
              refine hK.out _ _ ⟨_, hF.pure hok hla hpre rfl (Below.refl _ _), ?fr⟩
              case fr => simp only [putO, layL]
            · replace hge : 14 ≤ i := hgt
              clear hgt
              obtain rfl := eqi hi hge
              have p8 := hpre 8 (by kernel_rfl)
              have e8 : s8 = .agg #[.int .i64 1, .string (numS R), .string (denS R), .string { data := #[] }, .bool false, .int .i64 0, .int .i64 0, .int .i64 0, .slice none 0 0] := hF.get 8 _ rfl (.inr p8)
              subst e8
              have p9 := hpre 9 (by kernel_rfl)
              have e9 : s9 = .agg #[.int .i64 1, .string (numS On), .string (denS On), .string { data := #[] }, .bool false, .int .i64 0, .int .i64 0, .int .i64 0, .slice none 0 0] := hF.get 9 _ rfl (.inr p9)
              subst e9
              have p10 := hpre 10 (by kernel_rfl)
              have e10 : s10 = .agg #[.int .i64 1, .string (numS N), .string (denS N), .string { data := #[] }, .bool false, .int .i64 0, .int .i64 0, .int .i64 0, .slice none 0 0] := hF.get 10 _ rfl (.inr p10)
              subst e10
              have p11 := hpre 11 (by kernel_rfl)
              have e11 : s11 = .agg #[.int .i64 1, .string (numS P), .string (denS P), .string { data := #[] }, .bool false, .int .i64 0, .int .i64 0, .int .i64 0, .slice none 0 0] := hF.get 11 _ rfl (.inr p11)
              subst e11
              have p12 := hpre 12 (by kernel_rfl)
              have e12 : s12 = .agg #[.int .i64 1, .string (numS Q), .string (denS Q), .string { data := #[] }, .bool false, .int .i64 0, .int .i64 0, .int .i64 0, .slice none 0 0] := hF.get 12 _ rfl (.inr p12)
              subst e12
              have p13 := hpre 13 (by kernel_rfl)
              have e13 : s13 = .agg #[.int .i64 1, .string (numS E), .string (denS E), .string { data := #[] }, .bool false, .int .i64 0, .int .i64 0, .int .i64 0, .slice none 0 0] := hF.get 13 _ rfl (.inr p13)
              subst e13
              refine step_of ⟨some 67, _, _, _, _, _⟩ rfl (fun K' hK => ?_)
              go_simp
              refine hK.out _ _ ⟨_, hF.row hok hla hpre rfl, ?fr⟩
              case fr => simp only [putO, layL]
      · replace hge : 15 ≤ i := hgt
        clear hgt
        rcases Nat.lt_or_ge i 17 with hlt | hgt
        · replace hi := hlt
          clear hlt
          rcases Nat.lt_or_ge i 16 with hlt | hgt
          · replace hi := hlt
            clear hlt
            obtain rfl := eqi hi hge
            have p14 := hpre 14 (by kernel_rfl)
            obtain ⟨G, eG, _, hGB⟩ : ∃ G, s14 = .slice (some ⟨G, 0, none⟩) 6 6 ∧ _ ≤ G ∧ Wr.heap[G]? = some (.cells #[.int .i64 1, .string (numS R), .string (denS R), .string { data := #[] }, .bool false, .int .i64 0, .int .i64 0, .int .i64 0, .slice none 0 0, .int .i64 1, .string (numS On), .string (denS On), .string { data := #[] }, .bool false, .int .i64 0, .int .i64 0, .int .i64 0, .slice none 0 0, .int .i64 1, .string (numS N), .string (denS N), .string { data := #[] }, .bool false, .int .i64 0, .int .i64 0, .int .i64 0, .slice none 0 0, .int .i64 1, .string (numS P), .string (denS P), .string { data := #[] }, .bool false, .int .i64 0, .int .i64 0, .int .i64 0, .slice none 0 0, .int .i64 1, .string (numS Q), .string (denS Q), .string { data := #[] }, .bool false, .int .i64 0, .int .i64 0, .int .i64 0, .slice none 0 0, .int .i64 1, .string (numS E), .string (denS E), .string { data := #[] }, .bool false, .int .i64 0, .int .i64 0, .int .i64 0, .slice none 0 0] 30 (0, 0)) := hF.get 14 _ rfl (.inr p14)
            subst eG
            refine step_of ⟨some 68, _, _, _, _, _⟩ rfl (fun K' hK => ?_)
            go_simp
            go_at_call 13
            (with_reducible refine (Qr2.out _ _ hGB (HE.out.below (below_none hF.low))).mono ?_)
            rintro e Wq ⟨rfl, hq⟩
            refine hK.out _ _ ⟨_, hF.pure hok hla hpre rfl hq, ?fr⟩
            case fr => simp only [putO, layL]
          · replace hge : 16 ≤ i := hgt
            clear hgt
            obtain rfl := eqi hi hge
            refine step_of ⟨some 19, _, _, _, _, _⟩ rfl (fun K' hK => ?_)
            go_simp
            refine hK.out _ _ ⟨_, hF.box hok hla hpre hun rfl, ?fr⟩
            case fr => simp only [putO, layL]
        · replace hge : 17 ≤ i := hgt
          clear hgt
          rcases Nat.lt_or_ge i 18 with hlt | hgt
          · replace hi := hlt
            clear hlt
            obtain rfl := eqi hi hge
            refine step_of ⟨some 20, _, _, _, _, _⟩ rfl (fun K' hK => ?_)
            go_simp
            refine hK.out _ _ ⟨_, hF.box hok hla hpre hun rfl, ?fr⟩
            case fr => simp only [putO, layL]
          · replace hge : 18 ≤ i := hgt
            clear hgt
            rcases Nat.lt_or_ge i 19 with hlt | hgt
            · replace hi := hlt
              clear hlt
              obtain rfl := eqi hi hge
              have p16 := hpre 16 (by kernel_rfl)
              obtain ⟨G, eG, _, hGl, hGB⟩ : ∃ G, s16 = .pointer (some ⟨G, 0, none⟩) ∧ (∀ k, none = some k → G = k) ∧ WL3.heap.size ≤ G ∧ Wr.heap[G]? = some (.cells (if listed.getD 18 false = true then #[.int .i64 1, .string (numS I), .string (denS I), .string { data := #[] }, .bool false, .int .i64 0, .int .i64 0, .int .i64 0, .slice none 0 0] else #[.int .i64 0, .string { data := #[] }, .string { data := #[] }, .string { data := #[] }, .bool false, .int .i64 0, .int .i64 0, .int .i64 0, .slice none 0 0]) 30 (0, 0)) := hF.get 16 _ rfl (.inr p16)
              subst eG
              rw [if_neg (bit_off hun)] at hGB
              have HGB := Lib.hid hGB
              clear hGB
              have p7 := hpre 7 (by kernel_rfl)
              have e7 : s7 = .agg #[.int .i64 1, .string (numS I), .string (denS I), .string { data := #[] }, .bool false, .int .i64 0, .int .i64 0, .int .i64 0, .slice none 0 0] := hF.get 7 _ rfl (.inr p7)
              subst e7
              obtain ⟨⟨y0, y1, y2, y3, y4, y5, y6, y7, y8⟩, g0, g1, g2, g3, g4, g5, g6, g7, g8⟩ := nine_at HGB.out
              refine step_of ⟨none, _, _, _, _, _⟩ rfl (fun K' hK => ?_)
              go_simp
              refine hK.out _ _ ⟨undef, hF.put hok hna hpre hun rfl undef rfl (.inr p16) rfl (set9_at HGB.out (.int .i64 1) (.string (numS I)) (.string (denS I)) (.string { data := #[] }) (.bool false) (.int .i64 0) (.int .i64 0) (.int .i64 0) (.slice none 0 0)) (fun k hk => set9_other _ _ (.int .i64 1) (.string (numS I)) (.string (denS I)) (.string { data := #[] }) (.bool false) (.int .i64 0) (.int .i64 0) (.int .i64 0) (.slice none 0 0) hk) (put9_below hGl _ (.int .i64 1) (.string (numS I)) (.string (denS I)) (.string { data := #[] }) (.bool false) (.int .i64 0) (.int .i64 0) (.int .i64 0) (.slice none 0 0)), ?fr⟩
              case fr => simp only [putO, layL]
            · replace hge : 19 ≤ i := hgt
              clear hgt
              obtain rfl := eqi hi hge
              have p17 := hpre 17 (by kernel_rfl)
              obtain ⟨G, eG, _, hGl, hGB⟩ : ∃ G, s17 = .pointer (some ⟨G, 0, none⟩) ∧ (∀ k, none = some k → G = k) ∧ WL3.heap.size ≤ G ∧ Wr.heap[G]? = some (.cells (if listed.getD 19 false = true then #[.int .i64 1, .string (numS J), .string (denS J), .string { data := #[] }, .bool false, .int .i64 0, .int .i64 0, .int .i64 0, .slice none 0 0] else #[.int .i64 0, .string { data := #[] }, .string { data := #[] }, .string { data := #[] }, .bool false, .int .i64 0, .int .i64 0, .int .i64 0, .slice none 0 0]) 30 (0, 0)) := hF.get 17 _ rfl (.inr p17)
              subst eG
              rw [if_neg (bit_off hun)] at hGB
              have HGB := Lib.hid hGB
              clear hGB
              have p15 := hpre 15 (by kernel_rfl)
              have e15 : s15 = .agg #[.int .i64 1, .string (numS J), .string (denS J), .string { data := #[] }, .bool false, .int .i64 0, .int .i64 0, .int .i64 0, .slice none 0 0] := hF.get 15 _ rfl (.inr p15)
              subst e15
              obtain ⟨⟨y0, y1, y2, y3, y4, y5, y6, y7, y8⟩, g0, g1, g2, g3, g4, g5, g6, g7, g8⟩ := nine_at HGB.out
              refine step_of ⟨none, _, _, _, _, _⟩ rfl (fun K' hK => ?_)
              go_simp
              refine hK.out _ _ ⟨undef, hF.put hok hna hpre hun rfl undef rfl (.inr p17) rfl (set9_at HGB.out (.int .i64 1) (.string (numS J)) (.string (denS J)) (.string { data := #[] }) (.bool false) (.int .i64 0) (.int .i64 0) (.int .i64 0) (.slice none 0 0)) (fun k hk => set9_other _ _ (.int .i64 1) (.string (numS J)) (.string (denS J)) (.string { data := #[] }) (.bool false) (.int .i64 0) (.int .i64 0) (.int .i64 0) (.slice none 0 0) hk) (put9_below hGl _ (.int .i64 1) (.string (numS J)) (.string (denS J)) (.string { data := #[] }) (.bool false) (.int .i64 0) (.int .i64 0) (.int .i64 0) (.slice none 0 0)), ?fr⟩
              case fr => simp only [putO, layL]
  case hd =>
    rintro listed vs WB hF hall
    obtain ⟨s0, s1, s2, s3, s4, s5, s6, s7, s8, s9, s10, s11, s12, s13, s14, s15, s16, s17, s18, s19, hvs⟩ := exl_of 20 vs (fun l => vs = l) hF.len rfl
    subst hvs
    obtain ⟨b19, e16, _, gq, k16⟩ : ∃ G, s16 = .pointer (some ⟨G, 0, none⟩) ∧ (∀ k, none = some k → G = k) ∧ _ ≤ G ∧ WB.heap[G]? = some (.cells (if listed.getD 18 false = true then #[.int .i64 1, .string (numS I), .string (denS I), .string { data := #[] }, .bool false, .int .i64 0, .int .i64 0, .int .i64 0, .slice none 0 0] else #[.int .i64 0, .string { data := #[] }, .string { data := #[] }, .string { data := #[] }, .bool false, .int .i64 0, .int .i64 0, .int .i64 0, .slice none 0 0]) 30 (0, 0)) := hF.get 16 _ rfl (.inr (hall 16 (by decide)))
    subst e16
    rw [if_pos (hall 18 (by decide))] at k16
    have H19 := Lib.hid k16
    clear k16 gq
    obtain ⟨b20, e17, _, gq, k17⟩ : ∃ G, s17 = .pointer (some ⟨G, 0, none⟩) ∧ (∀ k, none = some k → G = k) ∧ _ ≤ G ∧ WB.heap[G]? = some (.cells (if listed.getD 19 false = true then #[.int .i64 1, .string (numS J), .string (denS J), .string { data := #[] }, .bool false, .int .i64 0, .int .i64 0, .int .i64 0, .slice none 0 0] else #[.int .i64 0, .string { data := #[] }, .string { data := #[] }, .string { data := #[] }, .bool false, .int .i64 0, .int .i64 0, .int .i64 0, .slice none 0 0]) 30 (0, 0)) := hF.get 17 _ rfl (.inr (hall 17 (by decide)))
    subst e17
    rw [if_pos (hall 19 (by decide))] at k17
    have H20 := Lib.hid k17
    clear k17 gq
    have hq := below_none hF.low
    replace HE := Lib.hid (HE.out.below hq)
    replace HL := Lib.hid (HL.out.trans (hq.mono HL.out.size))
    replace H11 := Lib.hid (keep_block H11.out hq)
    replace H13 := Lib.hid (keep_block H13.out hq)
    replace H14 := Lib.hid (keep_block H14.out hq)
    replace H15 := Lib.hid (keep_block H15.out hq)
    replace H16 := Lib.hid (keep_block H16.out hq)
    replace H17 := Lib.hid (keep_block H17.out hq)
    replace H18 := Lib.hid (keep_block H18.out hq)
    clear hq
    clear hF hall hok hna hla
    simp only [putO, layL]
    go_wp2_with fail
    (with_reducible refine (Qt3.out _ HE.out).mono ?_)
    rintro e w11 ⟨rfl, hq⟩
    replace HE := Lib.hid (HE.out.below hq)
    replace HL := Lib.hid (HL.out.trans (hq.mono HL.out.size))
    replace H11 := Lib.hid (keep_block H11.out hq)
    replace H13 := Lib.hid (keep_block H13.out hq)
    replace H14 := Lib.hid (keep_block H14.out hq)
    replace H15 := Lib.hid (keep_block H15.out hq)
    replace H16 := Lib.hid (keep_block H16.out hq)
    replace H17 := Lib.hid (keep_block H17.out hq)
    replace H18 := Lib.hid (keep_block H18.out hq)
    replace H19 := Lib.hid (keep_block H19.out hq)
    replace H20 := Lib.hid (keep_block H20.out hq)
    clear hq
    have hq : Below w11.heap.size w11 (w11.alloc (.cells #[.int .i64 1, .string (numS Ze), .string (denS Ze), .string { data := #[] }, .bool false, .int .i64 0, .int .i64 0, .int .i64 0, .slice none 0 0] 30)) := ((Below.refl _ _).alloc (Nat.le_refl _) _)
    replace HE := Lib.hid (HE.out.below hq)
    replace HL := Lib.hid (HL.out.trans (hq.mono HL.out.size))
    replace H11 := Lib.hid (keep_block H11.out hq)
    replace H13 := Lib.hid (keep_block H13.out hq)
    replace H14 := Lib.hid (keep_block H14.out hq)
    replace H15 := Lib.hid (keep_block H15.out hq)
    replace H16 := Lib.hid (keep_block H16.out hq)
    replace H17 := Lib.hid (keep_block H17.out hq)
    replace H18 := Lib.hid (keep_block H18.out hq)
    replace H19 := Lib.hid (keep_block H19.out hq)
    replace H20 := Lib.hid (keep_block H20.out hq)
    have H21 : Hid ((w11.alloc (.cells #[.int .i64 1, .string (numS Ze), .string (denS Ze), .string { data := #[] }, .bool false, .int .i64 0, .int .i64 0, .int .i64 0, .slice none 0 0] 30)).heap[w11.heap.size]? = some (.cells #[.int .i64 1, .string (numS Ze), .string (denS Ze), .string { data := #[] }, .bool false, .int .i64 0, .int .i64 0, .int .i64 0, .slice none 0 0] 30 (0, 0))) := Lib.hid (by
      have h := heap_alloc_new w11 (.cells #[.int .i64 1, .string (numS Ze), .string (denS Ze), .string { data := #[] }, .bool false, .int .i64 0, .int .i64 0, .int .i64 0, .slice none 0 0] 30)
      exact h)
    clear hq
    obtain ⟨WL5, hWL5⟩ : ∃ Z, (w11.alloc (.cells #[.int .i64 1, .string (numS Ze), .string (denS Ze), .string { data := #[] }, .bool false, .int .i64 0, .int .i64 0, .int .i64 0, .slice none 0 0] 30)) = Z := ⟨_, rfl⟩
    rw [hWL5] at HE HL H11 H13 H14 H15 H16 H17 H18 H19 H20 H21
    have EWL5 := Lib.hid hWL5
    clear hWL5
    have SWL5 : Hid (w11.heap.size + 1 = WL5.heap.size) := Lib.hid (by rw [← EWL5.out]; simp only [World.size_alloc])
    go_wp2_with fail
    rw [EWL5.out]
    have hok : okB 10 (BalKs8 R N P Q E X On Ze I J S) = true := by kernel_rfl
    have hna := noAny_of (ks := (BalKs8 R N P Q E X On Ze I J S)) (by kernel_rfl)
    have hla := lasts_of hna
    refine wp_region_facts (row := none) (w := WL5) 10 (BalKs8 R N P Q E X On Ze I J S) [some 70, some 71, some 72, some 73, some 74, some 75, some 76, some 77, some 22, none] (by kernel_rfl) (by kernel_rfl) rfl [undef, undef, undef, undef, undef, undef, undef, undef, undef, undef] ?h00 (Fs.start rfl rfl) ?hs ?hd
    case h00 => simp only [putO, layL]
    case hs =>
      rintro listed vs Wr hF i hi hun hpre
      obtain ⟨s0, s1, s2, s3, s4, s5, s6, s7, s8, s9, hvs⟩ := exl_of 10 vs (fun l => vs = l) hF.len rfl
      subst hvs
      have hge := Nat.zero_le i
      simp only [putO, layL]
      rcases Nat.lt_or_ge i 5 with hlt | hgt
      · replace hi := hlt
        clear hlt
        rcases Nat.lt_or_ge i 2 with hlt | hgt
        · replace hi := hlt
          clear hlt
          rcases Nat.lt_or_ge i 1 with hlt | hgt
          · replace hi := hlt
            clear hlt
            obtain rfl := eqi hi hge
            have hcc := (nine_at (keep_block H13.out (below_none hF.low))).1
            have cH130 := hcc.1
            have cH131 := hcc.2.1
            have cH132 := hcc.2.2.1
            have cH133 := hcc.2.2.2.1
            have cH134 := hcc.2.2.2.2.1
            have cH135 := hcc.2.2.2.2.2.1
            have cH136 := hcc.2.2.2.2.2.2.1
            have cH137 := hcc.2.2.2.2.2.2.2.1
            have cH138 := hcc.2.2.2.2.2.2.2.2
            clear hcc
            refine step_of ⟨some 70, _, _, _, _, _⟩ rfl (fun K' hK => ?_)
            go_simp
            refine hK.out _ _ ⟨_, hF.pure hok hla hpre rfl (Below.refl _ _), ?fr⟩
            case fr => simp only [putO, layL]
          · replace hge : 1 ≤ i := hgt
            clear hgt
            obtain rfl := eqi hi hge
            have hcc := (nine_at (keep_block H14.out (below_none hF.low))).1
            have cH140 := hcc.1
            have cH141 := hcc.2.1
            have cH142 := hcc.2.2.1
            have cH143 := hcc.2.2.2.1
            have cH144 := hcc.2.2.2.2.1
            have cH145 := hcc.2.2.2.2.2.1
            have cH146 := hcc.2.2.2.2.2.2.1
            have cH147 := hcc.2.2.2.2.2.2.2.1
            have cH148 := hcc.2.2.2.2.2.2.2.2
            clear hcc
            refine step_of ⟨some 71, _, _, _, _, _⟩ rfl (fun K' hK => ?_)
            go_simp
            refine hK.out _ _ ⟨_, hF.pure hok hla hpre rfl (Below.refl _ _), ?fr⟩
            case fr => simp only [putO, layL]
        · replace hge : 2 ≤ i := hgt
          clear hgt
          rcases Nat.lt_or_ge i 3 with hlt | hgt
          · replace hi := hlt
            clear hlt
            obtain rfl := eqi hi hge
            have hcc := (nine_at (keep_block H15.out (below_none hF.low))).1
            have cH150 := hcc.1
            have cH151 := hcc.2.1
            have cH152 := hcc.2.2.1
            have cH153 := hcc.2.2.2.1
            have cH154 := hcc.2.2.2.2.1
            have cH155 := hcc.2.2.2.2.2.1
            have cH156 := hcc.2.2.2.2.2.2.1
            have cH157 := hcc.2.2.2.2.2.2.2.1
            have cH158 := hcc.2.2.2.2.2.2.2.2
            clear hcc
            refine step_of ⟨some 72, _, _, _, _, _⟩ rfl (fun K' hK => ?_)
            go_simp
            refine hK.out _ _ ⟨_, hF.pure hok hla hpre rfl (Below.refl _ _), ?fr⟩
            case fr => simp only [putO, layL]
          · replace hge : 3 ≤ i := hgt
            clear hgt
            rcases Nat.lt_or_ge i 4 with hlt | hgt
            · replace hi := hlt
              clear hlt
              obtain rfl := eqi hi hge
              refine step_of ⟨some 73, _, _, _, _, _⟩ rfl (fun K' hK => ?_)
              go_simp
              go_at_call 11
              (with_reducible refine (Qt2.out _ (HE.out.below (below_none hF.low))).mono ?_)
              rintro e Wq ⟨rfl, hq⟩
              refine hK.out _ _ ⟨_, hF.pure hok hla hpre rfl hq, ?fr⟩
              case fr => simp only [putO, layL]
            · replace hge : 4 ≤ i := hgt
              clear hgt
              obtain rfl := eqi hi hge
              have hcc := (nine_at (keep_block H14.out (below_none hF.low))).1
              have cH140 := hcc.1
              have cH141 := hcc.2.1
              have cH142 := hcc.2.2.1
              have cH143 := hcc.2.2.2.1
              have cH144 := hcc.2.2.2.2.1
              have cH145 := hcc.2.2.2.2.2.1
              have cH146 := hcc.2.2.2.2.2.2.1
              have cH147 := hcc.2.2.2.2.2.2.2.1
              have cH148 := hcc.2.2.2.2.2.2.2.2
              clear hcc
              refine step_of ⟨some 74, _, _, _, _, _⟩ rfl (fun K' hK => ?_)
              go_simp
              refine hK.out _ _ ⟨_, hF.pure hok hla hpre rfl (Below.refl _ _), ?fr⟩
              case fr => simp only [putO, layL]
      · replace hge : 5 ≤ i := hgt
        clear hgt
        rcases Nat.lt_or_ge i 7 with hlt | hgt
        · replace hi := hlt
          clear hlt
          rcases Nat.lt_or_ge i 6 with hlt | hgt
          · replace hi := hlt
            clear hlt
            obtain rfl := eqi hi hge
            have hcc := (nine_at (keep_block H21.out (below_none hF.low))).1
            have cH210 := hcc.1
            have cH211 := hcc.2.1
            have cH212 := hcc.2.2.1
            have cH213 := hcc.2.2.2.1
            have cH214 := hcc.2.2.2.2.1
            have cH215 := hcc.2.2.2.2.2.1
            have cH216 := hcc.2.2.2.2.2.2.1
            have cH217 := hcc.2.2.2.2.2.2.2.1
            have cH218 := hcc.2.2.2.2.2.2.2.2
            clear hcc
            refine step_of ⟨some 75, _, _, _, _, _⟩ rfl (fun K' hK => ?_)
            go_simp
            refine hK.out _ _ ⟨_, hF.pure hok hla hpre rfl (Below.refl _ _), ?fr⟩
            case fr => simp only [putO, layL]
          · replace hge : 6 ≤ i := hgt
            clear hgt
            obtain rfl := eqi hi hge
            have p0 := hpre 0 (by kernel_rfl)
            have e0 : s0 = .agg #[.int .i64 1, .string (numS R), .string (denS R), .string { data := #[] }, .bool false, .int .i64 0, .int .i64 0, .int .i64 0, .slice none 0 0] := hF.get 0 _ rfl (.inr p0)
            subst e0
            have p1 := hpre 1 (by kernel_rfl)
            have e1 : s1 = .agg #[.int .i64 1, .string (numS N), .string (denS N), .string { data := #[] }, .bool false, .int .i64 0, .int .i64 0, .int .i64 0, .slice none 0 0] := hF.get 1 _ rfl (.inr p1)
            subst e1
            have p2 := hpre 2 (by kernel_rfl)
            have e2 : s2 = .agg #[.int .i64 1, .string (numS P), .string (denS P), .string { data := #[] }, .bool false, .int .i64 0, .int .i64 0, .int .i64 0, .slice none 0 0] := hF.get 2 _ rfl (.inr p2)
            subst e2
            have p3 := hpre 3 (by kernel_rfl)
            have e3 : s3 = .agg #[.int .i64 1, .string (numS On), .string (denS On), .string { data := #[] }, .bool false, .int .i64 0, .int .i64 0, .int .i64 0, .slice none 0 0] := hF.get 3 _ rfl (.inr p3)
            subst e3
            have p4 := hpre 4 (by kernel_rfl)
            have e4 : s4 = .agg #[.int .i64 1, .string (numS N), .string (denS N), .string { data := #[] }, .bool false, .int .i64 0, .int .i64 0, .int .i64 0, .slice none 0 0] := hF.get 4 _ rfl (.inr p4)
            subst e4
            have p5 := hpre 5 (by kernel_rfl)
            have e5 : s5 = .agg #[.int .i64 1, .string (numS Ze), .string (denS Ze), .string { data := #[] }, .bool false, .int .i64 0, .int .i64 0, .int .i64 0, .slice none 0 0] := hF.get 5 _ rfl (.inr p5)
            subst e5
            refine step_of ⟨some 76, _, _, _, _, _⟩ rfl (fun K' hK => ?_)
            go_simp
            refine hK.out _ _ ⟨_, hF.row hok hla hpre rfl, ?fr⟩
            case fr => simp only [putO, layL]
        · replace hge : 7 ≤ i := hgt
          clear hgt
          rcases Nat.lt_or_ge i 8 with hlt | hgt
          · replace hi := hlt
            clear hlt
            obtain rfl := eqi hi hge
            have p6 := hpre 6 (by kernel_rfl)
            obtain ⟨G, eG, _, hGB⟩ : ∃ G, s6 = .slice (some ⟨G, 0, none⟩) 6 6 ∧ _ ≤ G ∧ Wr.heap[G]? = some (.cells #[.int .i64 1, .string (numS R), .string (denS R), .string { data := #[] }, .bool false, .int .i64 0, .int .i64 0, .int .i64 0, .slice none 0 0, .int .i64 1, .string (numS N), .string (denS N), .string { data := #[] }, .bool false, .int .i64 0, .int .i64 0, .int .i64 0, .slice none 0 0, .int .i64 1, .string (numS P), .string (denS P), .string { data := #[] }, .bool false, .int .i64 0, .int .i64 0, .int .i64 0, .slice none 0 0, .int .i64 1, .string (numS On), .string (denS On), .string { data := #[] }, .bool false, .int .i64 0, .int .i64 0, .int .i64 0, .slice none 0 0, .int .i64 1, .string (numS N), .string (denS N), .string { data := #[] }, .bool false, .int .i64 0, .int .i64 0, .int .i64 0, .slice none 0 0, .int .i64 1, .string (numS Ze), .string (denS Ze), .string { data := #[] }, .bool false, .int .i64 0, .int .i64 0, .int .i64 0, .slice none 0 0] 30 (0, 0)) := hF.get 6 _ rfl (.inr p6)
            subst eG
            refine step_of ⟨some 77, _, _, _, _, _⟩ rfl (fun K' hK => ?_)
            go_simp
            go_at_call 13
            (with_reducible refine (Qr3.out _ _ hGB (HE.out.below (below_none hF.low))).mono ?_)
            rintro e Wq ⟨rfl, hq⟩
            refine hK.out _ _ ⟨_, hF.pure hok hla hpre rfl hq, ?fr⟩
            case fr => simp only [putO, layL]
          · replace hge : 8 ≤ i := hgt
            clear hgt
            rcases Nat.lt_or_ge i 9 with hlt | hgt
            · replace hi := hlt
              clear hlt
              obtain rfl := eqi hi hge
              refine step_of ⟨some 22, _, _, _, _, _⟩ rfl (fun K' hK => ?_)
              go_simp
              refine hK.out _ _ ⟨_, hF.box hok hla hpre hun rfl, ?fr⟩
              case fr => simp only [putO, layL]
            · replace hge : 9 ≤ i := hgt
              clear hgt
              obtain rfl := eqi hi hge
              have p8 := hpre 8 (by kernel_rfl)
              obtain ⟨G, eG, _, hGl, hGB⟩ : ∃ G, s8 = .pointer (some ⟨G, 0, none⟩) ∧ (∀ k, none = some k → G = k) ∧ WL5.heap.size ≤ G ∧ Wr.heap[G]? = some (.cells (if listed.getD 9 false = true then #[.int .i64 1, .string (numS S), .string (denS S), .string { data := #[] }, .bool false, .int .i64 0, .int .i64 0, .int .i64 0, .slice none 0 0] else #[.int .i64 0, .string { data := #[] }, .string { data := #[] }, .string { data := #[] }, .bool false, .int .i64 0, .int .i64 0, .int .i64 0, .slice none 0 0]) 30 (0, 0)) := hF.get 8 _ rfl (.inr p8)
              subst eG
              rw [if_neg (bit_off hun)] at hGB
              have HGB := Lib.hid hGB
              clear hGB
              have p7 := hpre 7 (by kernel_rfl)
              have e7 : s7 = .agg #[.int .i64 1, .string (numS S), .string (denS S), .string { data := #[] }, .bool false, .int .i64 0, .int .i64 0, .int .i64 0, .slice none 0 0] := hF.get 7 _ rfl (.inr p7)
              subst e7
              obtain ⟨⟨y0, y1, y2, y3, y4, y5, y6, y7, y8⟩, g0, g1, g2, g3, g4, g5, g6, g7, g8⟩ := nine_at HGB.out
              refine step_of ⟨none, _, _, _, _, _⟩ rfl (fun K' hK => ?_)
              go_simp
              refine hK.out _ _ ⟨undef, hF.put hok hna hpre hun rfl undef rfl (.inr p8) rfl (set9_at HGB.out (.int .i64 1) (.string (numS S)) (.string (denS S)) (.string { data := #[] }) (.bool false) (.int .i64 0) (.int .i64 0) (.int .i64 0) (.slice none 0 0)) (fun k hk => set9_other _ _ (.int .i64 1) (.string (numS S)) (.string (denS S)) (.string { data := #[] }) (.bool false) (.int .i64 0) (.int .i64 0) (.int .i64 0) (.slice none 0 0) hk) (put9_below hGl _ (.int .i64 1) (.string (numS S)) (.string (denS S)) (.string { data := #[] }) (.bool false) (.int .i64 0) (.int .i64 0) (.int .i64 0) (.slice none 0 0)), ?fr⟩
              case fr => simp only [putO, layL]
    case hd =>
      rintro listed vs WC hF hall
      obtain ⟨s0, s1, s2, s3, s4, s5, s6, s7, s8, s9, hvs⟩ := exl_of 10 vs (fun l => vs = l) hF.len rfl
      subst hvs
      obtain ⟨b22, e8, _, gq, k8⟩ : ∃ G, s8 = .pointer (some ⟨G, 0, none⟩) ∧ (∀ k, none = some k → G = k) ∧ _ ≤ G ∧ WC.heap[G]? = some (.cells (if listed.getD 9 false = true then #[.int .i64 1, .string (numS S), .string (denS S), .string { data := #[] }, .bool false, .int .i64 0, .int .i64 0, .int .i64 0, .slice none 0 0] else #[.int .i64 0, .string { data := #[] }, .string { data := #[] }, .string { data := #[] }, .bool false, .int .i64 0, .int .i64 0, .int .i64 0, .slice none 0 0]) 30 (0, 0)) := hF.get 8 _ rfl (.inr (hall 8 (by decide)))
      subst e8
      rw [if_pos (hall 9 (by decide))] at k8
      have H22 := Lib.hid k8
      clear k8 gq
      have hq := below_none hF.low
      replace HE := Lib.hid (HE.out.below hq)
      replace HL := Lib.hid (HL.out.trans (hq.mono HL.out.size))
      replace H11 := Lib.hid (keep_block H11.out hq)
      replace H13 := Lib.hid (keep_block H13.out hq)
      replace H14 := Lib.hid (keep_block H14.out hq)
      replace H15 := Lib.hid (keep_block H15.out hq)
      replace H16 := Lib.hid (keep_block H16.out hq)
      replace H17 := Lib.hid (keep_block H17.out hq)
      replace H18 := Lib.hid (keep_block H18.out hq)
      replace H19 := Lib.hid (keep_block H19.out hq)
      replace H20 := Lib.hid (keep_block H20.out hq)
      replace H21 := Lib.hid (keep_block H21.out hq)
      clear hq
      clear hF hall hok hna hla
      simp only [putO, layL]
      go_wp2_with fail
      have hok : okB 35 (BalKs9 R N P Q E X On Ze I J S) = true := by kernel_rfl
      have hna := noAny_of (ks := (BalKs9 R N P Q E X On Ze I J S)) (by kernel_rfl)
      have hla := lasts_of hna
      refine wp_region_facts (row := none) (w := WC) 35 (BalKs9 R N P Q E X On Ze I J S) [some 78, some 79, some 80, some 81, some 82, some 83, some 84, some 85, some 86, some 87, some 88, some 89, some 90, some 91, some 92, some 93, some 94, some 95, some 96, some 97, some 98, some 99, some 100, some 101, some 102, some 103, some 104, some 105, some 106, some 107, some 108, some 109, some 110, some 111, some 10] (by kernel_rfl) (by kernel_rfl) rfl [undef, undef, undef, undef, undef, undef, undef, undef, undef, undef, undef, undef, undef, undef, undef, undef, undef, undef, undef, undef, undef, undef, undef, undef, undef, undef, undef, undef, undef, undef, undef, undef, undef, undef, (.bool false)] ?h00 (Fs.start rfl rfl) ?hs ?hd
      case h00 => simp only [putO, layL]
      case hs =>
        rintro listed vs Wr hF i hi hun hpre
        obtain ⟨s0, s1, s2, s3, s4, s5, s6, s7, s8, s9, s10, s11, s12, s13, s14, s15, s16, s17, s18, s19, s20, s21, s22, s23, s24, s25, s26, s27, s28, s29, s30, s31, s32, s33, s34, hvs⟩ := exl_of 35 vs (fun l => vs = l) hF.len rfl
        subst hvs
        have hge := Nat.zero_le i
        simp only [putO, layL]
        rcases Nat.lt_or_ge i 17 with hlt | hgt
        · replace hi := hlt
          clear hlt
          rcases Nat.lt_or_ge i 8 with hlt | hgt
          · replace hi := hlt
            clear hlt
            rcases Nat.lt_or_ge i 4 with hlt | hgt
            · replace hi := hlt
              clear hlt
              rcases Nat.lt_or_ge i 2 with hlt | hgt
              · replace hi := hlt
                clear hlt
                rcases Nat.lt_or_ge i 1 with hlt | hgt
                · replace hi := hlt
                  clear hlt
                  obtain rfl := eqi hi hge
                  have hcc := (nine_at (keep_block H13.out (below_none hF.low))).1
                  have cH130 := hcc.1
                  have cH131 := hcc.2.1
                  have cH132 := hcc.2.2.1
                  have cH133 := hcc.2.2.2.1
                  have cH134 := hcc.2.2.2.2.1
                  have cH135 := hcc.2.2.2.2.2.1
                  have cH136 := hcc.2.2.2.2.2.2.1
                  have cH137 := hcc.2.2.2.2.2.2.2.1
                  have cH138 := hcc.2.2.2.2.2.2.2.2
                  clear hcc
                  refine step_of ⟨some 78, _, _, _, _, _⟩ rfl (fun K' hK => ?_)
                  go_simp
                  refine hK.out _ _ ⟨_, hF.pure hok hla hpre rfl (Below.refl _ _), ?fr⟩
                  case fr => simp only [putO, layL]
                · replace hge : 1 ≤ i := hgt
                  clear hgt
                  obtain rfl := eqi hi hge
                  have hcc := (nine_at (keep_block H14.out (below_none hF.low))).1
                  have cH140 := hcc.1
                  have cH141 := hcc.2.1
                  have cH142 := hcc.2.2.1
                  have cH143 := hcc.2.2.2.1
                  have cH144 := hcc.2.2.2.2.1
                  have cH145 := hcc.2.2.2.2.2.1
                  have cH146 := hcc.2.2.2.2.2.2.1
                  have cH147 := hcc.2.2.2.2.2.2.2.1
                  have cH148 := hcc.2.2.2.2.2.2.2.2
                  clear hcc
                  refine step_of ⟨some 79, _, _, _, _, _⟩ rfl (fun K' hK => ?_)
                  go_simp
                  refine hK.out _ _ ⟨_, hF.pure hok hla hpre rfl (Below.refl _ _), ?fr⟩
                  case fr => simp only [putO, layL]
              · replace hge : 2 ≤ i := hgt
                clear hgt
                rcases Nat.lt_or_ge i 3 with hlt | hgt
                · replace hi := hlt
                  clear hlt
                  obtain rfl := eqi hi hge
                  have hcc := (nine_at (keep_block H18.out (below_none hF.low))).1
                  have cH180 := hcc.1
                  have cH181 := hcc.2.1
                  have cH182 := hcc.2.2.1
                  have cH183 := hcc.2.2.2.1
                  have cH184 := hcc.2.2.2.2.1
                  have cH185 := hcc.2.2.2.2.2.1
                  have cH186 := hcc.2.2.2.2.2.2.1
                  have cH187 := hcc.2.2.2.2.2.2.2.1
                  have cH188 := hcc.2.2.2.2.2.2.2.2
                  clear hcc
                  refine step_of ⟨some 80, _, _, _, _, _⟩ rfl (fun K' hK => ?_)
                  go_simp
                  refine hK.out _ _ ⟨_, hF.pure hok hla hpre rfl (Below.refl _ _), ?fr⟩
                  case fr => simp only [putO, layL]
                · replace hge : 3 ≤ i := hgt
                  clear hgt
                  obtain rfl := eqi hi hge
                  have hcc := (nine_at (keep_block H15.out (below_none hF.low))).1
                  have cH150 := hcc.1
                  have cH151 := hcc.2.1
                  have cH152 := hcc.2.2.1
                  have cH153 := hcc.2.2.2.1
                  have cH154 := hcc.2.2.2.2.1
                  have cH155 := hcc.2.2.2.2.2.1
                  have cH156 := hcc.2.2.2.2.2.2.1
                  have cH157 := hcc.2.2.2.2.2.2.2.1
                  have cH158 := hcc.2.2.2.2.2.2.2.2
                  clear hcc
                  refine step_of ⟨some 81, _, _, _, _, _⟩ rfl (fun K' hK => ?_)
                  go_simp
                  refine hK.out _ _ ⟨_, hF.pure hok hla hpre rfl (Below.refl _ _), ?fr⟩
                  case fr => simp only [putO, layL]
            · replace hge : 4 ≤ i := hgt
              clear hgt
              rcases Nat.lt_or_ge i 6 with hlt | hgt
              · replace hi := hlt
                clear hlt
                rcases Nat.lt_or_ge i 5 with hlt | hgt
                · replace hi := hlt
                  clear hlt
                  obtain rfl := eqi hi hge
                  have hcc := (nine_at (keep_block H17.out (below_none hF.low))).1
                  have cH170 := hcc.1
                  have cH171 := hcc.2.1
                  have cH172 := hcc.2.2.1
                  have cH173 := hcc.2.2.2.1
                  have cH174 := hcc.2.2.2.2.1
                  have cH175 := hcc.2.2.2.2.2.1
                  have cH176 := hcc.2.2.2.2.2.2.1
                  have cH177 := hcc.2.2.2.2.2.2.2.1
                  have cH178 := hcc.2.2.2.2.2.2.2.2
                  clear hcc
                  refine step_of ⟨some 82, _, _, _, _, _⟩ rfl (fun K' hK => ?_)
                  go_simp
                  refine hK.out _ _ ⟨_, hF.pure hok hla hpre rfl (Below.refl _ _), ?fr⟩
                  case fr => simp only [putO, layL]
                · replace hge : 5 ≤ i := hgt
                  clear hgt
                  obtain rfl := eqi hi hge
                  have p0 := hpre 0 (by kernel_rfl)
                  have e0 : s0 = .agg #[.int .i64 1, .string (numS R), .string (denS R), .string { data := #[] }, .bool false, .int .i64 0, .int .i64 0, .int .i64 0, .slice none 0 0] := hF.get 0 _ rfl (.inr p0)
                  subst e0
                  have p1 := hpre 1 (by kernel_rfl)
                  have e1 : s1 = .agg #[.int .i64 1, .string (numS N), .string (denS N), .string { data := #[] }, .bool false, .int .i64 0, .int .i64 0, .int .i64 0, .slice none 0 0] := hF.get 1 _ rfl (.inr p1)
                  subst e1
                  have p2 := hpre 2 (by kernel_rfl)
                  have e2 : s2 = .agg #[.int .i64 1, .string (numS X), .string (denS X), .string { data := #[] }, .bool false, .int .i64 0, .int .i64 0, .int .i64 0, .slice none 0 0] := hF.get 2 _ rfl (.inr p2)
                  subst e2
                  have p3 := hpre 3 (by kernel_rfl)
                  have e3 : s3 = .agg #[.int .i64 1, .string (numS P), .string (denS P), .string { data := #[] }, .bool false, .int .i64 0, .int .i64 0, .int .i64 0, .slice none 0 0] := hF.get 3 _ rfl (.inr p3)
                  subst e3
                  have p4 := hpre 4 (by kernel_rfl)
                  have e4 : s4 = .agg #[.int .i64 1, .string (numS E), .string (denS E), .string { data := #[] }, .bool false, .int .i64 0, .int .i64 0, .int .i64 0, .slice none 0 0] := hF.get 4 _ rfl (.inr p4)
                  subst e4
                  refine step_of ⟨some 83, _, _, _, _, _⟩ rfl (fun K' hK => ?_)
                  go_simp
                  refine hK.out _ _ ⟨_, hF.row hok hla hpre rfl, ?fr⟩
                  case fr => simp only [putO, layL]
              · replace hge : 6 ≤ i := hgt
                clear hgt
                rcases Nat.lt_or_ge i 7 with hlt | hgt
                · replace hi := hlt
                  clear hlt
                  obtain rfl := eqi hi hge
                  have p5 := hpre 5 (by kernel_rfl)
                  obtain ⟨G, eG, _, hGB⟩ : ∃ G, s5 = .slice (some ⟨G, 0, none⟩) 5 5 ∧ _ ≤ G ∧ Wr.heap[G]? = some (.cells #[.int .i64 1, .string (numS R), .string (denS R), .string { data := #[] }, .bool false, .int .i64 0, .int .i64 0, .int .i64 0, .slice none 0 0, .int .i64 1, .string (numS N), .string (denS N), .string { data := #[] }, .bool false, .int .i64 0, .int .i64 0, .int .i64 0, .slice none 0 0, .int .i64 1, .string (numS X), .string (denS X), .string { data := #[] }, .bool false, .int .i64 0, .int .i64 0, .int .i64 0, .slice none 0 0, .int .i64 1, .string (numS P), .string (denS P), .string { data := #[] }, .bool false, .int .i64 0, .int .i64 0, .int .i64 0, .slice none 0 0, .int .i64 1, .string (numS E), .string (denS E), .string { data := #[] }, .bool false, .int .i64 0, .int .i64 0, .int .i64 0, .slice none 0 0] 30 (0, 0)) := hF.get 5 _ rfl (.inr p5)
                  subst eG
                  refine step_of ⟨some 84, _, _, _, _, _⟩ rfl (fun K' hK => ?_)
                  go_simp
                  go_at_call 13
                  (with_reducible refine (Qr4.out _ _ hGB (HE.out.below (below_none hF.low))).mono ?_)
                  rintro e Wq ⟨rfl, hq⟩
                  refine hK.out _ _ ⟨_, hF.pure hok hla hpre rfl hq, ?fr⟩
                  case fr => simp only [putO, layL]
                · replace hge : 7 ≤ i := hgt
                  clear hgt
                  obtain rfl := eqi hi hge
                  have hcc := (nine_at (keep_block H16.out (below_none hF.low))).1
                  have cH160 := hcc.1
                  have cH161 := hcc.2.1
                  have cH162 := hcc.2.2.1
                  have cH163 := hcc.2.2.2.1
                  have cH164 := hcc.2.2.2.2.1
                  have cH165 := hcc.2.2.2.2.2.1
                  have cH166 := hcc.2.2.2.2.2.2.1
                  have cH167 := hcc.2.2.2.2.2.2.2.1
                  have cH168 := hcc.2.2.2.2.2.2.2.2
                  clear hcc
                  refine step_of ⟨some 85, _, _, _, _, _⟩ rfl (fun K' hK => ?_)
                  go_simp
                  refine hK.out _ _ ⟨_, hF.pure hok hla hpre rfl (Below.refl _ _), ?fr⟩
                  case fr => simp only [putO, layL]
          · replace hge : 8 ≤ i := hgt
            clear hgt
            rcases Nat.lt_or_ge i 12 with hlt | hgt
            · replace hi := hlt
              clear hlt
              rcases Nat.lt_or_ge i 10 with hlt | hgt
              · replace hi := hlt
                clear hlt
                rcases Nat.lt_or_ge i 9 with hlt | hgt
                · replace hi := hlt
                  clear hlt
                  obtain rfl := eqi hi hge
                  have p6 := hpre 6 (by kernel_rfl)
                  have e6 : s6 = .agg #[.int .i64 1, .string (numS Q), .string (denS Q), .string { data := #[] }, .bool false, .int .i64 0, .int .i64 0, .int .i64 0, .slice none 0 0] := hF.get 6 _ rfl (.inr p6)
                  subst e6
                  have p7 := hpre 7 (by kernel_rfl)
                  have e7 : s7 = .agg #[.int .i64 1, .string (numS Q), .string (denS Q), .string { data := #[] }, .bool false, .int .i64 0, .int .i64 0, .int .i64 0, .slice none 0 0] := hF.get 7 _ rfl (.inr p7)
                  subst e7
                  refine step_of ⟨some 86, _, _, _, _, _⟩ rfl (fun K' hK => ?_)
                  go_simp
                  go_at_call 14
                  (with_reducible refine (RS.out Q _).mono ?_)
                  rintro e Wq ⟨rfl, hq⟩
                  refine hK.out _ _ ⟨_, hF.pure hok hla hpre rfl hq, ?fr⟩
                  case fr => simp only [putO, layL]
                · replace hge : 9 ≤ i := hgt
                  clear hgt
                  obtain rfl := eqi hi hge
                  have p8 := hpre 8 (by kernel_rfl)
                  have e8 : s8 = .bool true := hF.get 8 _ rfl (.inr p8)
                  subst e8
                  refine step_of ⟨some 87, _, _, _, _, _⟩ rfl (fun K' hK => ?_)
                  go_simp
                  refine hK.out _ _ ⟨_, hF.pure hok hla hpre rfl (Below.refl _ _), ?fr⟩
                  case fr => simp only [putO, layL]
              · replace hge : 10 ≤ i := hgt
                clear hgt
                rcases Nat.lt_or_ge i 11 with hlt | hgt
                · replace hi := hlt
                  clear hlt
                  obtain rfl := eqi hi hge
                  have p9 := hpre 9 (by kernel_rfl)
                  have e9 : s9 = .bool true := hF.get 9 _ rfl (.inr p9)
                  subst e9
                  have hcc := (nine_at (keep_block H13.out (below_none hF.low))).1
                  have cH130 := hcc.1
                  have cH131 := hcc.2.1
                  have cH132 := hcc.2.2.1
                  have cH133 := hcc.2.2.2.1
                  have cH134 := hcc.2.2.2.2.1
                  have cH135 := hcc.2.2.2.2.2.1
                  have cH136 := hcc.2.2.2.2.2.2.1
                  have cH137 := hcc.2.2.2.2.2.2.2.1
                  have cH138 := hcc.2.2.2.2.2.2.2.2
                  clear hcc
                  refine step_of ⟨some 88, _, _, _, _, _⟩ rfl (fun K' hK => ?_)
                  rw [if_pos (by rfl)]
                  go_simp
                  refine hK.out _ _ ⟨_, hF.pure hok hla hpre rfl (Below.refl _ _), ?fr⟩
                  case fr => simp only [putO, layL]
                · replace hge : 11 ≤ i := hgt
                  clear hgt
                  obtain rfl := eqi hi hge
                  have p9 := hpre 9 (by kernel_rfl)
                  have e9 : s9 = .bool true := hF.get 9 _ rfl (.inr p9)
                  subst e9
                  have hcc := (nine_at (keep_block H14.out (below_none hF.low))).1
                  have cH140 := hcc.1
                  have cH141 := hcc.2.1
                  have cH142 := hcc.2.2.1
                  have cH143 := hcc.2.2.2.1
                  have cH144 := hcc.2.2.2.2.1
                  have cH145 := hcc.2.2.2.2.2.1
                  have cH146 := hcc.2.2.2.2.2.2.1
                  have cH147 := hcc.2.2.2.2.2.2.2.1
                  have cH148 := hcc.2.2.2.2.2.2.2.2
                  clear hcc
                  refine step_of ⟨some 89, _, _, _, _, _⟩ rfl (fun K' hK => ?_)
                  rw [if_pos (by rfl)]
                  go_simp
                  refine hK.out _ _ ⟨_, hF.pure hok hla hpre rfl (Below.refl _ _), ?fr⟩
                  case fr => simp only [putO, layL]
            · replace hge : 12 ≤ i := hgt
              clear hgt
              rcases Nat.lt_or_ge i 14 with hlt | hgt
              · replace hi := hlt
                clear hlt
                rcases Nat.lt_or_ge i 13 with hlt | hgt
                · replace hi := hlt
                  clear hlt
                  obtain rfl := eqi hi hge
                  have p9 := hpre 9 (by kernel_rfl)
                  have e9 : s9 = .bool true := hF.get 9 _ rfl (.inr p9)
                  subst e9
                  have hcc := (nine_at (keep_block H18.out (below_none hF.low))).1
                  have cH180 := hcc.1
                  have cH181 := hcc.2.1
                  have cH182 := hcc.2.2.1
                  have cH183 := hcc.2.2.2.1
                  have cH184 := hcc.2.2.2.2.1
                  have cH185 := hcc.2.2.2.2.2.1
                  have cH186 := hcc.2.2.2.2.2.2.1
                  have cH187 := hcc.2.2.2.2.2.2.2.1
                  have cH188 := hcc.2.2.2.2.2.2.2.2
                  clear hcc
                  refine step_of ⟨some 90, _, _, _, _, _⟩ rfl (fun K' hK => ?_)
                  rw [if_pos (by rfl)]
                  go_simp
                  refine hK.out _ _ ⟨_, hF.pure hok hla hpre rfl (Below.refl _ _), ?fr⟩
                  case fr => simp only [putO, layL]
                · replace hge : 13 ≤ i := hgt
                  clear hgt
                  obtain rfl := eqi hi hge
                  have p9 := hpre 9 (by kernel_rfl)
                  have e9 : s9 = .bool true := hF.get 9 _ rfl (.inr p9)
                  subst e9
                  have hcc := (nine_at (keep_block H16.out (below_none hF.low))).1
                  have cH160 := hcc.1
                  have cH161 := hcc.2.1
                  have cH162 := hcc.2.2.1
                  have cH163 := hcc.2.2.2.1
                  have cH164 := hcc.2.2.2.2.1
                  have cH165 := hcc.2.2.2.2.2.1
                  have cH166 := hcc.2.2.2.2.2.2.1
                  have cH167 := hcc.2.2.2.2.2.2.2.1
                  have cH168 := hcc.2.2.2.2.2.2.2.2
                  clear hcc
                  refine step_of ⟨some 91, _, _, _, _, _⟩ rfl (fun K' hK => ?_)
                  rw [if_pos (by rfl)]
                  go_simp
                  refine hK.out _ _ ⟨_, hF.pure hok hla hpre rfl (Below.refl _ _), ?fr⟩
                  case fr => simp only [putO, layL]
              · replace hge : 14 ≤ i := hgt
                clear hgt
                rcases Nat.lt_or_ge i 15 with hlt | hgt
                · replace hi := hlt
                  clear hlt
                  obtain rfl := eqi hi hge
                  have p9 := hpre 9 (by kernel_rfl)
                  have e9 : s9 = .bool true := hF.get 9 _ rfl (.inr p9)
                  subst e9
                  have hcc := (nine_at (keep_block H17.out (below_none hF.low))).1
                  have cH170 := hcc.1
                  have cH171 := hcc.2.1
                  have cH172 := hcc.2.2.1
                  have cH173 := hcc.2.2.2.1
                  have cH174 := hcc.2.2.2.2.1
                  have cH175 := hcc.2.2.2.2.2.1
                  have cH176 := hcc.2.2.2.2.2.2.1
                  have cH177 := hcc.2.2.2.2.2.2.2.1
                  have cH178 := hcc.2.2.2.2.2.2.2.2
                  clear hcc
                  refine step_of ⟨some 92, _, _, _, _, _⟩ rfl (fun K' hK => ?_)
                  rw [if_pos (by rfl)]
                  go_simp
                  refine hK.out _ _ ⟨_, hF.pure hok hla hpre rfl (Below.refl _ _), ?fr⟩
                  case fr => simp only [putO, layL]
                · replace hge : 15 ≤ i := hgt
                  clear hgt
                  rcases Nat.lt_or_ge i 16 with hlt | hgt
                  · replace hi := hlt
                    clear hlt
                    obtain rfl := eqi hi hge
                    have p10 := hpre 10 (by kernel_rfl)
                    have e10 : s10 = .agg #[.int .i64 1, .string (numS R), .string (denS R), .string { data := #[] }, .bool false, .int .i64 0, .int .i64 0, .int .i64 0, .slice none 0 0] := hF.get 10 _ rfl (.inr p10)
                    subst e10
                    have p11 := hpre 11 (by kernel_rfl)
                    have e11 : s11 = .agg #[.int .i64 1, .string (numS N), .string (denS N), .string { data := #[] }, .bool false, .int .i64 0, .int .i64 0, .int .i64 0, .slice none 0 0] := hF.get 11 _ rfl (.inr p11)
                    subst e11
                    have p12 := hpre 12 (by kernel_rfl)
                    have e12 : s12 = .agg #[.int .i64 1, .string (numS X), .string (denS X), .string { data := #[] }, .bool false, .int .i64 0, .int .i64 0, .int .i64 0, .slice none 0 0] := hF.get 12 _ rfl (.inr p12)
                    subst e12
                    have p13 := hpre 13 (by kernel_rfl)
                    have e13 : s13 = .agg #[.int .i64 1, .string (numS Q), .string (denS Q), .string { data := #[] }, .bool false, .int .i64 0, .int .i64 0, .int .i64 0, .slice none 0 0] := hF.get 13 _ rfl (.inr p13)
                    subst e13
                    have p14 := hpre 14 (by kernel_rfl)
                    have e14 : s14 = .agg #[.int .i64 1, .string (numS E), .string (denS E), .string { data := #[] }, .bool false, .int .i64 0, .int .i64 0, .int .i64 0, .slice none 0 0] := hF.get 14 _ rfl (.inr p14)
                    subst e14
                    have p9 := hpre 9 (by kernel_rfl)
                    have e9 : s9 = .bool true := hF.get 9 _ rfl (.inr p9)
                    subst e9
                    refine step_of ⟨some 93, _, _, _, _, _⟩ rfl (fun K' hK => ?_)
                    rw [if_pos (by rfl)]
                    go_simp
                    refine hK.out _ _ ⟨_, hF.row hok hla hpre rfl, ?fr⟩
                    case fr => simp only [putO, layL]
                  · replace hge : 16 ≤ i := hgt
                    clear hgt
                    obtain rfl := eqi hi hge
                    have p15 := hpre 15 (by kernel_rfl)
                    obtain ⟨G, eG, _, hGB⟩ : ∃ G, s15 = .slice (some ⟨G, 0, none⟩) 5 5 ∧ _ ≤ G ∧ Wr.heap[G]? = some (.cells #[.int .i64 1, .string (numS R), .string (denS R), .string { data := #[] }, .bool false, .int .i64 0, .int .i64 0, .int .i64 0, .slice none 0 0, .int .i64 1, .string (numS N), .string (denS N), .string { data := #[] }, .bool false, .int .i64 0, .int .i64 0, .int .i64 0, .slice none 0 0, .int .i64 1, .string (numS X), .string (denS X), .string { data := #[] }, .bool false, .int .i64 0, .int .i64 0, .int .i64 0, .slice none 0 0, .int .i64 1, .string (numS Q), .string (denS Q), .string { data := #[] }, .bool false, .int .i64 0, .int .i64 0, .int .i64 0, .slice none 0 0, .int .i64 1, .string (numS E), .string (denS E), .string { data := #[] }, .bool false, .int .i64 0, .int .i64 0, .int .i64 0, .slice none 0 0] 30 (0, 0)) := hF.get 15 _ rfl (.inr p15)
                    subst eG
                    have p9 := hpre 9 (by kernel_rfl)
                    have e9 : s9 = .bool true := hF.get 9 _ rfl (.inr p9)
                    subst e9
                    refine step_of ⟨some 94, _, _, _, _, _⟩ rfl (fun K' hK => ?_)
                    rw [if_pos (by rfl)]
                    go_simp
                    go_at_call 13
                    (with_reducible refine (Qr5.out _ _ hGB (HE.out.below (below_none hF.low))).mono ?_)
                    rintro e Wq ⟨rfl, hq⟩
                    refine hK.out _ _ ⟨_, hF.pure hok hla hpre rfl hq, ?fr⟩
                    case fr => simp only [putO, layL]
        · replace hge : 17 ≤ i := hgt
          clear hgt
          rcases Nat.lt_or_ge i 26 with hlt | hgt
          · replace hi := hlt
            clear hlt
            rcases Nat.lt_or_ge i 21 with hlt | hgt
            · replace hi := hlt
              clear hlt
              rcases Nat.lt_or_ge i 19 with hlt | hgt
              · replace hi := hlt
                clear hlt
                rcases Nat.lt_or_ge i 18 with hlt | hgt
                · replace hi := hlt
                  clear hlt
                  obtain rfl := eqi hi hge
                  have p9 := hpre 9 (by kernel_rfl)
                  have e9 : s9 = .bool true := hF.get 9 _ rfl (.inr p9)
                  subst e9
                  have hcc := (nine_at (keep_block H15.out (below_none hF.low))).1
                  have cH150 := hcc.1
                  have cH151 := hcc.2.1
                  have cH152 := hcc.2.2.1
                  have cH153 := hcc.2.2.2.1
                  have cH154 := hcc.2.2.2.2.1
                  have cH155 := hcc.2.2.2.2.2.1
                  have cH156 := hcc.2.2.2.2.2.2.1
                  have cH157 := hcc.2.2.2.2.2.2.2.1
                  have cH158 := hcc.2.2.2.2.2.2.2.2
                  clear hcc
                  refine step_of ⟨some 95, _, _, _, _, _⟩ rfl (fun K' hK => ?_)
                  rw [if_pos (by rfl)]
                  go_simp
                  refine hK.out _ _ ⟨_, hF.pure hok hla hpre rfl (Below.refl _ _), ?fr⟩
                  case fr => simp only [putO, layL]
                · replace hge : 18 ≤ i := hgt
                  clear hgt
                  obtain rfl := eqi hi hge
                  have p16 := hpre 16 (by kernel_rfl)
                  have e16 : s16 = .agg #[.int .i64 1, .string (numS P), .string (denS P), .string { data := #[] }, .bool false, .int .i64 0, .int .i64 0, .int .i64 0, .slice none 0 0] := hF.get 16 _ rfl (.inr p16)
                  subst e16
                  have p17 := hpre 17 (by kernel_rfl)
                  have e17 : s17 = .agg #[.int .i64 1, .string (numS P), .string (denS P), .string { data := #[] }, .bool false, .int .i64 0, .int .i64 0, .int .i64 0, .slice none 0 0] := hF.get 17 _ rfl (.inr p17)
                  subst e17
                  have p9 := hpre 9 (by kernel_rfl)
                  have e9 : s9 = .bool true := hF.get 9 _ rfl (.inr p9)
                  subst e9
                  refine step_of ⟨some 96, _, _, _, _, _⟩ rfl (fun K' hK => ?_)
                  rw [if_pos (by rfl)]
                  go_simp
                  go_at_call 14
                  (with_reducible refine (RS.out P _).mono ?_)
                  rintro e Wq ⟨rfl, hq⟩
                  refine hK.out _ _ ⟨_, hF.pure hok hla hpre rfl hq, ?fr⟩
                  case fr => simp only [putO, layL]
              · replace hge : 19 ≤ i := hgt
                clear hgt
                rcases Nat.lt_or_ge i 20 with hlt | hgt
                · replace hi := hlt
                  clear hlt
                  obtain rfl := eqi hi hge
                  have p9 := hpre 9 (by kernel_rfl)
                  have e9 : s9 = .bool true := hF.get 9 _ rfl (.inr p9)
                  subst e9
                  have p18 := hpre 18 (by kernel_rfl)
                  have e18 : s18 = .bool true := hF.get 18 _ rfl (.inr p18)
                  subst e18
                  refine step_of ⟨some 97, _, _, _, _, _⟩ rfl (fun K' hK => ?_)
                  go_simp
                  refine hK.out _ _ ⟨_, hF.pure hok hla hpre rfl (Below.refl _ _), ?fr⟩
                  case fr => simp only [putO, layL]
                · replace hge : 20 ≤ i := hgt
                  clear hgt
                  obtain rfl := eqi hi hge
                  have p19 := hpre 19 (by kernel_rfl)
                  have e19 : s19 = .bool true := hF.get 19 _ rfl (.inr p19)
                  subst e19
                  refine step_of ⟨some 98, _, _, _, _, _⟩ rfl (fun K' hK => ?_)
                  go_simp
                  refine hK.out _ _ ⟨_, hF.pure hok hla hpre rfl (Below.refl _ _), ?fr⟩
                  case fr => simp only [putO, layL]
            · replace hge : 21 ≤ i := hgt
              clear hgt
              rcases Nat.lt_or_ge i 23 with hlt | hgt
              · replace hi := hlt
                clear hlt
                rcases Nat.lt_or_ge i 22 with hlt | hgt
                · replace hi := hlt
                  clear hlt
                  obtain rfl := eqi hi hge
                  have p20 := hpre 20 (by kernel_rfl)
                  have e20 : s20 = .bool true := hF.get 20 _ rfl (.inr p20)
                  subst e20
                  have hcc := (nine_at (keep_block H19.out (below_none hF.low))).1
                  have cH190 := hcc.1
                  have cH191 := hcc.2.1
                  have cH192 := hcc.2.2.1
                  have cH193 := hcc.2.2.2.1
                  have cH194 := hcc.2.2.2.2.1
                  have cH195 := hcc.2.2.2.2.2.1
                  have cH196 := hcc.2.2.2.2.2.2.1
                  have cH197 := hcc.2.2.2.2.2.2.2.1
                  have cH198 := hcc.2.2.2.2.2.2.2.2
                  clear hcc
                  refine step_of ⟨some 99, _, _, _, _, _⟩ rfl (fun K' hK => ?_)
                  rw [if_pos (by rfl)]
                  go_simp
                  refine hK.out _ _ ⟨_, hF.pure hok hla hpre rfl (Below.refl _ _), ?fr⟩
                  case fr => simp only [putO, layL]
                · replace hge : 22 ≤ i := hgt
                  clear hgt
                  obtain rfl := eqi hi hge
                  have p20 := hpre 20 (by kernel_rfl)
                  have e20 : s20 = .bool true := hF.get 20 _ rfl (.inr p20)
                  subst e20
                  have hcc := (nine_at (keep_block H20.out (below_none hF.low))).1
                  have cH200 := hcc.1
                  have cH201 := hcc.2.1
                  have cH202 := hcc.2.2.1
                  have cH203 := hcc.2.2.2.1
                  have cH204 := hcc.2.2.2.2.1
                  have cH205 := hcc.2.2.2.2.2.1
                  have cH206 := hcc.2.2.2.2.2.2.1
                  have cH207 := hcc.2.2.2.2.2.2.2.1
                  have cH208 := hcc.2.2.2.2.2.2.2.2
                  clear hcc
                  refine step_of ⟨some 100, _, _, _, _, _⟩ rfl (fun K' hK => ?_)
                  rw [if_pos (by rfl)]
                  go_simp
                  refine hK.out _ _ ⟨_, hF.pure hok hla hpre rfl (Below.refl _ _), ?fr⟩
                  case fr => simp only [putO, layL]
              · replace hge : 23 ≤ i := hgt
                clear hgt
                rcases Nat.lt_or_ge i 24 with hlt | hgt
                · replace hi := hlt
                  clear hlt
                  obtain rfl := eqi hi hge
                  have p21 := hpre 21 (by kernel_rfl)
                  have e21 : s21 = .agg #[.int .i64 1, .string (numS I), .string (denS I), .string { data := #[] }, .bool false, .int .i64 0, .int .i64 0, .int .i64 0, .slice none 0 0] := hF.get 21 _ rfl (.inr p21)
                  subst e21
                  have p22 := hpre 22 (by kernel_rfl)
                  have e22 : s22 = .agg #[.int .i64 1, .string (numS J), .string (denS J), .string { data := #[] }, .bool false, .int .i64 0, .int .i64 0, .int .i64 0, .slice none 0 0] := hF.get 22 _ rfl (.inr p22)
                  subst e22
                  have p20 := hpre 20 (by kernel_rfl)
                  have e20 : s20 = .bool true := hF.get 20 _ rfl (.inr p20)
                  subst e20
                  refine step_of ⟨some 101, _, _, _, _, _⟩ rfl (fun K' hK => ?_)
                  rw [if_pos (by rfl)]
                  go_simp
                  go_at_call 15
                  (with_reducible refine (QtX.out _ (HE.out.below (below_none hF.low))).mono ?_)
                  rintro e Wq ⟨rfl, hq⟩
                  refine hK.out _ _ ⟨_, hF.pure hok hla hpre rfl hq, ?fr⟩
                  case fr => simp only [putO, layL]
                · replace hge : 24 ≤ i := hgt
                  clear hgt
                  rcases Nat.lt_or_ge i 25 with hlt | hgt
                  · replace hi := hlt
                    clear hlt
                    obtain rfl := eqi hi hge
                    have p20 := hpre 20 (by kernel_rfl)
                    have e20 : s20 = .bool true := hF.get 20 _ rfl (.inr p20)
                    subst e20
                    have hcc := (nine_at (keep_block H18.out (below_none hF.low))).1
                    have cH180 := hcc.1
                    have cH181 := hcc.2.1
                    have cH182 := hcc.2.2.1
                    have cH183 := hcc.2.2.2.1
                    have cH184 := hcc.2.2.2.2.1
                    have cH185 := hcc.2.2.2.2.2.1
                    have cH186 := hcc.2.2.2.2.2.2.1
                    have cH187 := hcc.2.2.2.2.2.2.2.1
                    have cH188 := hcc.2.2.2.2.2.2.2.2
                    clear hcc
                    refine step_of ⟨some 102, _, _, _, _, _⟩ rfl (fun K' hK => ?_)
                    rw [if_pos (by rfl)]
                    go_simp
                    refine hK.out _ _ ⟨_, hF.pure hok hla hpre rfl (Below.refl _ _), ?fr⟩
                    case fr => simp only [putO, layL]
                  · replace hge : 25 ≤ i := hgt
                    clear hgt
                    obtain rfl := eqi hi hge
                    have p23 := hpre 23 (by kernel_rfl)
                    have e23 : s23 = .agg #[.int .i64 1, .string (numS X), .string (denS X), .string { data := #[] }, .bool false, .int .i64 0, .int .i64 0, .int .i64 0, .slice none 0 0] := hF.get 23 _ rfl (.inr p23)
                    subst e23
                    have p24 := hpre 24 (by kernel_rfl)
                    have e24 : s24 = .agg #[.int .i64 1, .string (numS X), .string (denS X), .string { data := #[] }, .bool false, .int .i64 0, .int .i64 0, .int .i64 0, .slice none 0 0] := hF.get 24 _ rfl (.inr p24)
                    subst e24
                    have p20 := hpre 20 (by kernel_rfl)
                    have e20 : s20 = .bool true := hF.get 20 _ rfl (.inr p20)
                    subst e20
                    refine step_of ⟨some 103, _, _, _, _, _⟩ rfl (fun K' hK => ?_)
                    rw [if_pos (by rfl)]
                    go_simp
                    go_at_call 14
                    (with_reducible refine (RS.out X _).mono ?_)
                    rintro e Wq ⟨rfl, hq⟩
                    refine hK.out _ _ ⟨_, hF.pure hok hla hpre rfl hq, ?fr⟩
                    case fr => simp only [putO, layL]
          · replace hge : 26 ≤ i := hgt
            clear hgt
            rcases Nat.lt_or_ge i 30 with hlt | hgt
            · replace hi := hlt
              clear hlt
              rcases Nat.lt_or_ge i 28 with hlt | hgt
              · replace hi := hlt
                clear hlt
                rcases Nat.lt_or_ge i 27 with hlt | hgt
                · replace hi := hlt
                  clear hlt
                  obtain rfl := eqi hi hge
                  have p20 := hpre 20 (by kernel_rfl)
                  have e20 : s20 = .bool true := hF.get 20 _ rfl (.inr p20)
                  subst e20
                  have p25 := hpre 25 (by kernel_rfl)
                  have e25 : s25 = .bool true := hF.get 25 _ rfl (.inr p25)
                  subst e25
                  refine step_of ⟨some 104, _, _, _, _, _⟩ rfl (fun K' hK => ?_)
                  go_simp
                  refine hK.out _ _ ⟨_, hF.pure hok hla hpre rfl (Below.refl _ _), ?fr⟩
                  case fr => simp only [putO, layL]
                · replace hge : 27 ≤ i := hgt
                  clear hgt
                  obtain rfl := eqi hi hge
                  have p26 := hpre 26 (by kernel_rfl)
                  have e26 : s26 = .bool true := hF.get 26 _ rfl (.inr p26)
                  subst e26
                  refine step_of ⟨some 105, _, _, _, _, _⟩ rfl (fun K' hK => ?_)
                  go_simp
                  refine hK.out _ _ ⟨_, hF.pure hok hla hpre rfl (Below.refl _ _), ?fr⟩
                  case fr => simp only [putO, layL]
              · replace hge : 28 ≤ i := hgt
                clear hgt
                rcases Nat.lt_or_ge i 29 with hlt | hgt
                · replace hi := hlt
                  clear hlt
                  obtain rfl := eqi hi hge
                  have p27 := hpre 27 (by kernel_rfl)
                  have e27 : s27 = .bool true := hF.get 27 _ rfl (.inr p27)
                  subst e27
                  have hcc := (nine_at (keep_block H22.out (below_none hF.low))).1
                  have cH220 := hcc.1
                  have cH221 := hcc.2.1
                  have cH222 := hcc.2.2.1
                  have cH223 := hcc.2.2.2.1
                  have cH224 := hcc.2.2.2.2.1
                  have cH225 := hcc.2.2.2.2.2.1
                  have cH226 := hcc.2.2.2.2.2.2.1
                  have cH227 := hcc.2.2.2.2.2.2.2.1
                  have cH228 := hcc.2.2.2.2.2.2.2.2
                  clear hcc
                  refine step_of ⟨some 106, _, _, _, _, _⟩ rfl (fun K' hK => ?_)
                  rw [if_pos (by rfl)]
                  go_simp
                  refine hK.out _ _ ⟨_, hF.pure hok hla hpre rfl (Below.refl _ _), ?fr⟩
                  case fr => simp only [putO, layL]
                · replace hge : 29 ≤ i := hgt
                  clear hgt
                  obtain rfl := eqi hi hge
                  have p27 := hpre 27 (by kernel_rfl)
                  have e27 : s27 = .bool true := hF.get 27 _ rfl (.inr p27)
                  subst e27
                  have hcc := (nine_at (keep_block H15.out (below_none hF.low))).1
                  have cH150 := hcc.1
                  have cH151 := hcc.2.1
                  have cH152 := hcc.2.2.1
                  have cH153 := hcc.2.2.2.1
                  have cH154 := hcc.2.2.2.2.1
                  have cH155 := hcc.2.2.2.2.2.1
                  have cH156 := hcc.2.2.2.2.2.2.1
                  have cH157 := hcc.2.2.2.2.2.2.2.1
                  have cH158 := hcc.2.2.2.2.2.2.2.2
                  clear hcc
                  refine step_of ⟨some 107, _, _, _, _, _⟩ rfl (fun K' hK => ?_)
                  rw [if_pos (by rfl)]
                  go_simp
                  refine hK.out _ _ ⟨_, hF.pure hok hla hpre rfl (Below.refl _ _), ?fr⟩
                  case fr => simp only [putO, layL]
            · replace hge : 30 ≤ i := hgt
              clear hgt
              rcases Nat.lt_or_ge i 32 with hlt | hgt
              · replace hi := hlt
                clear hlt
                rcases Nat.lt_or_ge i 31 with hlt | hgt
                · replace hi := hlt
                  clear hlt
                  obtain rfl := eqi hi hge
                  have p28 := hpre 28 (by kernel_rfl)
                  have e28 : s28 = .agg #[.int .i64 1, .string (numS S), .string (denS S), .string { data := #[] }, .bool false, .int .i64 0, .int .i64 0, .int .i64 0, .slice none 0 0] := hF.get 28 _ rfl (.inr p28)
                  subst e28
                  have p29 := hpre 29 (by kernel_rfl)
                  have e29 : s29 = .agg #[.int .i64 1, .string (numS P), .string (denS P), .string { data := #[] }, .bool false, .int .i64 0, .int .i64 0, .int .i64 0, .slice none 0 0] := hF.get 29 _ rfl (.inr p29)
                  subst e29
                  have p27 := hpre 27 (by kernel_rfl)
                  have e27 : s27 = .bool true := hF.get 27 _ rfl (.inr p27)
                  subst e27
                  refine step_of ⟨some 108, _, _, _, _, _⟩ rfl (fun K' hK => ?_)
                  rw [if_pos (by rfl)]
                  go_simp
                  go_at_call 15
                  (with_reducible refine (QtS.out _ (HE.out.below (below_none hF.low))).mono ?_)
                  rintro e Wq ⟨rfl, hq⟩
                  refine hK.out _ _ ⟨_, hF.pure hok hla hpre rfl hq, ?fr⟩
                  case fr => simp only [putO, layL]
                · replace hge : 31 ≤ i := hgt
                  clear hgt
                  obtain rfl := eqi hi hge
                  have p27 := hpre 27 (by kernel_rfl)
                  have e27 : s27 = .bool true := hF.get 27 _ rfl (.inr p27)
                  subst e27
                  have hcc := (nine_at (keep_block H21.out (below_none hF.low))).1
                  have cH210 := hcc.1
                  have cH211 := hcc.2.1
                  have cH212 := hcc.2.2.1
                  have cH213 := hcc.2.2.2.1
                  have cH214 := hcc.2.2.2.2.1
                  have cH215 := hcc.2.2.2.2.2.1
                  have cH216 := hcc.2.2.2.2.2.2.1
                  have cH217 := hcc.2.2.2.2.2.2.2.1
                  have cH218 := hcc.2.2.2.2.2.2.2.2
                  clear hcc
                  refine step_of ⟨some 109, _, _, _, _, _⟩ rfl (fun K' hK => ?_)
                  rw [if_pos (by rfl)]
                  go_simp
                  refine hK.out _ _ ⟨_, hF.pure hok hla hpre rfl (Below.refl _ _), ?fr⟩
                  case fr => simp only [putO, layL]
              · replace hge : 32 ≤ i := hgt
                clear hgt
                rcases Nat.lt_or_ge i 33 with hlt | hgt
                · replace hi := hlt
                  clear hlt
                  obtain rfl := eqi hi hge
                  have p30 := hpre 30 (by kernel_rfl)
                  have e30 : s30 = .agg #[.int .i64 1, .string (numS Ze), .string (denS Ze), .string { data := #[] }, .bool false, .int .i64 0, .int .i64 0, .int .i64 0, .slice none 0 0] := hF.get 30 _ rfl (.inr p30)
                  subst e30
                  have p31 := hpre 31 (by kernel_rfl)
                  have e31 : s31 = .agg #[.int .i64 1, .string (numS Ze), .string (denS Ze), .string { data := #[] }, .bool false, .int .i64 0, .int .i64 0, .int .i64 0, .slice none 0 0] := hF.get 31 _ rfl (.inr p31)
                  subst e31
                  have p27 := hpre 27 (by kernel_rfl)
                  have e27 : s27 = .bool true := hF.get 27 _ rfl (.inr p27)
                  subst e27
                  refine step_of ⟨some 110, _, _, _, _, _⟩ rfl (fun K' hK => ?_)
                  rw [if_pos (by rfl)]
                  go_simp
                  go_at_call 14
                  (with_reducible refine (RS.out Ze _).mono ?_)
                  rintro e Wq ⟨rfl, hq⟩
                  refine hK.out _ _ ⟨_, hF.pure hok hla hpre rfl hq, ?fr⟩
                  case fr => simp only [putO, layL]
                · replace hge : 33 ≤ i := hgt
                  clear hgt
                  rcases Nat.lt_or_ge i 34 with hlt | hgt
                  · replace hi := hlt
                    clear hlt
                    obtain rfl := eqi hi hge
                    have p27 := hpre 27 (by kernel_rfl)
                    have e27 : s27 = .bool true := hF.get 27 _ rfl (.inr p27)
                    subst e27
                    have p32 := hpre 32 (by kernel_rfl)
                    have e32 : s32 = .bool true := hF.get 32 _ rfl (.inr p32)
                    subst e32
                    refine step_of ⟨some 111, _, _, _, _, _⟩ rfl (fun K' hK => ?_)
                    go_simp
                    refine hK.out _ _ ⟨_, hF.pure hok hla hpre rfl (Below.refl _ _), ?fr⟩
                    case fr => simp only [putO, layL]
                  · replace hge : 34 ≤ i := hgt
                    clear hgt
                    obtain rfl := eqi hi hge
                    have p33 := hpre 33 (by kernel_rfl)
                    have e33 : s33 = .bool true := hF.get 33 _ rfl (.inr p33)
                    subst e33
                    refine step_of ⟨some 10, _, _, _, _, _⟩ rfl (fun K' hK => ?_)
                    go_simp
                    refine hK.out _ _ ⟨_, hF.pure hok hla hpre rfl (Below.refl _ _), ?fr⟩
                    case fr => simp only [putO, layL]
      case hd =>
        rintro listed vs WD hF hall
        obtain ⟨s0, s1, s2, s3, s4, s5, s6, s7, s8, s9, s10, s11, s12, s13, s14, s15, s16, s17, s18, s19, s20, s21, s22, s23, s24, s25, s26, s27, s28, s29, s30, s31, s32, s33, s34, hvs⟩ := exl_of 35 vs (fun l => vs = l) hF.len rfl
        subst hvs
        have e34 : s34 = .bool true := hF.get 34 _ rfl (.inr (hall 34 (by decide)))
        subst e34
        have hq := below_none hF.low
        replace HE := Lib.hid (HE.out.below hq)
        replace HL := Lib.hid (HL.out.trans (hq.mono HL.out.size))
        replace H11 := Lib.hid (keep_block H11.out hq)
        replace H13 := Lib.hid (keep_block H13.out hq)
        replace H14 := Lib.hid (keep_block H14.out hq)
        replace H15 := Lib.hid (keep_block H15.out hq)
        replace H16 := Lib.hid (keep_block H16.out hq)
        replace H17 := Lib.hid (keep_block H17.out hq)
        replace H18 := Lib.hid (keep_block H18.out hq)
        replace H19 := Lib.hid (keep_block H19.out hq)
        replace H20 := Lib.hid (keep_block H20.out hq)
        replace H21 := Lib.hid (keep_block H21.out hq)
        replace H22 := Lib.hid (keep_block H22.out hq)
        clear hq
        clear hF hall hok hna hla
        simp only [putO, layL]
        go_wp2
        go_ret
        exact ⟨rfl, HL.out⟩

end Go.Proofs.YtphfefmlappidaaGreatDoor.Num.Fy
