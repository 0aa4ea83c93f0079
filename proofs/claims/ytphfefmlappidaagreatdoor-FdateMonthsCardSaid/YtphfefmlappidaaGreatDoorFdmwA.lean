/- Numbers as texts of digits, fractions, values and the functions of fmath: contracts of the program's functions, joined from smaller texts. Conditions stand at each theorem. -/
import Derived.Test.YtphfefmlappidaaGreatDoorFdcD

/- The law FdateMonths' own walk. Conditions: the tables lie as they are laid. -/
namespace Go.Proofs.YtphfefmlappidaaGreatDoor.Num.Fd
open Go.RowKit Go.Lib Num

set_option linter.unusedVariables false in
/-- what the operations of region 3 yield -/
def MoKs3 (m k c : Int) (D K K1 O E X F on ze Me DA : Rat) : List RK :=
  [.pure (.agg #[.int .i64 1, .string (numS D), .string (denS D), .string { data := #[] }, .bool false, .int .i64 0, .int .i64 0, .int .i64 0, .slice none 0 0]),
   .pure (.int .i64 k),
   .pure (.agg #[.int .i64 1, .string (numS K), .string (denS K), .string { data := #[] }, .bool false, .int .i64 0, .int .i64 0, .int .i64 0, .slice none 0 0]),
   .row #[.int .i64 1, .string (numS D), .string (denS D), .string { data := #[] }, .bool false, .int .i64 0, .int .i64 0, .int .i64 0, .slice none 0 0, .int .i64 1, .string (numS K), .string (denS K), .string { data := #[] }, .bool false, .int .i64 0, .int .i64 0, .int .i64 0, .slice none 0 0] 30 2,
   .pure (.agg #[.int .i64 1, .string (numS O), .string (denS O), .string { data := #[] }, .bool false, .int .i64 0, .int .i64 0, .int .i64 0, .slice none 0 0]),
   .box none #[.int .i64 0, .string { data := #[] }, .string { data := #[] }, .string { data := #[] }, .bool false, .int .i64 0, .int .i64 0, .int .i64 0, .slice none 0 0] #[.int .i64 1, .string (numS O), .string (denS O), .string { data := #[] }, .bool false, .int .i64 0, .int .i64 0, .int .i64 0, .slice none 0 0] 30 6,
   .put 5]
set_option linter.unusedVariables false in
/-- what the operations of region 4 yield -/
def MoKs4 (m k c : Int) (D K K1 O E X F on ze Me DA : Rat) : List RK :=
  [.pure (.agg #[.int .i64 1, .string (numS D), .string (denS D), .string { data := #[] }, .bool false, .int .i64 0, .int .i64 0, .int .i64 0, .slice none 0 0]),
   .pure (.int .i64 k),
   .pure (.agg #[.int .i64 1, .string (numS K), .string (denS K), .string { data := #[] }, .bool false, .int .i64 0, .int .i64 0, .int .i64 0, .slice none 0 0]),
   .row #[.int .i64 1, .string (numS D), .string (denS D), .string { data := #[] }, .bool false, .int .i64 0, .int .i64 0, .int .i64 0, .slice none 0 0, .int .i64 1, .string (numS K), .string (denS K), .string { data := #[] }, .bool false, .int .i64 0, .int .i64 0, .int .i64 0, .slice none 0 0] 30 2,
   .pure (.agg #[.int .i64 1, .string (numS E), .string (denS E), .string { data := #[] }, .bool false, .int .i64 0, .int .i64 0, .int .i64 0, .slice none 0 0]),
   .box none #[.int .i64 0, .string { data := #[] }, .string { data := #[] }, .string { data := #[] }, .bool false, .int .i64 0, .int .i64 0, .int .i64 0, .slice none 0 0] #[.int .i64 1, .string (numS E), .string (denS E), .string { data := #[] }, .bool false, .int .i64 0, .int .i64 0, .int .i64 0, .slice none 0 0] 30 6,
   .put 5]
set_option linter.unusedVariables false in
/-- what the operations of region 5 yield -/
def MoKs5 (m k c : Int) (D K K1 O E X F on ze Me DA : Rat) : List RK :=
  [.pure (.agg #[.int .i64 1, .string (numS D), .string (denS D), .string { data := #[] }, .bool false, .int .i64 0, .int .i64 0, .int .i64 0, .slice none 0 0]),
   .pure (.int .i64 k),
   .pure (.int .i64 (k + 1)),
   .pure (.agg #[.int .i64 1, .string (numS K1), .string (denS K1), .string { data := #[] }, .bool false, .int .i64 0, .int .i64 0, .int .i64 0, .slice none 0 0]),
   .row #[.int .i64 1, .string (numS D), .string (denS D), .string { data := #[] }, .bool false, .int .i64 0, .int .i64 0, .int .i64 0, .slice none 0 0, .int .i64 1, .string (numS K1), .string (denS K1), .string { data := #[] }, .bool false, .int .i64 0, .int .i64 0, .int .i64 0, .slice none 0 0] 30 2,
   .pure (.agg #[.int .i64 1, .string (numS X), .string (denS X), .string { data := #[] }, .bool false, .int .i64 0, .int .i64 0, .int .i64 0, .slice none 0 0]),
   .box none #[.int .i64 0, .string { data := #[] }, .string { data := #[] }, .string { data := #[] }, .bool false, .int .i64 0, .int .i64 0, .int .i64 0, .slice none 0 0] #[.int .i64 1, .string (numS X), .string (denS X), .string { data := #[] }, .bool false, .int .i64 0, .int .i64 0, .int .i64 0, .slice none 0 0] 30 7,
   .put 6]
set_option linter.unusedVariables false in
/-- what the operations of region 8 yield -/
def MoKs8 (m k c : Int) (D K K1 O E X F on ze Me DA : Rat) : List RK :=
  [.pure (.agg #[.int .i64 1, .string (numS E), .string (denS E), .string { data := #[] }, .bool false, .int .i64 0, .int .i64 0, .int .i64 0, .slice none 0 0]),
   .pure (.agg #[.int .i64 1, .string (numS on), .string (denS on), .string { data := #[] }, .bool false, .int .i64 0, .int .i64 0, .int .i64 0, .slice none 0 0]),
   .pure (.agg #[.int .i64 1, .string (numS F), .string (denS F), .string { data := #[] }, .bool false, .int .i64 0, .int .i64 0, .int .i64 0, .slice none 0 0]),
   .box none #[.int .i64 0, .string { data := #[] }, .string { data := #[] }, .string { data := #[] }, .bool false, .int .i64 0, .int .i64 0, .int .i64 0, .slice none 0 0] #[.int .i64 1, .string (numS F), .string (denS F), .string { data := #[] }, .bool false, .int .i64 0, .int .i64 0, .int .i64 0, .slice none 0 0] 30 4,
   .put 3]
set_option linter.unusedVariables false in
/-- what the operations of region 10 yield -/
def MoKs10 (m k c : Int) (D K K1 O E X F on ze Me DA : Rat) : List RK :=
  [.pure (.int .i64 c),
   .pure (.bool true),
   .pure (.bool true),
   .pure (.agg #[.int .i64 1, .string (numS F), .string (denS F), .string { data := #[] }, .bool false, .int .i64 0, .int .i64 0, .int .i64 0, .slice none 0 0]),
   .row #[.int .i64 1, .string (numS F), .string (denS F), .string { data := #[] }, .bool false, .int .i64 0, .int .i64 0, .int .i64 0, .slice none 0 0] 30 1,
   .pure (.agg #[.int .i64 1, .string (numS on), .string (denS on), .string { data := #[] }, .bool false, .int .i64 0, .int .i64 0, .int .i64 0, .slice none 0 0]),
   .pure (.agg #[.int .i64 1, .string (numS on), .string (denS on), .string { data := #[] }, .bool false, .int .i64 0, .int .i64 0, .int .i64 0, .slice none 0 0]),
   .pure (.bool true),
   .pure (.bool true),
   .pure (.bool true),
   .pure (.agg #[.int .i64 1, .string (numS F), .string (denS F), .string { data := #[] }, .bool false, .int .i64 0, .int .i64 0, .int .i64 0, .slice none 0 0]),
   .pure (.agg #[.int .i64 1, .string (numS ze), .string (denS ze), .string { data := #[] }, .bool false, .int .i64 0, .int .i64 0, .int .i64 0, .slice none 0 0]),
   .row #[.int .i64 1, .string (numS F), .string (denS F), .string { data := #[] }, .bool false, .int .i64 0, .int .i64 0, .int .i64 0, .slice none 0 0, .int .i64 1, .string (numS ze), .string (denS ze), .string { data := #[] }, .bool false, .int .i64 0, .int .i64 0, .int .i64 0, .slice none 0 0] 30 2,
   .pure (.agg #[.int .i64 1, .string (numS X), .string (denS X), .string { data := #[] }, .bool false, .int .i64 0, .int .i64 0, .int .i64 0, .slice none 0 0]),
   .pure (.agg #[.int .i64 1, .string (numS X), .string (denS X), .string { data := #[] }, .bool false, .int .i64 0, .int .i64 0, .int .i64 0, .slice none 0 0]),
   .pure (.bool true),
   .pure (.bool true),
   .pure (.bool true),
   .pure (.agg #[.int .i64 1, .string (numS O), .string (denS O), .string { data := #[] }, .bool false, .int .i64 0, .int .i64 0, .int .i64 0, .slice none 0 0]),
   .row #[.int .i64 1, .string (numS O), .string (denS O), .string { data := #[] }, .bool false, .int .i64 0, .int .i64 0, .int .i64 0, .slice none 0 0] 30 1,
   .pure (.agg #[.int .i64 1, .string (numS Me), .string (denS Me), .string { data := #[] }, .bool false, .int .i64 0, .int .i64 0, .int .i64 0, .slice none 0 0]),
   .pure (.agg #[.int .i64 1, .string (numS E), .string (denS E), .string { data := #[] }, .bool false, .int .i64 0, .int .i64 0, .int .i64 0, .slice none 0 0]),
   .row #[.int .i64 1, .string (numS E), .string (denS E), .string { data := #[] }, .bool false, .int .i64 0, .int .i64 0, .int .i64 0, .slice none 0 0] 30 1,
   .pure (.agg #[.int .i64 1, .string (numS Me), .string (denS Me), .string { data := #[] }, .bool false, .int .i64 0, .int .i64 0, .int .i64 0, .slice none 0 0]),
   .pure (.bool true),
   .pure (.bool true),
   .pure (.bool true),
   .pure (.agg #[.int .i64 1, .string (numS D), .string (denS D), .string { data := #[] }, .bool false, .int .i64 0, .int .i64 0, .int .i64 0, .slice none 0 0]),
   .pure (.agg #[.int .i64 1, .string (numS E), .string (denS E), .string { data := #[] }, .bool false, .int .i64 0, .int .i64 0, .int .i64 0, .slice none 0 0]),
   .pure (.agg #[.int .i64 2, .string { data := #[] }, .string { data := #[] }, .string { data := #[68] }, .bool false, .int .i64 0, .int .i64 0, .int .i64 0, .slice none 0 0]),
   .row #[.int .i64 1, .string (numS D), .string (denS D), .string { data := #[] }, .bool false, .int .i64 0, .int .i64 0, .int .i64 0, .slice none 0 0, .int .i64 1, .string (numS E), .string (denS E), .string { data := #[] }, .bool false, .int .i64 0, .int .i64 0, .int .i64 0, .slice none 0 0, .int .i64 2, .string { data := #[] }, .string { data := #[] }, .string { data := #[68] }, .bool false, .int .i64 0, .int .i64 0, .int .i64 0, .slice none 0 0] 30 3,
   .pure (.agg #[.int .i64 1, .string (numS DA), .string (denS DA), .string { data := #[] }, .bool false, .int .i64 0, .int .i64 0, .int .i64 0, .slice none 0 0]),
   .pure (.agg #[.int .i64 1, .string (numS E), .string (denS E), .string { data := #[] }, .bool false, .int .i64 0, .int .i64 0, .int .i64 0, .slice none 0 0]),
   .pure (.agg #[.int .i64 1, .string (numS D), .string (denS D), .string { data := #[] }, .bool false, .int .i64 0, .int .i64 0, .int .i64 0, .slice none 0 0]),
   .row #[.int .i64 1, .string (numS E), .string (denS E), .string { data := #[] }, .bool false, .int .i64 0, .int .i64 0, .int .i64 0, .slice none 0 0, .int .i64 1, .string (numS D), .string (denS D), .string { data := #[] }, .bool false, .int .i64 0, .int .i64 0, .int .i64 0, .slice none 0 0] 30 2,
   .pure (.agg #[.int .i64 1, .string (numS DA), .string (denS DA), .string { data := #[] }, .bool false, .int .i64 0, .int .i64 0, .int .i64 0, .slice none 0 0]),
   .pure (.bool true),
   .pure (.bool true),
   .pure (.bool true)]
attribute [local irreducible] wpOp
set_option linter.unusedSimpArgs false in
set_option linter.unusedVariables false in
set_option maxHeartbeats 16000000 in
set_option maxRecDepth 100000 in
theorem months_walk (n j m k c : Int) (D K K1 O E X F on ze Me DA : Rat) (w : World) (hE : Env w) (hn0 : -9223372036854775808 ≤ n) (hn1 : n ≤ 9223372036854775807) (hs0 : -9223372036854775808 ≤ j) (hs1 : j ≤ 9223372036854775807) (hm : n % 2900000 = m) (ht : j % 400 = k) (hc : c ≤ 0)
    (r0 : DateRow { data := #[69, 68, 65, 84, 69] } #[.int .i64 1, .string (numS D), .string (denS D), .string { data := #[] }, .bool false, .int .i64 0, .int .i64 0, .int .i64 0, .slice none 0 0, .int .i64 1, .string (numS K), .string (denS K), .string { data := #[] }, .bool false, .int .i64 0, .int .i64 0, .int .i64 0, .slice none 0 0] 2 (.agg #[.int .i64 1, .string (numS O), .string (denS O), .string { data := #[] }, .bool false, .int .i64 0, .int .i64 0, .int .i64 0, .slice none 0 0]))
    (r1 : DateRow { data := #[69, 79, 77, 79, 78, 84, 72] } #[.int .i64 1, .string (numS D), .string (denS D), .string { data := #[] }, .bool false, .int .i64 0, .int .i64 0, .int .i64 0, .slice none 0 0, .int .i64 1, .string (numS K), .string (denS K), .string { data := #[] }, .bool false, .int .i64 0, .int .i64 0, .int .i64 0, .slice none 0 0] 2 (.agg #[.int .i64 1, .string (numS E), .string (denS E), .string { data := #[] }, .bool false, .int .i64 0, .int .i64 0, .int .i64 0, .slice none 0 0]))
    (r2 : DateRow { data := #[69, 79, 77, 79, 78, 84, 72] } #[.int .i64 1, .string (numS D), .string (denS D), .string { data := #[] }, .bool false, .int .i64 0, .int .i64 0, .int .i64 0, .slice none 0 0, .int .i64 1, .string (numS K1), .string (denS K1), .string { data := #[] }, .bool false, .int .i64 0, .int .i64 0, .int .i64 0, .slice none 0 0] 2 (.agg #[.int .i64 1, .string (numS X), .string (denS X), .string { data := #[] }, .bool false, .int .i64 0, .int .i64 0, .int .i64 0, .slice none 0 0]))
    (r3 : DateRow { data := #[68, 65, 89] } #[.int .i64 1, .string (numS F), .string (denS F), .string { data := #[] }, .bool false, .int .i64 0, .int .i64 0, .int .i64 0, .slice none 0 0] 1 (.agg #[.int .i64 1, .string (numS on), .string (denS on), .string { data := #[] }, .bool false, .int .i64 0, .int .i64 0, .int .i64 0, .slice none 0 0]))
    (r4 : DateRow { data := #[69, 79, 77, 79, 78, 84, 72] } #[.int .i64 1, .string (numS F), .string (denS F), .string { data := #[] }, .bool false, .int .i64 0, .int .i64 0, .int .i64 0, .slice none 0 0, .int .i64 1, .string (numS ze), .string (denS ze), .string { data := #[] }, .bool false, .int .i64 0, .int .i64 0, .int .i64 0, .slice none 0 0] 2 (.agg #[.int .i64 1, .string (numS X), .string (denS X), .string { data := #[] }, .bool false, .int .i64 0, .int .i64 0, .int .i64 0, .slice none 0 0]))
    (r5 : DateRow { data := #[77, 79, 78, 84, 72] } #[.int .i64 1, .string (numS O), .string (denS O), .string { data := #[] }, .bool false, .int .i64 0, .int .i64 0, .int .i64 0, .slice none 0 0] 1 (.agg #[.int .i64 1, .string (numS Me), .string (denS Me), .string { data := #[] }, .bool false, .int .i64 0, .int .i64 0, .int .i64 0, .slice none 0 0]))
    (r6 : DateRow { data := #[77, 79, 78, 84, 72] } #[.int .i64 1, .string (numS E), .string (denS E), .string { data := #[] }, .bool false, .int .i64 0, .int .i64 0, .int .i64 0, .slice none 0 0] 1 (.agg #[.int .i64 1, .string (numS Me), .string (denS Me), .string { data := #[] }, .bool false, .int .i64 0, .int .i64 0, .int .i64 0, .slice none 0 0]))
    (r7 : DateRow { data := #[68, 65, 84, 69, 68, 73, 70] } #[.int .i64 1, .string (numS D), .string (denS D), .string { data := #[] }, .bool false, .int .i64 0, .int .i64 0, .int .i64 0, .slice none 0 0, .int .i64 1, .string (numS E), .string (denS E), .string { data := #[] }, .bool false, .int .i64 0, .int .i64 0, .int .i64 0, .slice none 0 0, .int .i64 2, .string { data := #[] }, .string { data := #[] }, .string { data := #[68] }, .bool false, .int .i64 0, .int .i64 0, .int .i64 0, .slice none 0 0] 3 (.agg #[.int .i64 1, .string (numS DA), .string (denS DA), .string { data := #[] }, .bool false, .int .i64 0, .int .i64 0, .int .i64 0, .slice none 0 0]))
    (r8 : DateRow { data := #[68, 65, 89, 83] } #[.int .i64 1, .string (numS E), .string (denS E), .string { data := #[] }, .bool false, .int .i64 0, .int .i64 0, .int .i64 0, .slice none 0 0, .int .i64 1, .string (numS D), .string (denS D), .string { data := #[] }, .bool false, .int .i64 0, .int .i64 0, .int .i64 0, .slice none 0 0] 2 (.agg #[.int .i64 1, .string (numS DA), .string (denS DA), .string { data := #[] }, .bool false, .int .i64 0, .int .i64 0, .int .i64 0, .slice none 0 0]))
    (tD : Fun1 11 (.int .i64 (1 + m)) (.agg #[.int .i64 1, .string (numS D), .string (denS D), .string { data := #[] }, .bool false, .int .i64 0, .int .i64 0, .int .i64 0, .slice none 0 0]))
    (tK : Fun1 11 (.int .i64 k) (.agg #[.int .i64 1, .string (numS K), .string (denS K), .string { data := #[] }, .bool false, .int .i64 0, .int .i64 0, .int .i64 0, .slice none 0 0]))
    (tK1 : Fun1 11 (.int .i64 (k + 1)) (.agg #[.int .i64 1, .string (numS K1), .string (denS K1), .string { data := #[] }, .bool false, .int .i64 0, .int .i64 0, .int .i64 0, .slice none 0 0]))
    (ton : Fun1 11 (.int .i64 1) (.agg #[.int .i64 1, .string (numS on), .string (denS on), .string { data := #[] }, .bool false, .int .i64 0, .int .i64 0, .int .i64 0, .slice none 0 0]))
    (tze : Fun1 11 (.int .i64 0) (.agg #[.int .i64 1, .string (numS ze), .string (denS ze), .string { data := #[] }, .bool false, .int .i64 0, .int .i64 0, .int .i64 0, .slice none 0 0]))
    (tT : Fun1 21 (.string { data := #[68] }) (.agg #[.int .i64 2, .string { data := #[] }, .string { data := #[] }, .string { data := #[68] }, .bool false, .int .i64 0, .int .i64 0, .int .i64 0, .slice none 0 0]))
    (tF : Fun2 15 (.agg #[.int .i64 1, .string (numS E), .string (denS E), .string { data := #[] }, .bool false, .int .i64 0, .int .i64 0, .int .i64 0, .slice none 0 0]) (.agg #[.int .i64 1, .string (numS on), .string (denS on), .string { data := #[] }, .bool false, .int .i64 0, .int .i64 0, .int .i64 0, .slice none 0 0]) (.agg #[.int .i64 1, .string (numS F), .string (denS F), .string { data := #[] }, .bool false, .int .i64 0, .int .i64 0, .int .i64 0, .slice none 0 0]))
    (tC : Fun2 17 (.agg #[.int .i64 1, .string (numS O), .string (denS O), .string { data := #[] }, .bool false, .int .i64 0, .int .i64 0, .int .i64 0, .slice none 0 0]) (.agg #[.int .i64 1, .string (numS E), .string (denS E), .string { data := #[] }, .bool false, .int .i64 0, .int .i64 0, .int .i64 0, .slice none 0 0]) (.tuple #[.int .i64 c, .int .i64 0])) :
    Calls Tryz.prog 6 #[.int .i64 n, .int .i64 j] w fun e w' => e = .returned (.bool true) ∧ Below w.heap.size w w' := by
  have TMn := Lib.hid (fun W => kmod_any n 2900000 hn0 hn1 (by decide) (by decide) W)
  rw [hm] at TMn
  have TMs := Lib.hid (fun W => kmod_any j 400 hs0 hs1 (by decide) (by decide) W)
  rw [ht] at TMs
  have hm0 : 0 ≤ m ∧ m ≤ 2899999 := by omega
  have ht0 : 0 ≤ k ∧ k ≤ 399 := by omega
  have Qr0 := Lib.hid (fun W G h g => r0 W G h g)
  have Qr1 := Lib.hid (fun W G h g => r1 W G h g)
  have Qr2 := Lib.hid (fun W G h g => r2 W G h g)
  have Qr3 := Lib.hid (fun W G h g => r3 W G h g)
  have Qr4 := Lib.hid (fun W G h g => r4 W G h g)
  have Qr5 := Lib.hid (fun W G h g => r5 W G h g)
  have Qr6 := Lib.hid (fun W G h g => r6 W G h g)
  have Qr7 := Lib.hid (fun W G h g => r7 W G h g)
  have Qr8 := Lib.hid (fun W G h g => r8 W G h g)
  have QtD := Lib.hid tD
  have QtK := Lib.hid tK
  have QtK1 := Lib.hid tK1
  have Qton := Lib.hid ton
  have Qtze := Lib.hid tze
  have QtT := Lib.hid tT
  have QtF := Lib.hid tF
  have QtC := Lib.hid tC
  have RS := Lib.hid same_one
  have HE := Lib.hid hE
  have HL := Lib.hid (Below.refl w.heap.size w)
  unfold Fun1 at QtD QtK QtK1 Qton Qtze QtT
  unfold Fun2 at QtF  QtC
  have hw1 : IntKind.i64.wrap (k + 1) = k + 1 := IntWalk.i64_in _ (by omega)
  have hdc : decide (c ≤ 0) = true := decide_eq_true hc
  clear hE hm ht hn0 hn1 hs0 hs1 hc r0 r1 r2 r3 r4 r5 r6 r7 r8 tD tK tK1 ton tze tT tF tC
  go_enter Tryz.func6, Tryz.ntmps6
  go_wp2_with fail
  refine (TMn.out _).mono ?_
  rintro e w1 ⟨rfl, rfl⟩
  go_wp2_with fail
  refine (TMs.out _).mono ?_
  rintro e w2 ⟨rfl, rfl⟩
  go_wp2_with fail
  (with_reducible refine (QtD.out _ HE.out).mono ?_)
  rintro e w3 ⟨rfl, hq⟩
  replace HE := Lib.hid (HE.out.below hq)
  replace HL := Lib.hid (HL.out.trans (hq.mono HL.out.size))
  clear hq
  have hq : Below w3.heap.size w3 (w3.alloc (.cells #[.int .i64 1, .string (numS D), .string (denS D), .string { data := #[] }, .bool false, .int .i64 0, .int .i64 0, .int .i64 0, .slice none 0 0] 30)) := ((Below.refl _ _).alloc (Nat.le_refl _) _)
  replace HE := Lib.hid (HE.out.below hq)
  replace HL := Lib.hid (HL.out.trans (hq.mono HL.out.size))
  have H5 : Hid ((w3.alloc (.cells #[.int .i64 1, .string (numS D), .string (denS D), .string { data := #[] }, .bool false, .int .i64 0, .int .i64 0, .int .i64 0, .slice none 0 0] 30)).heap[w3.heap.size]? = some (.cells #[.int .i64 1, .string (numS D), .string (denS D), .string { data := #[] }, .bool false, .int .i64 0, .int .i64 0, .int .i64 0, .slice none 0 0] 30 (0, 0))) := Lib.hid (by
    have h := heap_alloc_new w3 (.cells #[.int .i64 1, .string (numS D), .string (denS D), .string { data := #[] }, .bool false, .int .i64 0, .int .i64 0, .int .i64 0, .slice none 0 0] 30)
    exact h)
  clear hq
  obtain ⟨WL1, hWL1⟩ : ∃ Z, (w3.alloc (.cells #[.int .i64 1, .string (numS D), .string (denS D), .string { data := #[] }, .bool false, .int .i64 0, .int .i64 0, .int .i64 0, .slice none 0 0] 30)) = Z := ⟨_, rfl⟩
  rw [hWL1] at HE HL H5
  have EWL1 := Lib.hid hWL1
  clear hWL1
  go_wp2_with fail
  rw [EWL1.out]
  have hok : okB 7 (MoKs3 m k c D K K1 O E X F on ze Me DA) = true := by kernel_rfl
  have hna := noAny_of (ks := (MoKs3 m k c D K K1 O E X F on ze Me DA)) (by kernel_rfl)
  have hla := lasts_of hna
  refine wp_region_facts (row := none) (w := WL1) 7 (MoKs3 m k c D K K1 O E X F on ze Me DA) [some 19, some 20, some 21, some 22, some 23, some 6, none] (by kernel_rfl) (by kernel_rfl) rfl [undef, undef, undef, undef, undef, undef, undef] ?h00 (Fs.start rfl rfl) ?hs ?hd
  case h00 => simp only [putO, layT_some, layT_none, layT_nil, List.setIfInBounds_toArray, List.set_cons_zero, List.set_cons_succ]
  case hs =>
    rintro listed vs Wr hF i hi hun hpre
    obtain ⟨s0, s1, s2, s3, s4, s5, s6, hvs⟩ := exl_of 7 vs (fun l => vs = l) hF.len rfl
    subst hvs
    have hge := Nat.zero_le i
    simp only [putO, layT_some, layT_none, layT_nil, List.setIfInBounds_toArray, List.set_cons_zero, List.set_cons_succ]
    rcases Nat.lt_or_ge i 3 with hlt | hgt
    · replace hi := hlt
      clear hlt
      rcases Nat.lt_or_ge i 1 with hlt | hgt
      · replace hi := hlt
        clear hlt
        have he : i = 0 := Nat.le_antisymm (Nat.le_of_lt_succ hi) hge
        subst he
        have hcc := (nine_at (keep_block H5.out (below_none hF.low))).1
        have cH50 := hcc.1
        have cH51 := hcc.2.1
        have cH52 := hcc.2.2.1
        have cH53 := hcc.2.2.2.1
        have cH54 := hcc.2.2.2.2.1
        have cH55 := hcc.2.2.2.2.2.1
        have cH56 := hcc.2.2.2.2.2.2.1
        have cH57 := hcc.2.2.2.2.2.2.2.1
        have cH58 := hcc.2.2.2.2.2.2.2.2
        clear hcc
        refine step_of ⟨some 19, _, _, _, _, _⟩ rfl (fun K' hK => ?_)
        go_simp
        refine hK.out _ _ ⟨_, hF.pure hok hla hpre rfl (Below.refl _ _), ?fr⟩
        case fr => simp only [putO, layT_some, layT_none, layT_nil, List.setIfInBounds_toArray, List.set_cons_zero, List.set_cons_succ]
      · replace hge : 1 ≤ i := hgt
        clear hgt
        rcases Nat.lt_or_ge i 2 with hlt | hgt
        · replace hi := hlt
          clear hlt
          have he : i = 1 := Nat.le_antisymm (Nat.le_of_lt_succ hi) hge
          subst he
          refine step_of ⟨some 20, _, _, _, _, _⟩ rfl (fun K' hK => ?_)
          go_simp
          refine hK.out _ _ ⟨_, hF.pure hok hla hpre rfl (Below.refl _ _), ?fr⟩
          case fr => simp only [putO, layT_some, layT_none, layT_nil, List.setIfInBounds_toArray, List.set_cons_zero, List.set_cons_succ]
        · replace hge : 2 ≤ i := hgt
          clear hgt
          have he : i = 2 := Nat.le_antisymm (Nat.le_of_lt_succ hi) hge
          subst he
          have p1 := hpre 1 (by kernel_rfl)
          have e1 : s1 = .int .i64 k := hF.get 1 _ rfl (.inr p1)
          subst e1
          refine step_of ⟨some 21, _, _, _, _, _⟩ rfl (fun K' hK => ?_)
          go_simp
          go_at_call 11
          (with_reducible refine (QtK.out _ (HE.out.below (below_none hF.low))).mono ?_)
          rintro e Wq ⟨rfl, hq⟩
          refine hK.out _ _ ⟨_, hF.pure hok hla hpre rfl hq, ?fr⟩
          case fr => simp only [putO, layT_some, layT_none, layT_nil, List.setIfInBounds_toArray, List.set_cons_zero, List.set_cons_succ]
    · replace hge : 3 ≤ i := hgt
      clear hgt
      rcases Nat.lt_or_ge i 5 with hlt | hgt
      · replace hi := hlt
        clear hlt
        rcases Nat.lt_or_ge i 4 with hlt | hgt
        · replace hi := hlt
          clear hlt
          have he : i = 3 := Nat.le_antisymm (Nat.le_of_lt_succ hi) hge
          subst he
          have p0 := hpre 0 (by kernel_rfl)
          have e0 : s0 = .agg #[.int .i64 1, .string (numS D), .string (denS D), .string { data := #[] }, .bool false, .int .i64 0, .int .i64 0, .int .i64 0, .slice none 0 0] := hF.get 0 _ rfl (.inr p0)
          subst e0
          have p2 := hpre 2 (by kernel_rfl)
          have e2 : s2 = .agg #[.int .i64 1, .string (numS K), .string (denS K), .string { data := #[] }, .bool false, .int .i64 0, .int .i64 0, .int .i64 0, .slice none 0 0] := hF.get 2 _ rfl (.inr p2)
          subst e2
          refine step_of ⟨some 22, _, _, _, _, _⟩ rfl (fun K' hK => ?_)
          go_simp
          refine hK.out _ _ ⟨_, hF.row hok hla hpre rfl, ?fr⟩
          case fr => simp only [putO, layT_some, layT_none, layT_nil, List.setIfInBounds_toArray, List.set_cons_zero, List.set_cons_succ]
        · replace hge : 4 ≤ i := hgt
          clear hgt
          have he : i = 4 := Nat.le_antisymm (Nat.le_of_lt_succ hi) hge
          subst he
          have p3 := hpre 3 (by kernel_rfl)
          obtain ⟨G, eG, _, hGB⟩ : ∃ G, s3 = .slice (some ⟨G, 0, none⟩) 2 2 ∧ _ ≤ G ∧ Wr.heap[G]? = some (.cells #[.int .i64 1, .string (numS D), .string (denS D), .string { data := #[] }, .bool false, .int .i64 0, .int .i64 0, .int .i64 0, .slice none 0 0, .int .i64 1, .string (numS K), .string (denS K), .string { data := #[] }, .bool false, .int .i64 0, .int .i64 0, .int .i64 0, .slice none 0 0] 30 (0, 0)) := hF.get 3 _ rfl (.inr p3)
          subst eG
          refine step_of ⟨some 23, _, _, _, _, _⟩ rfl (fun K' hK => ?_)
          go_simp
          go_at_call 20
          (with_reducible refine (Qr0.out _ _ hGB (HE.out.below (below_none hF.low))).mono ?_)
          rintro e Wq ⟨rfl, hq⟩
          refine hK.out _ _ ⟨_, hF.pure hok hla hpre rfl hq, ?fr⟩
          case fr => simp only [putO, layT_some, layT_none, layT_nil, List.setIfInBounds_toArray, List.set_cons_zero, List.set_cons_succ]
      · replace hge : 5 ≤ i := hgt
        clear hgt
        rcases Nat.lt_or_ge i 6 with hlt | hgt
        · replace hi := hlt
          clear hlt
          have he : i = 5 := Nat.le_antisymm (Nat.le_of_lt_succ hi) hge
          subst he
          refine step_of ⟨some 6, _, _, _, _, _⟩ rfl (fun K' hK => ?_)
          go_simp
          refine hK.out _ _ ⟨_, hF.box hok hla hpre hun rfl, ?fr⟩
          case fr => simp only [putO, layT_some, layT_none, layT_nil, List.setIfInBounds_toArray, List.set_cons_zero, List.set_cons_succ]
        · replace hge : 6 ≤ i := hgt
          clear hgt
          have he : i = 6 := Nat.le_antisymm (Nat.le_of_lt_succ hi) hge
          subst he
          have p5 := hpre 5 (by kernel_rfl)
          obtain ⟨G, eG, _, hGl, hGB⟩ : ∃ G, s5 = .pointer (some ⟨G, 0, none⟩) ∧ (∀ k, none = some k → G = k) ∧ WL1.heap.size ≤ G ∧ Wr.heap[G]? = some (.cells (if listed.getD 6 false = true then #[.int .i64 1, .string (numS O), .string (denS O), .string { data := #[] }, .bool false, .int .i64 0, .int .i64 0, .int .i64 0, .slice none 0 0] else #[.int .i64 0, .string { data := #[] }, .string { data := #[] }, .string { data := #[] }, .bool false, .int .i64 0, .int .i64 0, .int .i64 0, .slice none 0 0]) 30 (0, 0)) := hF.get 5 _ rfl (.inr p5)
          subst eG
          rw [if_neg (bit_off hun)] at hGB
          have HGB := Lib.hid hGB
          clear hGB
          have p4 := hpre 4 (by kernel_rfl)
          have e4 : s4 = .agg #[.int .i64 1, .string (numS O), .string (denS O), .string { data := #[] }, .bool false, .int .i64 0, .int .i64 0, .int .i64 0, .slice none 0 0] := hF.get 4 _ rfl (.inr p4)
          subst e4
          obtain ⟨⟨y0, y1, y2, y3, y4, y5, y6, y7, y8⟩, g0, g1, g2, g3, g4, g5, g6, g7, g8⟩ := nine_at HGB.out
          refine step_of ⟨none, _, _, _, _, _⟩ rfl (fun K' hK => ?_)
          go_simp
          refine hK.out _ _ ⟨undef, hF.put hok hna hpre hun rfl undef rfl (.inr p5) rfl (set9_at HGB.out (.int .i64 1) (.string (numS O)) (.string (denS O)) (.string { data := #[] }) (.bool false) (.int .i64 0) (.int .i64 0) (.int .i64 0) (.slice none 0 0)) (fun k hk => set9_other _ _ (.int .i64 1) (.string (numS O)) (.string (denS O)) (.string { data := #[] }) (.bool false) (.int .i64 0) (.int .i64 0) (.int .i64 0) (.slice none 0 0) hk) (put9_below hGl _ (.int .i64 1) (.string (numS O)) (.string (denS O)) (.string { data := #[] }) (.bool false) (.int .i64 0) (.int .i64 0) (.int .i64 0) (.slice none 0 0)), ?fr⟩
          case fr => simp only [putO, layT_some, layT_none, layT_nil, List.setIfInBounds_toArray, List.set_cons_zero, List.set_cons_succ]
  case hd =>
    rintro listed vs WB hF hall
    obtain ⟨s0, s1, s2, s3, s4, s5, s6, hvs⟩ := exl_of 7 vs (fun l => vs = l) hF.len rfl
    subst hvs
    obtain ⟨b6, e5, _, _, k5⟩ : ∃ G, s5 = .pointer (some ⟨G, 0, none⟩) ∧ (∀ k, none = some k → G = k) ∧ _ ≤ G ∧ WB.heap[G]? = some (.cells (if listed.getD 6 false = true then #[.int .i64 1, .string (numS O), .string (denS O), .string { data := #[] }, .bool false, .int .i64 0, .int .i64 0, .int .i64 0, .slice none 0 0] else #[.int .i64 0, .string { data := #[] }, .string { data := #[] }, .string { data := #[] }, .bool false, .int .i64 0, .int .i64 0, .int .i64 0, .slice none 0 0]) 30 (0, 0)) := hF.get 5 _ rfl (.inr (hall 5 (by decide)))
    subst e5
    rw [if_pos (hall 6 (by decide))] at k5
    have H6 := Lib.hid k5
    clear k5
    have hq := below_none hF.low
    replace HE := Lib.hid (HE.out.below hq)
    replace HL := Lib.hid (HL.out.trans (hq.mono HL.out.size))
    replace H5 := Lib.hid (keep_block H5.out hq)
    clear hq
    clear hF hall hok hna hla
    simp only [putO, layT_some, layT_none, layT_nil, List.setIfInBounds_toArray, List.set_cons_zero, List.set_cons_succ]
    go_wp2_with fail
    have hok : okB 7 (MoKs4 m k c D K K1 O E X F on ze Me DA) = true := by kernel_rfl
    have hna := noAny_of (ks := (MoKs4 m k c D K K1 O E X F on ze Me DA)) (by kernel_rfl)
    have hla := lasts_of hna
    refine wp_region_facts (row := none) (w := WB) 7 (MoKs4 m k c D K K1 O E X F on ze Me DA) [some 24, some 25, some 26, some 27, some 28, some 7, none] (by kernel_rfl) (by kernel_rfl) rfl [undef, undef, undef, undef, undef, undef, undef] ?h00 (Fs.start rfl rfl) ?hs ?hd
    case h00 => simp only [putO, layT_some, layT_none, layT_nil, List.setIfInBounds_toArray, List.set_cons_zero, List.set_cons_succ]
    case hs =>
      rintro listed vs Wr hF i hi hun hpre
      obtain ⟨s0, s1, s2, s3, s4, s5, s6, hvs⟩ := exl_of 7 vs (fun l => vs = l) hF.len rfl
      subst hvs
      have hge := Nat.zero_le i
      simp only [putO, layT_some, layT_none, layT_nil, List.setIfInBounds_toArray, List.set_cons_zero, List.set_cons_succ]
      rcases Nat.lt_or_ge i 3 with hlt | hgt
      · replace hi := hlt
        clear hlt
        rcases Nat.lt_or_ge i 1 with hlt | hgt
        · replace hi := hlt
          clear hlt
          have he : i = 0 := Nat.le_antisymm (Nat.le_of_lt_succ hi) hge
          subst he
          have hcc := (nine_at (keep_block H5.out (below_none hF.low))).1
          have cH50 := hcc.1
          have cH51 := hcc.2.1
          have cH52 := hcc.2.2.1
          have cH53 := hcc.2.2.2.1
          have cH54 := hcc.2.2.2.2.1
          have cH55 := hcc.2.2.2.2.2.1
          have cH56 := hcc.2.2.2.2.2.2.1
          have cH57 := hcc.2.2.2.2.2.2.2.1
          have cH58 := hcc.2.2.2.2.2.2.2.2
          clear hcc
          refine step_of ⟨some 24, _, _, _, _, _⟩ rfl (fun K' hK => ?_)
          go_simp
          refine hK.out _ _ ⟨_, hF.pure hok hla hpre rfl (Below.refl _ _), ?fr⟩
          case fr => simp only [putO, layT_some, layT_none, layT_nil, List.setIfInBounds_toArray, List.set_cons_zero, List.set_cons_succ]
        · replace hge : 1 ≤ i := hgt
          clear hgt
          rcases Nat.lt_or_ge i 2 with hlt | hgt
          · replace hi := hlt
            clear hlt
            have he : i = 1 := Nat.le_antisymm (Nat.le_of_lt_succ hi) hge
            subst he
            refine step_of ⟨some 25, _, _, _, _, _⟩ rfl (fun K' hK => ?_)
            go_simp
            refine hK.out _ _ ⟨_, hF.pure hok hla hpre rfl (Below.refl _ _), ?fr⟩
            case fr => simp only [putO, layT_some, layT_none, layT_nil, List.setIfInBounds_toArray, List.set_cons_zero, List.set_cons_succ]
          · replace hge : 2 ≤ i := hgt
            clear hgt
            have he : i = 2 := Nat.le_antisymm (Nat.le_of_lt_succ hi) hge
            subst he
            have p1 := hpre 1 (by kernel_rfl)
            have e1 : s1 = .int .i64 k := hF.get 1 _ rfl (.inr p1)
            subst e1
            refine step_of ⟨some 26, _, _, _, _, _⟩ rfl (fun K' hK => ?_)
            go_simp
            go_at_call 11
            (with_reducible refine (QtK.out _ (HE.out.below (below_none hF.low))).mono ?_)
            rintro e Wq ⟨rfl, hq⟩
            refine hK.out _ _ ⟨_, hF.pure hok hla hpre rfl hq, ?fr⟩
            case fr => simp only [putO, layT_some, layT_none, layT_nil, List.setIfInBounds_toArray, List.set_cons_zero, List.set_cons_succ]
      · replace hge : 3 ≤ i := hgt
        clear hgt
        rcases Nat.lt_or_ge i 5 with hlt | hgt
        · replace hi := hlt
          clear hlt
          rcases Nat.lt_or_ge i 4 with hlt | hgt
          · replace hi := hlt
            clear hlt
            have he : i = 3 := Nat.le_antisymm (Nat.le_of_lt_succ hi) hge
            subst he
            have p0 := hpre 0 (by kernel_rfl)
            have e0 : s0 = .agg #[.int .i64 1, .string (numS D), .string (denS D), .string { data := #[] }, .bool false, .int .i64 0, .int .i64 0, .int .i64 0, .slice none 0 0] := hF.get 0 _ rfl (.inr p0)
            subst e0
            have p2 := hpre 2 (by kernel_rfl)
            have e2 : s2 = .agg #[.int .i64 1, .string (numS K), .string (denS K), .string { data := #[] }, .bool false, .int .i64 0, .int .i64 0, .int .i64 0, .slice none 0 0] := hF.get 2 _ rfl (.inr p2)
            subst e2
            refine step_of ⟨some 27, _, _, _, _, _⟩ rfl (fun K' hK => ?_)
            go_simp
            refine hK.out _ _ ⟨_, hF.row hok hla hpre rfl, ?fr⟩
            case fr => simp only [putO, layT_some, layT_none, layT_nil, List.setIfInBounds_toArray, List.set_cons_zero, List.set_cons_succ]
          · replace hge : 4 ≤ i := hgt
            clear hgt
            have he : i = 4 := Nat.le_antisymm (Nat.le_of_lt_succ hi) hge
            subst he
            have p3 := hpre 3 (by kernel_rfl)
            obtain ⟨G, eG, _, hGB⟩ : ∃ G, s3 = .slice (some ⟨G, 0, none⟩) 2 2 ∧ _ ≤ G ∧ Wr.heap[G]? = some (.cells #[.int .i64 1, .string (numS D), .string (denS D), .string { data := #[] }, .bool false, .int .i64 0, .int .i64 0, .int .i64 0, .slice none 0 0, .int .i64 1, .string (numS K), .string (denS K), .string { data := #[] }, .bool false, .int .i64 0, .int .i64 0, .int .i64 0, .slice none 0 0] 30 (0, 0)) := hF.get 3 _ rfl (.inr p3)
            subst eG
            refine step_of ⟨some 28, _, _, _, _, _⟩ rfl (fun K' hK => ?_)
            go_simp
            go_at_call 20
            (with_reducible refine (Qr1.out _ _ hGB (HE.out.below (below_none hF.low))).mono ?_)
            rintro e Wq ⟨rfl, hq⟩
            refine hK.out _ _ ⟨_, hF.pure hok hla hpre rfl hq, ?fr⟩
            case fr => simp only [putO, layT_some, layT_none, layT_nil, List.setIfInBounds_toArray, List.set_cons_zero, List.set_cons_succ]
        · replace hge : 5 ≤ i := hgt
          clear hgt
          rcases Nat.lt_or_ge i 6 with hlt | hgt
          · replace hi := hlt
            clear hlt
            have he : i = 5 := Nat.le_antisymm (Nat.le_of_lt_succ hi) hge
            subst he
            refine step_of ⟨some 7, _, _, _, _, _⟩ rfl (fun K' hK => ?_)
            go_simp
            refine hK.out _ _ ⟨_, hF.box hok hla hpre hun rfl, ?fr⟩
            case fr => simp only [putO, layT_some, layT_none, layT_nil, List.setIfInBounds_toArray, List.set_cons_zero, List.set_cons_succ]
          · replace hge : 6 ≤ i := hgt
            clear hgt
            have he : i = 6 := Nat.le_antisymm (Nat.le_of_lt_succ hi) hge
            subst he
            have p5 := hpre 5 (by kernel_rfl)
            obtain ⟨G, eG, _, hGl, hGB⟩ : ∃ G, s5 = .pointer (some ⟨G, 0, none⟩) ∧ (∀ k, none = some k → G = k) ∧ WB.heap.size ≤ G ∧ Wr.heap[G]? = some (.cells (if listed.getD 6 false = true then #[.int .i64 1, .string (numS E), .string (denS E), .string { data := #[] }, .bool false, .int .i64 0, .int .i64 0, .int .i64 0, .slice none 0 0] else #[.int .i64 0, .string { data := #[] }, .string { data := #[] }, .string { data := #[] }, .bool false, .int .i64 0, .int .i64 0, .int .i64 0, .slice none 0 0]) 30 (0, 0)) := hF.get 5 _ rfl (.inr p5)
            subst eG
            rw [if_neg (bit_off hun)] at hGB
            have HGB := Lib.hid hGB
            clear hGB
            have p4 := hpre 4 (by kernel_rfl)
            have e4 : s4 = .agg #[.int .i64 1, .string (numS E), .string (denS E), .string { data := #[] }, .bool false, .int .i64 0, .int .i64 0, .int .i64 0, .slice none 0 0] := hF.get 4 _ rfl (.inr p4)
            subst e4
            obtain ⟨⟨y0, y1, y2, y3, y4, y5, y6, y7, y8⟩, g0, g1, g2, g3, g4, g5, g6, g7, g8⟩ := nine_at HGB.out
            refine step_of ⟨none, _, _, _, _, _⟩ rfl (fun K' hK => ?_)
            go_simp
            refine hK.out _ _ ⟨undef, hF.put hok hna hpre hun rfl undef rfl (.inr p5) rfl (set9_at HGB.out (.int .i64 1) (.string (numS E)) (.string (denS E)) (.string { data := #[] }) (.bool false) (.int .i64 0) (.int .i64 0) (.int .i64 0) (.slice none 0 0)) (fun k hk => set9_other _ _ (.int .i64 1) (.string (numS E)) (.string (denS E)) (.string { data := #[] }) (.bool false) (.int .i64 0) (.int .i64 0) (.int .i64 0) (.slice none 0 0) hk) (put9_below hGl _ (.int .i64 1) (.string (numS E)) (.string (denS E)) (.string { data := #[] }) (.bool false) (.int .i64 0) (.int .i64 0) (.int .i64 0) (.slice none 0 0)), ?fr⟩
            case fr => simp only [putO, layT_some, layT_none, layT_nil, List.setIfInBounds_toArray, List.set_cons_zero, List.set_cons_succ]
    case hd =>
      rintro listed vs WC hF hall
      obtain ⟨s0, s1, s2, s3, s4, s5, s6, hvs⟩ := exl_of 7 vs (fun l => vs = l) hF.len rfl
      subst hvs
      obtain ⟨b7, e5, _, _, k5⟩ : ∃ G, s5 = .pointer (some ⟨G, 0, none⟩) ∧ (∀ k, none = some k → G = k) ∧ _ ≤ G ∧ WC.heap[G]? = some (.cells (if listed.getD 6 false = true then #[.int .i64 1, .string (numS E), .string (denS E), .string { data := #[] }, .bool false, .int .i64 0, .int .i64 0, .int .i64 0, .slice none 0 0] else #[.int .i64 0, .string { data := #[] }, .string { data := #[] }, .string { data := #[] }, .bool false, .int .i64 0, .int .i64 0, .int .i64 0, .slice none 0 0]) 30 (0, 0)) := hF.get 5 _ rfl (.inr (hall 5 (by decide)))
      subst e5
      rw [if_pos (hall 6 (by decide))] at k5
      have H7 := Lib.hid k5
      clear k5
      have hq := below_none hF.low
      replace HE := Lib.hid (HE.out.below hq)
      replace HL := Lib.hid (HL.out.trans (hq.mono HL.out.size))
      replace H5 := Lib.hid (keep_block H5.out hq)
      replace H6 := Lib.hid (keep_block H6.out hq)
      clear hq
      clear hF hall hok hna hla
      simp only [putO, layT_some, layT_none, layT_nil, List.setIfInBounds_toArray, List.set_cons_zero, List.set_cons_succ]
      go_wp2_with fail
      have hok : okB 8 (MoKs5 m k c D K K1 O E X F on ze Me DA) = true := by kernel_rfl
      have hna := noAny_of (ks := (MoKs5 m k c D K K1 O E X F on ze Me DA)) (by kernel_rfl)
      have hla := lasts_of hna
      refine wp_region_facts (row := none) (w := WC) 8 (MoKs5 m k c D K K1 O E X F on ze Me DA) [some 29, some 30, some 31, some 32, some 33, some 34, some 8, none] (by kernel_rfl) (by kernel_rfl) rfl [undef, undef, undef, undef, undef, undef, undef, undef] ?h00 (Fs.start rfl rfl) ?hs ?hd
      case h00 => simp only [putO, layT_some, layT_none, layT_nil, List.setIfInBounds_toArray, List.set_cons_zero, List.set_cons_succ]
      case hs =>
        rintro listed vs Wr hF i hi hun hpre
        obtain ⟨s0, s1, s2, s3, s4, s5, s6, s7, hvs⟩ := exl_of 8 vs (fun l => vs = l) hF.len rfl
        subst hvs
        have hge := Nat.zero_le i
        simp only [putO, layT_some, layT_none, layT_nil, List.setIfInBounds_toArray, List.set_cons_zero, List.set_cons_succ]
        rcases Nat.lt_or_ge i 4 with hlt | hgt
        · replace hi := hlt
          clear hlt
          rcases Nat.lt_or_ge i 2 with hlt | hgt
          · replace hi := hlt
            clear hlt
            rcases Nat.lt_or_ge i 1 with hlt | hgt
            · replace hi := hlt
              clear hlt
              have he : i = 0 := Nat.le_antisymm (Nat.le_of_lt_succ hi) hge
              subst he
              have hcc := (nine_at (keep_block H5.out (below_none hF.low))).1
              have cH50 := hcc.1
              have cH51 := hcc.2.1
              have cH52 := hcc.2.2.1
              have cH53 := hcc.2.2.2.1
              have cH54 := hcc.2.2.2.2.1
              have cH55 := hcc.2.2.2.2.2.1
              have cH56 := hcc.2.2.2.2.2.2.1
              have cH57 := hcc.2.2.2.2.2.2.2.1
              have cH58 := hcc.2.2.2.2.2.2.2.2
              clear hcc
              refine step_of ⟨some 29, _, _, _, _, _⟩ rfl (fun K' hK => ?_)
              go_simp
              refine hK.out _ _ ⟨_, hF.pure hok hla hpre rfl (Below.refl _ _), ?fr⟩
              case fr => simp only [putO, layT_some, layT_none, layT_nil, List.setIfInBounds_toArray, List.set_cons_zero, List.set_cons_succ]
            · replace hge : 1 ≤ i := hgt
              clear hgt
              have he : i = 1 := Nat.le_antisymm (Nat.le_of_lt_succ hi) hge
              subst he
              refine step_of ⟨some 30, _, _, _, _, _⟩ rfl (fun K' hK => ?_)
              go_simp
              refine hK.out _ _ ⟨_, hF.pure hok hla hpre rfl (Below.refl _ _), ?fr⟩
              case fr => simp only [putO, layT_some, layT_none, layT_nil, List.setIfInBounds_toArray, List.set_cons_zero, List.set_cons_succ]
          · replace hge : 2 ≤ i := hgt
            clear hgt
            rcases Nat.lt_or_ge i 3 with hlt | hgt
            · replace hi := hlt
              clear hlt
              have he : i = 2 := Nat.le_antisymm (Nat.le_of_lt_succ hi) hge
              subst he
              have p1 := hpre 1 (by kernel_rfl)
              have e1 : s1 = .int .i64 k := hF.get 1 _ rfl (.inr p1)
              subst e1
              refine step_of ⟨some 31, _, _, _, _, _⟩ rfl (fun K' hK => ?_)
              go_simp
              refine hK.out _ _ ⟨_, hF.pure hok hla hpre rfl (Below.refl _ _), ?fr⟩
              case fr => simp only [putO, layT_some, layT_none, layT_nil, List.setIfInBounds_toArray, List.set_cons_zero, List.set_cons_succ]
            · replace hge : 3 ≤ i := hgt
              clear hgt
              have he : i = 3 := Nat.le_antisymm (Nat.le_of_lt_succ hi) hge
              subst he
              have p2 := hpre 2 (by kernel_rfl)
              have e2 : s2 = .int .i64 (k + 1) := hF.get 2 _ rfl (.inr p2)
              subst e2
              refine step_of ⟨some 32, _, _, _, _, _⟩ rfl (fun K' hK => ?_)
              go_simp
              go_at_call 11
              (with_reducible refine (QtK1.out _ (HE.out.below (below_none hF.low))).mono ?_)
              rintro e Wq ⟨rfl, hq⟩
              refine hK.out _ _ ⟨_, hF.pure hok hla hpre rfl hq, ?fr⟩
              case fr => simp only [putO, layT_some, layT_none, layT_nil, List.setIfInBounds_toArray, List.set_cons_zero, List.set_cons_succ]
        · replace hge : 4 ≤ i := hgt
          clear hgt
          rcases Nat.lt_or_ge i 6 with hlt | hgt
          · replace hi := hlt
            clear hlt
            rcases Nat.lt_or_ge i 5 with hlt | hgt
            · replace hi := hlt
              clear hlt
              have he : i = 4 := Nat.le_antisymm (Nat.le_of_lt_succ hi) hge
              subst he
              have p0 := hpre 0 (by kernel_rfl)
              have e0 : s0 = .agg #[.int .i64 1, .string (numS D), .string (denS D), .string { data := #[] }, .bool false, .int .i64 0, .int .i64 0, .int .i64 0, .slice none 0 0] := hF.get 0 _ rfl (.inr p0)
              subst e0
              have p3 := hpre 3 (by kernel_rfl)
              have e3 : s3 = .agg #[.int .i64 1, .string (numS K1), .string (denS K1), .string { data := #[] }, .bool false, .int .i64 0, .int .i64 0, .int .i64 0, .slice none 0 0] := hF.get 3 _ rfl (.inr p3)
              subst e3
              refine step_of ⟨some 33, _, _, _, _, _⟩ rfl (fun K' hK => ?_)
              go_simp
              refine hK.out _ _ ⟨_, hF.row hok hla hpre rfl, ?fr⟩
              case fr => simp only [putO, layT_some, layT_none, layT_nil, List.setIfInBounds_toArray, List.set_cons_zero, List.set_cons_succ]
            · replace hge : 5 ≤ i := hgt
              clear hgt
              have he : i = 5 := Nat.le_antisymm (Nat.le_of_lt_succ hi) hge
              subst he
              have p4 := hpre 4 (by kernel_rfl)
              obtain ⟨G, eG, _, hGB⟩ : ∃ G, s4 = .slice (some ⟨G, 0, none⟩) 2 2 ∧ _ ≤ G ∧ Wr.heap[G]? = some (.cells #[.int .i64 1, .string (numS D), .string (denS D), .string { data := #[] }, .bool false, .int .i64 0, .int .i64 0, .int .i64 0, .slice none 0 0, .int .i64 1, .string (numS K1), .string (denS K1), .string { data := #[] }, .bool false, .int .i64 0, .int .i64 0, .int .i64 0, .slice none 0 0] 30 (0, 0)) := hF.get 4 _ rfl (.inr p4)
              subst eG
              refine step_of ⟨some 34, _, _, _, _, _⟩ rfl (fun K' hK => ?_)
              go_simp
              go_at_call 20
              (with_reducible refine (Qr2.out _ _ hGB (HE.out.below (below_none hF.low))).mono ?_)
              rintro e Wq ⟨rfl, hq⟩
              refine hK.out _ _ ⟨_, hF.pure hok hla hpre rfl hq, ?fr⟩
              case fr => simp only [putO, layT_some, layT_none, layT_nil, List.setIfInBounds_toArray, List.set_cons_zero, List.set_cons_succ]
          · replace hge : 6 ≤ i := hgt
            clear hgt
            rcases Nat.lt_or_ge i 7 with hlt | hgt
            · replace hi := hlt
              clear hlt
              have he : i = 6 := Nat.le_antisymm (Nat.le_of_lt_succ hi) hge
              subst he
              refine step_of ⟨some 8, _, _, _, _, _⟩ rfl (fun K' hK => ?_)
              go_simp
              refine hK.out _ _ ⟨_, hF.box hok hla hpre hun rfl, ?fr⟩
              case fr => simp only [putO, layT_some, layT_none, layT_nil, List.setIfInBounds_toArray, List.set_cons_zero, List.set_cons_succ]
            · replace hge : 7 ≤ i := hgt
              clear hgt
              have he : i = 7 := Nat.le_antisymm (Nat.le_of_lt_succ hi) hge
              subst he
              have p6 := hpre 6 (by kernel_rfl)
              obtain ⟨G, eG, _, hGl, hGB⟩ : ∃ G, s6 = .pointer (some ⟨G, 0, none⟩) ∧ (∀ k, none = some k → G = k) ∧ WC.heap.size ≤ G ∧ Wr.heap[G]? = some (.cells (if listed.getD 7 false = true then #[.int .i64 1, .string (numS X), .string (denS X), .string { data := #[] }, .bool false, .int .i64 0, .int .i64 0, .int .i64 0, .slice none 0 0] else #[.int .i64 0, .string { data := #[] }, .string { data := #[] }, .string { data := #[] }, .bool false, .int .i64 0, .int .i64 0, .int .i64 0, .slice none 0 0]) 30 (0, 0)) := hF.get 6 _ rfl (.inr p6)
              subst eG
              rw [if_neg (bit_off hun)] at hGB
              have HGB := Lib.hid hGB
              clear hGB
              have p5 := hpre 5 (by kernel_rfl)
              have e5 : s5 = .agg #[.int .i64 1, .string (numS X), .string (denS X), .string { data := #[] }, .bool false, .int .i64 0, .int .i64 0, .int .i64 0, .slice none 0 0] := hF.get 5 _ rfl (.inr p5)
              subst e5
              obtain ⟨⟨y0, y1, y2, y3, y4, y5, y6, y7, y8⟩, g0, g1, g2, g3, g4, g5, g6, g7, g8⟩ := nine_at HGB.out
              refine step_of ⟨none, _, _, _, _, _⟩ rfl (fun K' hK => ?_)
              go_simp
              refine hK.out _ _ ⟨undef, hF.put hok hna hpre hun rfl undef rfl (.inr p6) rfl (set9_at HGB.out (.int .i64 1) (.string (numS X)) (.string (denS X)) (.string { data := #[] }) (.bool false) (.int .i64 0) (.int .i64 0) (.int .i64 0) (.slice none 0 0)) (fun k hk => set9_other _ _ (.int .i64 1) (.string (numS X)) (.string (denS X)) (.string { data := #[] }) (.bool false) (.int .i64 0) (.int .i64 0) (.int .i64 0) (.slice none 0 0) hk) (put9_below hGl _ (.int .i64 1) (.string (numS X)) (.string (denS X)) (.string { data := #[] }) (.bool false) (.int .i64 0) (.int .i64 0) (.int .i64 0) (.slice none 0 0)), ?fr⟩
              case fr => simp only [putO, layT_some, layT_none, layT_nil, List.setIfInBounds_toArray, List.set_cons_zero, List.set_cons_succ]
      case hd =>
        rintro listed vs WD hF hall
        obtain ⟨s0, s1, s2, s3, s4, s5, s6, s7, hvs⟩ := exl_of 8 vs (fun l => vs = l) hF.len rfl
        subst hvs
        obtain ⟨b8, e6, _, _, k6⟩ : ∃ G, s6 = .pointer (some ⟨G, 0, none⟩) ∧ (∀ k, none = some k → G = k) ∧ _ ≤ G ∧ WD.heap[G]? = some (.cells (if listed.getD 7 false = true then #[.int .i64 1, .string (numS X), .string (denS X), .string { data := #[] }, .bool false, .int .i64 0, .int .i64 0, .int .i64 0, .slice none 0 0] else #[.int .i64 0, .string { data := #[] }, .string { data := #[] }, .string { data := #[] }, .bool false, .int .i64 0, .int .i64 0, .int .i64 0, .slice none 0 0]) 30 (0, 0)) := hF.get 6 _ rfl (.inr (hall 6 (by decide)))
        subst e6
        rw [if_pos (hall 7 (by decide))] at k6
        have H8 := Lib.hid k6
        clear k6
        have hq := below_none hF.low
        replace HE := Lib.hid (HE.out.below hq)
        replace HL := Lib.hid (HL.out.trans (hq.mono HL.out.size))
        replace H5 := Lib.hid (keep_block H5.out hq)
        replace H6 := Lib.hid (keep_block H6.out hq)
        replace H7 := Lib.hid (keep_block H7.out hq)
        clear hq
        clear hF hall hok hna hla
        simp only [putO, layT_some, layT_none, layT_nil, List.setIfInBounds_toArray, List.set_cons_zero, List.set_cons_succ]
        obtain ⟨⟨lH60, lH61, lH62, lH63, lH64, lH65, lH66, lH67, lH68⟩, _⟩ := nine_at H6.out
        obtain ⟨⟨lH70, lH71, lH72, lH73, lH74, lH75, lH76, lH77, lH78⟩, _⟩ := nine_at H7.out
        obtain ⟨⟨lH80, lH81, lH82, lH83, lH84, lH85, lH86, lH87, lH88⟩, _⟩ := nine_at H8.out
        go_wp2_with fail
        clear lH60 lH61 lH62 lH63 lH64 lH65 lH66 lH67 lH68 lH70 lH71 lH72 lH73 lH74 lH75 lH76 lH77 lH78 lH80 lH81 lH82 lH83 lH84 lH85 lH86 lH87 lH88
        have hok : okB 5 (MoKs8 m k c D K K1 O E X F on ze Me DA) = true := by kernel_rfl
        have hna := noAny_of (ks := (MoKs8 m k c D K K1 O E X F on ze Me DA)) (by kernel_rfl)
        have hla := lasts_of hna
        refine wp_region_facts (row := none) (w := WD) 5 (MoKs8 m k c D K K1 O E X F on ze Me DA) [some 48, some 49, some 50, some 9, none] (by kernel_rfl) (by kernel_rfl) rfl [undef, undef, undef, undef, undef] ?h00 (Fs.start rfl rfl) ?hs ?hd
        case h00 => simp only [putO, layT_some, layT_none, layT_nil, List.setIfInBounds_toArray, List.set_cons_zero, List.set_cons_succ]
        case hs =>
          rintro listed vs Wr hF i hi hun hpre
          obtain ⟨s0, s1, s2, s3, s4, hvs⟩ := exl_of 5 vs (fun l => vs = l) hF.len rfl
          subst hvs
          have hge := Nat.zero_le i
          simp only [putO, layT_some, layT_none, layT_nil, List.setIfInBounds_toArray, List.set_cons_zero, List.set_cons_succ]
          rcases Nat.lt_or_ge i 2 with hlt | hgt
          · replace hi := hlt
            clear hlt
            rcases Nat.lt_or_ge i 1 with hlt | hgt
            · replace hi := hlt
              clear hlt
              have he : i = 0 := Nat.le_antisymm (Nat.le_of_lt_succ hi) hge
              subst he
              have hcc := (nine_at (keep_block H7.out (below_none hF.low))).1
              have cH70 := hcc.1
              have cH71 := hcc.2.1
              have cH72 := hcc.2.2.1
              have cH73 := hcc.2.2.2.1
              have cH74 := hcc.2.2.2.2.1
              have cH75 := hcc.2.2.2.2.2.1
              have cH76 := hcc.2.2.2.2.2.2.1
              have cH77 := hcc.2.2.2.2.2.2.2.1
              have cH78 := hcc.2.2.2.2.2.2.2.2
              clear hcc
              refine step_of ⟨some 48, _, _, _, _, _⟩ rfl (fun K' hK => ?_)
              go_simp
              refine hK.out _ _ ⟨_, hF.pure hok hla hpre rfl (Below.refl _ _), ?fr⟩
              case fr => simp only [putO, layT_some, layT_none, layT_nil, List.setIfInBounds_toArray, List.set_cons_zero, List.set_cons_succ]
            · replace hge : 1 ≤ i := hgt
              clear hgt
              have he : i = 1 := Nat.le_antisymm (Nat.le_of_lt_succ hi) hge
              subst he
              refine step_of ⟨some 49, _, _, _, _, _⟩ rfl (fun K' hK => ?_)
              go_simp
              go_at_call 11
              (with_reducible refine (Qton.out _ (HE.out.below (below_none hF.low))).mono ?_)
              rintro e Wq ⟨rfl, hq⟩
              refine hK.out _ _ ⟨_, hF.pure hok hla hpre rfl hq, ?fr⟩
              case fr => simp only [putO, layT_some, layT_none, layT_nil, List.setIfInBounds_toArray, List.set_cons_zero, List.set_cons_succ]
          · replace hge : 2 ≤ i := hgt
            clear hgt
            rcases Nat.lt_or_ge i 3 with hlt | hgt
            · replace hi := hlt
              clear hlt
              have he : i = 2 := Nat.le_antisymm (Nat.le_of_lt_succ hi) hge
              subst he
              have p0 := hpre 0 (by kernel_rfl)
              have e0 : s0 = .agg #[.int .i64 1, .string (numS E), .string (denS E), .string { data := #[] }, .bool false, .int .i64 0, .int .i64 0, .int .i64 0, .slice none 0 0] := hF.get 0 _ rfl (.inr p0)
              subst e0
              have p1 := hpre 1 (by kernel_rfl)
              have e1 : s1 = .agg #[.int .i64 1, .string (numS on), .string (denS on), .string { data := #[] }, .bool false, .int .i64 0, .int .i64 0, .int .i64 0, .slice none 0 0] := hF.get 1 _ rfl (.inr p1)
              subst e1
              refine step_of ⟨some 50, _, _, _, _, _⟩ rfl (fun K' hK => ?_)
              go_simp
              go_at_call 15
              (with_reducible refine (QtF.out _ (HE.out.below (below_none hF.low))).mono ?_)
              rintro e Wq ⟨rfl, hq⟩
              refine hK.out _ _ ⟨_, hF.pure hok hla hpre rfl hq, ?fr⟩
              case fr => simp only [putO, layT_some, layT_none, layT_nil, List.setIfInBounds_toArray, List.set_cons_zero, List.set_cons_succ]
            · replace hge : 3 ≤ i := hgt
              clear hgt
              rcases Nat.lt_or_ge i 4 with hlt | hgt
              · replace hi := hlt
                clear hlt
                have he : i = 3 := Nat.le_antisymm (Nat.le_of_lt_succ hi) hge
                subst he
                refine step_of ⟨some 9, _, _, _, _, _⟩ rfl (fun K' hK => ?_)
                go_simp
                refine hK.out _ _ ⟨_, hF.box hok hla hpre hun rfl, ?fr⟩
                case fr => simp only [putO, layT_some, layT_none, layT_nil, List.setIfInBounds_toArray, List.set_cons_zero, List.set_cons_succ]
              · replace hge : 4 ≤ i := hgt
                clear hgt
                have he : i = 4 := Nat.le_antisymm (Nat.le_of_lt_succ hi) hge
                subst he
                have p3 := hpre 3 (by kernel_rfl)
                obtain ⟨G, eG, _, hGl, hGB⟩ : ∃ G, s3 = .pointer (some ⟨G, 0, none⟩) ∧ (∀ k, none = some k → G = k) ∧ WD.heap.size ≤ G ∧ Wr.heap[G]? = some (.cells (if listed.getD 4 false = true then #[.int .i64 1, .string (numS F), .string (denS F), .string { data := #[] }, .bool false, .int .i64 0, .int .i64 0, .int .i64 0, .slice none 0 0] else #[.int .i64 0, .string { data := #[] }, .string { data := #[] }, .string { data := #[] }, .bool false, .int .i64 0, .int .i64 0, .int .i64 0, .slice none 0 0]) 30 (0, 0)) := hF.get 3 _ rfl (.inr p3)
                subst eG
                rw [if_neg (bit_off hun)] at hGB
                have HGB := Lib.hid hGB
                clear hGB
                have p2 := hpre 2 (by kernel_rfl)
                have e2 : s2 = .agg #[.int .i64 1, .string (numS F), .string (denS F), .string { data := #[] }, .bool false, .int .i64 0, .int .i64 0, .int .i64 0, .slice none 0 0] := hF.get 2 _ rfl (.inr p2)
                subst e2
                obtain ⟨⟨y0, y1, y2, y3, y4, y5, y6, y7, y8⟩, g0, g1, g2, g3, g4, g5, g6, g7, g8⟩ := nine_at HGB.out
                refine step_of ⟨none, _, _, _, _, _⟩ rfl (fun K' hK => ?_)
                go_simp
                refine hK.out _ _ ⟨undef, hF.put hok hna hpre hun rfl undef rfl (.inr p3) rfl (set9_at HGB.out (.int .i64 1) (.string (numS F)) (.string (denS F)) (.string { data := #[] }) (.bool false) (.int .i64 0) (.int .i64 0) (.int .i64 0) (.slice none 0 0)) (fun k hk => set9_other _ _ (.int .i64 1) (.string (numS F)) (.string (denS F)) (.string { data := #[] }) (.bool false) (.int .i64 0) (.int .i64 0) (.int .i64 0) (.slice none 0 0) hk) (put9_below hGl _ (.int .i64 1) (.string (numS F)) (.string (denS F)) (.string { data := #[] }) (.bool false) (.int .i64 0) (.int .i64 0) (.int .i64 0) (.slice none 0 0)), ?fr⟩
                case fr => simp only [putO, layT_some, layT_none, layT_nil, List.setIfInBounds_toArray, List.set_cons_zero, List.set_cons_succ]
        case hd =>
          rintro listed vs WE hF hall
          obtain ⟨s0, s1, s2, s3, s4, hvs⟩ := exl_of 5 vs (fun l => vs = l) hF.len rfl
          subst hvs
          obtain ⟨b9, e3, _, _, k3⟩ : ∃ G, s3 = .pointer (some ⟨G, 0, none⟩) ∧ (∀ k, none = some k → G = k) ∧ _ ≤ G ∧ WE.heap[G]? = some (.cells (if listed.getD 4 false = true then #[.int .i64 1, .string (numS F), .string (denS F), .string { data := #[] }, .bool false, .int .i64 0, .int .i64 0, .int .i64 0, .slice none 0 0] else #[.int .i64 0, .string { data := #[] }, .string { data := #[] }, .string { data := #[] }, .bool false, .int .i64 0, .int .i64 0, .int .i64 0, .slice none 0 0]) 30 (0, 0)) := hF.get 3 _ rfl (.inr (hall 3 (by decide)))
          subst e3
          rw [if_pos (hall 4 (by decide))] at k3
          have H9 := Lib.hid k3
          clear k3
          have hq := below_none hF.low
          replace HE := Lib.hid (HE.out.below hq)
          replace HL := Lib.hid (HL.out.trans (hq.mono HL.out.size))
          replace H5 := Lib.hid (keep_block H5.out hq)
          replace H6 := Lib.hid (keep_block H6.out hq)
          replace H7 := Lib.hid (keep_block H7.out hq)
          replace H8 := Lib.hid (keep_block H8.out hq)
          clear hq
          clear hF hall hok hna hla
          simp only [putO, layT_some, layT_none, layT_nil, List.setIfInBounds_toArray, List.set_cons_zero, List.set_cons_succ]
          obtain ⟨⟨lH60, lH61, lH62, lH63, lH64, lH65, lH66, lH67, lH68⟩, _⟩ := nine_at H6.out
          obtain ⟨⟨lH70, lH71, lH72, lH73, lH74, lH75, lH76, lH77, lH78⟩, _⟩ := nine_at H7.out
          go_wp2_with fail
          (with_reducible refine (QtC.out _ HE.out).mono ?_)
          rintro e w4 ⟨rfl, hq⟩
          replace HE := Lib.hid (HE.out.below hq)
          replace HL := Lib.hid (HL.out.trans (hq.mono HL.out.size))
          replace H5 := Lib.hid (keep_block H5.out hq)
          replace H6 := Lib.hid (keep_block H6.out hq)
          replace H7 := Lib.hid (keep_block H7.out hq)
          replace H8 := Lib.hid (keep_block H8.out hq)
          replace H9 := Lib.hid (keep_block H9.out hq)
          clear hq
          clear lH60 lH61 lH62 lH63 lH64 lH65 lH66 lH67 lH68 lH70 lH71 lH72 lH73 lH74 lH75 lH76 lH77 lH78
          go_wp2_with fail
          have hok : okB 39 (MoKs10 m k c D K K1 O E X F on ze Me DA) = true := by kernel_rfl
          have hna := noAny_of (ks := (MoKs10 m k c D K K1 O E X F on ze Me DA)) (by kernel_rfl)
          have hla := lasts_of hna
          refine wp_region_facts (row := none) (w := w4) 39 (MoKs10 m k c D K K1 O E X F on ze Me DA) [some 57, some 58, some 59, some 60, some 61, some 62, some 63, some 64, some 65, some 66, some 67, some 68, some 69, some 70, some 71, some 72, some 73, some 74, some 75, some 76, some 77, some 78, some 79, some 80, some 81, some 82, some 83, some 84, some 85, some 86, some 87, some 88, some 89, some 90, some 91, some 92, some 93, some 94, some 4] (by kernel_rfl) (by kernel_rfl) rfl [undef, undef, undef, undef, undef, undef, undef, undef, undef, undef, undef, undef, undef, undef, undef, undef, undef, undef, undef, undef, undef, undef, undef, undef, undef, undef, undef, undef, undef, undef, undef, undef, undef, undef, undef, undef, undef, undef, (.bool false)] ?h00 (Fs.start rfl rfl) ?hs ?hd
          case h00 => simp only [putO, layT_some, layT_none, layT_nil, List.setIfInBounds_toArray, List.set_cons_zero, List.set_cons_succ]
          case hs =>
            rintro listed vs Wr hF i hi hun hpre
            obtain ⟨s0, s1, s2, s3, s4, s5, s6, s7, s8, s9, s10, s11, s12, s13, s14, s15, s16, s17, s18, s19, s20, s21, s22, s23, s24, s25, s26, s27, s28, s29, s30, s31, s32, s33, s34, s35, s36, s37, s38, hvs⟩ := exl_of 39 vs (fun l => vs = l) hF.len rfl
            subst hvs
            have hge := Nat.zero_le i
            simp only [putO, layT_some, layT_none, layT_nil, List.setIfInBounds_toArray, List.set_cons_zero, List.set_cons_succ]
            rcases Nat.lt_or_ge i 19 with hlt | hgt
            · replace hi := hlt
              clear hlt
              rcases Nat.lt_or_ge i 9 with hlt | hgt
              · replace hi := hlt
                clear hlt
                rcases Nat.lt_or_ge i 4 with hlt | hgt
                · replace hi := hlt
                  clear hlt
                  rcases Nat.lt_or_ge i 2 with hlt | hgt
                  · replace hi := hlt
                    clear hlt
                    rcases Nat.lt_or_ge i 1 with hlt | hgt
                    · replace hi := hlt
                      clear hlt
                      have he : i = 0 := Nat.le_antisymm (Nat.le_of_lt_succ hi) hge
                      subst he
                      refine step_of ⟨some 57, _, _, _, _, _⟩ rfl (fun K' hK => ?_)
                      go_simp
                      refine hK.out _ _ ⟨_, hF.pure hok hla hpre rfl (Below.refl _ _), ?fr⟩
                      case fr => simp only [putO, layT_some, layT_none, layT_nil, List.setIfInBounds_toArray, List.set_cons_zero, List.set_cons_succ]
                    · replace hge : 1 ≤ i := hgt
                      clear hgt
                      have he : i = 1 := Nat.le_antisymm (Nat.le_of_lt_succ hi) hge
                      subst he
                      have p0 := hpre 0 (by kernel_rfl)
                      have e0 : s0 = .int .i64 c := hF.get 0 _ rfl (.inr p0)
                      subst e0
                      refine step_of ⟨some 58, _, _, _, _, _⟩ rfl (fun K' hK => ?_)
                      go_simp
                      refine hK.out _ _ ⟨_, hF.pure hok hla hpre rfl (Below.refl _ _), ?fr⟩
                      case fr => simp only [putO, layT_some, layT_none, layT_nil, List.setIfInBounds_toArray, List.set_cons_zero, List.set_cons_succ]
                  · replace hge : 2 ≤ i := hgt
                    clear hgt
                    rcases Nat.lt_or_ge i 3 with hlt | hgt
                    · replace hi := hlt
                      clear hlt
                      have he : i = 2 := Nat.le_antisymm (Nat.le_of_lt_succ hi) hge
                      subst he
                      have p1 := hpre 1 (by kernel_rfl)
                      have e1 : s1 = .bool true := hF.get 1 _ rfl (.inr p1)
                      subst e1
                      refine step_of ⟨some 59, _, _, _, _, _⟩ rfl (fun K' hK => ?_)
                      go_simp
                      refine hK.out _ _ ⟨_, hF.pure hok hla hpre rfl (Below.refl _ _), ?fr⟩
                      case fr => simp only [putO, layT_some, layT_none, layT_nil, List.setIfInBounds_toArray, List.set_cons_zero, List.set_cons_succ]
                    · replace hge : 3 ≤ i := hgt
                      clear hgt
                      have he : i = 3 := Nat.le_antisymm (Nat.le_of_lt_succ hi) hge
                      subst he
                      have p2 := hpre 2 (by kernel_rfl)
                      have e2 : s2 = .bool true := hF.get 2 _ rfl (.inr p2)
                      subst e2
                      have hcc := (nine_at (keep_block H9.out (below_none hF.low))).1
                      have cH90 := hcc.1
                      have cH91 := hcc.2.1
                      have cH92 := hcc.2.2.1
                      have cH93 := hcc.2.2.2.1
                      have cH94 := hcc.2.2.2.2.1
                      have cH95 := hcc.2.2.2.2.2.1
                      have cH96 := hcc.2.2.2.2.2.2.1
                      have cH97 := hcc.2.2.2.2.2.2.2.1
                      have cH98 := hcc.2.2.2.2.2.2.2.2
                      clear hcc
                      refine step_of ⟨some 60, _, _, _, _, _⟩ rfl (fun K' hK => ?_)
                      rw [if_pos (by rfl)]
                      go_simp
                      refine hK.out _ _ ⟨_, hF.pure hok hla hpre rfl (Below.refl _ _), ?fr⟩
                      case fr => simp only [putO, layT_some, layT_none, layT_nil, List.setIfInBounds_toArray, List.set_cons_zero, List.set_cons_succ]
                · replace hge : 4 ≤ i := hgt
                  clear hgt
                  rcases Nat.lt_or_ge i 6 with hlt | hgt
                  · replace hi := hlt
                    clear hlt
                    rcases Nat.lt_or_ge i 5 with hlt | hgt
                    · replace hi := hlt
                      clear hlt
                      have he : i = 4 := Nat.le_antisymm (Nat.le_of_lt_succ hi) hge
                      subst he
                      have p3 := hpre 3 (by kernel_rfl)
                      have e3 : s3 = .agg #[.int .i64 1, .string (numS F), .string (denS F), .string { data := #[] }, .bool false, .int .i64 0, .int .i64 0, .int .i64 0, .slice none 0 0] := hF.get 3 _ rfl (.inr p3)
                      subst e3
                      have p2 := hpre 2 (by kernel_rfl)
                      have e2 : s2 = .bool true := hF.get 2 _ rfl (.inr p2)
                      subst e2
                      refine step_of ⟨some 61, _, _, _, _, _⟩ rfl (fun K' hK => ?_)
                      rw [if_pos (by rfl)]
                      go_simp
                      refine hK.out _ _ ⟨_, hF.row hok hla hpre rfl, ?fr⟩
                      case fr => simp only [putO, layT_some, layT_none, layT_nil, List.setIfInBounds_toArray, List.set_cons_zero, List.set_cons_succ]
                    · replace hge : 5 ≤ i := hgt
                      clear hgt
                      have he : i = 5 := Nat.le_antisymm (Nat.le_of_lt_succ hi) hge
                      subst he
                      have p4 := hpre 4 (by kernel_rfl)
                      obtain ⟨G, eG, _, hGB⟩ : ∃ G, s4 = .slice (some ⟨G, 0, none⟩) 1 1 ∧ _ ≤ G ∧ Wr.heap[G]? = some (.cells #[.int .i64 1, .string (numS F), .string (denS F), .string { data := #[] }, .bool false, .int .i64 0, .int .i64 0, .int .i64 0, .slice none 0 0] 30 (0, 0)) := hF.get 4 _ rfl (.inr p4)
                      subst eG
                      have p2 := hpre 2 (by kernel_rfl)
                      have e2 : s2 = .bool true := hF.get 2 _ rfl (.inr p2)
                      subst e2
                      refine step_of ⟨some 62, _, _, _, _, _⟩ rfl (fun K' hK => ?_)
                      rw [if_pos (by rfl)]
                      go_simp
                      go_at_call 20
                      (with_reducible refine (Qr3.out _ _ hGB (HE.out.below (below_none hF.low))).mono ?_)
                      rintro e Wq ⟨rfl, hq⟩
                      refine hK.out _ _ ⟨_, hF.pure hok hla hpre rfl hq, ?fr⟩
                      case fr => simp only [putO, layT_some, layT_none, layT_nil, List.setIfInBounds_toArray, List.set_cons_zero, List.set_cons_succ]
                  · replace hge : 6 ≤ i := hgt
                    clear hgt
                    rcases Nat.lt_or_ge i 7 with hlt | hgt
                    · replace hi := hlt
                      clear hlt
                      have he : i = 6 := Nat.le_antisymm (Nat.le_of_lt_succ hi) hge
                      subst he
                      have p2 := hpre 2 (by kernel_rfl)
                      have e2 : s2 = .bool true := hF.get 2 _ rfl (.inr p2)
                      subst e2
                      refine step_of ⟨some 63, _, _, _, _, _⟩ rfl (fun K' hK => ?_)
                      rw [if_pos (by rfl)]
                      go_simp
                      go_at_call 11
                      (with_reducible refine (Qton.out _ (HE.out.below (below_none hF.low))).mono ?_)
                      rintro e Wq ⟨rfl, hq⟩
                      refine hK.out _ _ ⟨_, hF.pure hok hla hpre rfl hq, ?fr⟩
                      case fr => simp only [putO, layT_some, layT_none, layT_nil, List.setIfInBounds_toArray, List.set_cons_zero, List.set_cons_succ]
                    · replace hge : 7 ≤ i := hgt
                      clear hgt
                      rcases Nat.lt_or_ge i 8 with hlt | hgt
                      · replace hi := hlt
                        clear hlt
                        have he : i = 7 := Nat.le_antisymm (Nat.le_of_lt_succ hi) hge
                        subst he
                        have p5 := hpre 5 (by kernel_rfl)
                        have e5 : s5 = .agg #[.int .i64 1, .string (numS on), .string (denS on), .string { data := #[] }, .bool false, .int .i64 0, .int .i64 0, .int .i64 0, .slice none 0 0] := hF.get 5 _ rfl (.inr p5)
                        subst e5
                        have p6 := hpre 6 (by kernel_rfl)
                        have e6 : s6 = .agg #[.int .i64 1, .string (numS on), .string (denS on), .string { data := #[] }, .bool false, .int .i64 0, .int .i64 0, .int .i64 0, .slice none 0 0] := hF.get 6 _ rfl (.inr p6)
                        subst e6
                        have p2 := hpre 2 (by kernel_rfl)
                        have e2 : s2 = .bool true := hF.get 2 _ rfl (.inr p2)
                        subst e2
                        refine step_of ⟨some 64, _, _, _, _, _⟩ rfl (fun K' hK => ?_)
                        rw [if_pos (by rfl)]
                        go_simp
                        go_at_call 14
                        (with_reducible refine (RS.out on _).mono ?_)
                        rintro e Wq ⟨rfl, hq⟩
                        refine hK.out _ _ ⟨_, hF.pure hok hla hpre rfl hq, ?fr⟩
                        case fr => simp only [putO, layT_some, layT_none, layT_nil, List.setIfInBounds_toArray, List.set_cons_zero, List.set_cons_succ]
                      · replace hge : 8 ≤ i := hgt
                        clear hgt
                        have he : i = 8 := Nat.le_antisymm (Nat.le_of_lt_succ hi) hge
                        subst he
                        have p2 := hpre 2 (by kernel_rfl)
                        have e2 : s2 = .bool true := hF.get 2 _ rfl (.inr p2)
                        subst e2
                        have p7 := hpre 7 (by kernel_rfl)
                        have e7 : s7 = .bool true := hF.get 7 _ rfl (.inr p7)
                        subst e7
                        refine step_of ⟨some 65, _, _, _, _, _⟩ rfl (fun K' hK => ?_)
                        go_simp
                        refine hK.out _ _ ⟨_, hF.pure hok hla hpre rfl (Below.refl _ _), ?fr⟩
                        case fr => simp only [putO, layT_some, layT_none, layT_nil, List.setIfInBounds_toArray, List.set_cons_zero, List.set_cons_succ]
              · replace hge : 9 ≤ i := hgt
                clear hgt
                rcases Nat.lt_or_ge i 14 with hlt | hgt
                · replace hi := hlt
                  clear hlt
                  rcases Nat.lt_or_ge i 11 with hlt | hgt
                  · replace hi := hlt
                    clear hlt
                    rcases Nat.lt_or_ge i 10 with hlt | hgt
                    · replace hi := hlt
                      clear hlt
                      have he : i = 9 := Nat.le_antisymm (Nat.le_of_lt_succ hi) hge
                      subst he
                      have p8 := hpre 8 (by kernel_rfl)
                      have e8 : s8 = .bool true := hF.get 8 _ rfl (.inr p8)
                      subst e8
                      refine step_of ⟨some 66, _, _, _, _, _⟩ rfl (fun K' hK => ?_)
                      go_simp
                      refine hK.out _ _ ⟨_, hF.pure hok hla hpre rfl (Below.refl _ _), ?fr⟩
                      case fr => simp only [putO, layT_some, layT_none, layT_nil, List.setIfInBounds_toArray, List.set_cons_zero, List.set_cons_succ]
                    · replace hge : 10 ≤ i := hgt
                      clear hgt
                      have he : i = 10 := Nat.le_antisymm (Nat.le_of_lt_succ hi) hge
                      subst he
                      have p9 := hpre 9 (by kernel_rfl)
                      have e9 : s9 = .bool true := hF.get 9 _ rfl (.inr p9)
                      subst e9
                      have hcc := (nine_at (keep_block H9.out (below_none hF.low))).1
                      have cH90 := hcc.1
                      have cH91 := hcc.2.1
                      have cH92 := hcc.2.2.1
                      have cH93 := hcc.2.2.2.1
                      have cH94 := hcc.2.2.2.2.1
                      have cH95 := hcc.2.2.2.2.2.1
                      have cH96 := hcc.2.2.2.2.2.2.1
                      have cH97 := hcc.2.2.2.2.2.2.2.1
                      have cH98 := hcc.2.2.2.2.2.2.2.2
                      clear hcc
                      refine step_of ⟨some 67, _, _, _, _, _⟩ rfl (fun K' hK => ?_)
                      rw [if_pos (by rfl)]
                      go_simp
                      refine hK.out _ _ ⟨_, hF.pure hok hla hpre rfl (Below.refl _ _), ?fr⟩
                      case fr => simp only [putO, layT_some, layT_none, layT_nil, List.setIfInBounds_toArray, List.set_cons_zero, List.set_cons_succ]
                  · replace hge : 11 ≤ i := hgt
                    clear hgt
                    rcases Nat.lt_or_ge i 12 with hlt | hgt
                    · replace hi := hlt
                      clear hlt
                      have he : i = 11 := Nat.le_antisymm (Nat.le_of_lt_succ hi) hge
                      subst he
                      have p9 := hpre 9 (by kernel_rfl)
                      have e9 : s9 = .bool true := hF.get 9 _ rfl (.inr p9)
                      subst e9
                      refine step_of ⟨some 68, _, _, _, _, _⟩ rfl (fun K' hK => ?_)
                      rw [if_pos (by rfl)]
                      go_simp
                      go_at_call 11
                      (with_reducible refine (Qtze.out _ (HE.out.below (below_none hF.low))).mono ?_)
                      rintro e Wq ⟨rfl, hq⟩
                      refine hK.out _ _ ⟨_, hF.pure hok hla hpre rfl hq, ?fr⟩
                      case fr => simp only [putO, layT_some, layT_none, layT_nil, List.setIfInBounds_toArray, List.set_cons_zero, List.set_cons_succ]
                    · replace hge : 12 ≤ i := hgt
                      clear hgt
                      rcases Nat.lt_or_ge i 13 with hlt | hgt
                      · replace hi := hlt
                        clear hlt
                        have he : i = 12 := Nat.le_antisymm (Nat.le_of_lt_succ hi) hge
                        subst he
                        have p10 := hpre 10 (by kernel_rfl)
                        have e10 : s10 = .agg #[.int .i64 1, .string (numS F), .string (denS F), .string { data := #[] }, .bool false, .int .i64 0, .int .i64 0, .int .i64 0, .slice none 0 0] := hF.get 10 _ rfl (.inr p10)
                        subst e10
                        have p11 := hpre 11 (by kernel_rfl)
                        have e11 : s11 = .agg #[.int .i64 1, .string (numS ze), .string (denS ze), .string { data := #[] }, .bool false, .int .i64 0, .int .i64 0, .int .i64 0, .slice none 0 0] := hF.get 11 _ rfl (.inr p11)
                        subst e11
                        have p9 := hpre 9 (by kernel_rfl)
                        have e9 : s9 = .bool true := hF.get 9 _ rfl (.inr p9)
                        subst e9
                        refine step_of ⟨some 69, _, _, _, _, _⟩ rfl (fun K' hK => ?_)
                        rw [if_pos (by rfl)]
                        go_simp
                        refine hK.out _ _ ⟨_, hF.row hok hla hpre rfl, ?fr⟩
                        case fr => simp only [putO, layT_some, layT_none, layT_nil, List.setIfInBounds_toArray, List.set_cons_zero, List.set_cons_succ]
                      · replace hge : 13 ≤ i := hgt
                        clear hgt
                        have he : i = 13 := Nat.le_antisymm (Nat.le_of_lt_succ hi) hge
                        subst he
                        have p12 := hpre 12 (by kernel_rfl)
                        obtain ⟨G, eG, _, hGB⟩ : ∃ G, s12 = .slice (some ⟨G, 0, none⟩) 2 2 ∧ _ ≤ G ∧ Wr.heap[G]? = some (.cells #[.int .i64 1, .string (numS F), .string (denS F), .string { data := #[] }, .bool false, .int .i64 0, .int .i64 0, .int .i64 0, .slice none 0 0, .int .i64 1, .string (numS ze), .string (denS ze), .string { data := #[] }, .bool false, .int .i64 0, .int .i64 0, .int .i64 0, .slice none 0 0] 30 (0, 0)) := hF.get 12 _ rfl (.inr p12)
                        subst eG
                        have p9 := hpre 9 (by kernel_rfl)
                        have e9 : s9 = .bool true := hF.get 9 _ rfl (.inr p9)
                        subst e9
                        refine step_of ⟨some 70, _, _, _, _, _⟩ rfl (fun K' hK => ?_)
                        rw [if_pos (by rfl)]
                        go_simp
                        go_at_call 20
                        (with_reducible refine (Qr4.out _ _ hGB (HE.out.below (below_none hF.low))).mono ?_)
                        rintro e Wq ⟨rfl, hq⟩
                        refine hK.out _ _ ⟨_, hF.pure hok hla hpre rfl hq, ?fr⟩
                        case fr => simp only [putO, layT_some, layT_none, layT_nil, List.setIfInBounds_toArray, List.set_cons_zero, List.set_cons_succ]
                · replace hge : 14 ≤ i := hgt
                  clear hgt
                  rcases Nat.lt_or_ge i 16 with hlt | hgt
                  · replace hi := hlt
                    clear hlt
                    rcases Nat.lt_or_ge i 15 with hlt | hgt
                    · replace hi := hlt
                      clear hlt
                      have he : i = 14 := Nat.le_antisymm (Nat.le_of_lt_succ hi) hge
                      subst he
                      have p9 := hpre 9 (by kernel_rfl)
                      have e9 : s9 = .bool true := hF.get 9 _ rfl (.inr p9)
                      subst e9
                      have hcc := (nine_at (keep_block H8.out (below_none hF.low))).1
                      have cH80 := hcc.1
                      have cH81 := hcc.2.1
                      have cH82 := hcc.2.2.1
                      have cH83 := hcc.2.2.2.1
                      have cH84 := hcc.2.2.2.2.1
                      have cH85 := hcc.2.2.2.2.2.1
                      have cH86 := hcc.2.2.2.2.2.2.1
                      have cH87 := hcc.2.2.2.2.2.2.2.1
                      have cH88 := hcc.2.2.2.2.2.2.2.2
                      clear hcc
                      refine step_of ⟨some 71, _, _, _, _, _⟩ rfl (fun K' hK => ?_)
                      rw [if_pos (by rfl)]
                      go_simp
                      refine hK.out _ _ ⟨_, hF.pure hok hla hpre rfl (Below.refl _ _), ?fr⟩
                      case fr => simp only [putO, layT_some, layT_none, layT_nil, List.setIfInBounds_toArray, List.set_cons_zero, List.set_cons_succ]
                    · replace hge : 15 ≤ i := hgt
                      clear hgt
                      have he : i = 15 := Nat.le_antisymm (Nat.le_of_lt_succ hi) hge
                      subst he
                      have p13 := hpre 13 (by kernel_rfl)
                      have e13 : s13 = .agg #[.int .i64 1, .string (numS X), .string (denS X), .string { data := #[] }, .bool false, .int .i64 0, .int .i64 0, .int .i64 0, .slice none 0 0] := hF.get 13 _ rfl (.inr p13)
                      subst e13
                      have p14 := hpre 14 (by kernel_rfl)
                      have e14 : s14 = .agg #[.int .i64 1, .string (numS X), .string (denS X), .string { data := #[] }, .bool false, .int .i64 0, .int .i64 0, .int .i64 0, .slice none 0 0] := hF.get 14 _ rfl (.inr p14)
                      subst e14
                      have p9 := hpre 9 (by kernel_rfl)
                      have e9 : s9 = .bool true := hF.get 9 _ rfl (.inr p9)
                      subst e9
                      refine step_of ⟨some 72, _, _, _, _, _⟩ rfl (fun K' hK => ?_)
                      rw [if_pos (by rfl)]
                      go_simp
                      go_at_call 14
                      (with_reducible refine (RS.out X _).mono ?_)
                      rintro e Wq ⟨rfl, hq⟩
                      refine hK.out _ _ ⟨_, hF.pure hok hla hpre rfl hq, ?fr⟩
                      case fr => simp only [putO, layT_some, layT_none, layT_nil, List.setIfInBounds_toArray, List.set_cons_zero, List.set_cons_succ]
                  · replace hge : 16 ≤ i := hgt
                    clear hgt
                    rcases Nat.lt_or_ge i 17 with hlt | hgt
                    · replace hi := hlt
                      clear hlt
                      have he : i = 16 := Nat.le_antisymm (Nat.le_of_lt_succ hi) hge
                      subst he
                      have p9 := hpre 9 (by kernel_rfl)
                      have e9 : s9 = .bool true := hF.get 9 _ rfl (.inr p9)
                      subst e9
                      have p15 := hpre 15 (by kernel_rfl)
                      have e15 : s15 = .bool true := hF.get 15 _ rfl (.inr p15)
                      subst e15
                      refine step_of ⟨some 73, _, _, _, _, _⟩ rfl (fun K' hK => ?_)
                      go_simp
                      refine hK.out _ _ ⟨_, hF.pure hok hla hpre rfl (Below.refl _ _), ?fr⟩
                      case fr => simp only [putO, layT_some, layT_none, layT_nil, List.setIfInBounds_toArray, List.set_cons_zero, List.set_cons_succ]
                    · replace hge : 17 ≤ i := hgt
                      clear hgt
                      rcases Nat.lt_or_ge i 18 with hlt | hgt
                      · replace hi := hlt
                        clear hlt
                        have he : i = 17 := Nat.le_antisymm (Nat.le_of_lt_succ hi) hge
                        subst he
                        have p16 := hpre 16 (by kernel_rfl)
                        have e16 : s16 = .bool true := hF.get 16 _ rfl (.inr p16)
                        subst e16
                        refine step_of ⟨some 74, _, _, _, _, _⟩ rfl (fun K' hK => ?_)
                        go_simp
                        refine hK.out _ _ ⟨_, hF.pure hok hla hpre rfl (Below.refl _ _), ?fr⟩
                        case fr => simp only [putO, layT_some, layT_none, layT_nil, List.setIfInBounds_toArray, List.set_cons_zero, List.set_cons_succ]
                      · replace hge : 18 ≤ i := hgt
                        clear hgt
                        have he : i = 18 := Nat.le_antisymm (Nat.le_of_lt_succ hi) hge
                        subst he
                        have p17 := hpre 17 (by kernel_rfl)
                        have e17 : s17 = .bool true := hF.get 17 _ rfl (.inr p17)
                        subst e17
                        have hcc := (nine_at (keep_block H6.out (below_none hF.low))).1
                        have cH60 := hcc.1
                        have cH61 := hcc.2.1
                        have cH62 := hcc.2.2.1
                        have cH63 := hcc.2.2.2.1
                        have cH64 := hcc.2.2.2.2.1
                        have cH65 := hcc.2.2.2.2.2.1
                        have cH66 := hcc.2.2.2.2.2.2.1
                        have cH67 := hcc.2.2.2.2.2.2.2.1
                        have cH68 := hcc.2.2.2.2.2.2.2.2
                        clear hcc
                        refine step_of ⟨some 75, _, _, _, _, _⟩ rfl (fun K' hK => ?_)
                        rw [if_pos (by rfl)]
                        go_simp
                        refine hK.out _ _ ⟨_, hF.pure hok hla hpre rfl (Below.refl _ _), ?fr⟩
                        case fr => simp only [putO, layT_some, layT_none, layT_nil, List.setIfInBounds_toArray, List.set_cons_zero, List.set_cons_succ]
            · replace hge : 19 ≤ i := hgt
              clear hgt
              rcases Nat.lt_or_ge i 29 with hlt | hgt
              · replace hi := hlt
                clear hlt
                rcases Nat.lt_or_ge i 24 with hlt | hgt
                · replace hi := hlt
                  clear hlt
                  rcases Nat.lt_or_ge i 21 with hlt | hgt
                  · replace hi := hlt
                    clear hlt
                    rcases Nat.lt_or_ge i 20 with hlt | hgt
                    · replace hi := hlt
                      clear hlt
                      have he : i = 19 := Nat.le_antisymm (Nat.le_of_lt_succ hi) hge
                      subst he
                      have p18 := hpre 18 (by kernel_rfl)
                      have e18 : s18 = .agg #[.int .i64 1, .string (numS O), .string (denS O), .string { data := #[] }, .bool false, .int .i64 0, .int .i64 0, .int .i64 0, .slice none 0 0] := hF.get 18 _ rfl (.inr p18)
                      subst e18
                      have p17 := hpre 17 (by kernel_rfl)
                      have e17 : s17 = .bool true := hF.get 17 _ rfl (.inr p17)
                      subst e17
                      refine step_of ⟨some 76, _, _, _, _, _⟩ rfl (fun K' hK => ?_)
                      rw [if_pos (by rfl)]
                      go_simp
                      refine hK.out _ _ ⟨_, hF.row hok hla hpre rfl, ?fr⟩
                      case fr => simp only [putO, layT_some, layT_none, layT_nil, List.setIfInBounds_toArray, List.set_cons_zero, List.set_cons_succ]
                    · replace hge : 20 ≤ i := hgt
                      clear hgt
                      have he : i = 20 := Nat.le_antisymm (Nat.le_of_lt_succ hi) hge
                      subst he
                      have p19 := hpre 19 (by kernel_rfl)
                      obtain ⟨G, eG, _, hGB⟩ : ∃ G, s19 = .slice (some ⟨G, 0, none⟩) 1 1 ∧ _ ≤ G ∧ Wr.heap[G]? = some (.cells #[.int .i64 1, .string (numS O), .string (denS O), .string { data := #[] }, .bool false, .int .i64 0, .int .i64 0, .int .i64 0, .slice none 0 0] 30 (0, 0)) := hF.get 19 _ rfl (.inr p19)
                      subst eG
                      have p17 := hpre 17 (by kernel_rfl)
                      have e17 : s17 = .bool true := hF.get 17 _ rfl (.inr p17)
                      subst e17
                      refine step_of ⟨some 77, _, _, _, _, _⟩ rfl (fun K' hK => ?_)
                      rw [if_pos (by rfl)]
                      go_simp
                      go_at_call 20
                      (with_reducible refine (Qr5.out _ _ hGB (HE.out.below (below_none hF.low))).mono ?_)
                      rintro e Wq ⟨rfl, hq⟩
                      refine hK.out _ _ ⟨_, hF.pure hok hla hpre rfl hq, ?fr⟩
                      case fr => simp only [putO, layT_some, layT_none, layT_nil, List.setIfInBounds_toArray, List.set_cons_zero, List.set_cons_succ]
                  · replace hge : 21 ≤ i := hgt
                    clear hgt
                    rcases Nat.lt_or_ge i 22 with hlt | hgt
                    · replace hi := hlt
                      clear hlt
                      have he : i = 21 := Nat.le_antisymm (Nat.le_of_lt_succ hi) hge
                      subst he
                      have p17 := hpre 17 (by kernel_rfl)
                      have e17 : s17 = .bool true := hF.get 17 _ rfl (.inr p17)
                      subst e17
                      have hcc := (nine_at (keep_block H7.out (below_none hF.low))).1
                      have cH70 := hcc.1
                      have cH71 := hcc.2.1
                      have cH72 := hcc.2.2.1
                      have cH73 := hcc.2.2.2.1
                      have cH74 := hcc.2.2.2.2.1
                      have cH75 := hcc.2.2.2.2.2.1
                      have cH76 := hcc.2.2.2.2.2.2.1
                      have cH77 := hcc.2.2.2.2.2.2.2.1
                      have cH78 := hcc.2.2.2.2.2.2.2.2
                      clear hcc
                      refine step_of ⟨some 78, _, _, _, _, _⟩ rfl (fun K' hK => ?_)
                      rw [if_pos (by rfl)]
                      go_simp
                      refine hK.out _ _ ⟨_, hF.pure hok hla hpre rfl (Below.refl _ _), ?fr⟩
                      case fr => simp only [putO, layT_some, layT_none, layT_nil, List.setIfInBounds_toArray, List.set_cons_zero, List.set_cons_succ]
                    · replace hge : 22 ≤ i := hgt
                      clear hgt
                      rcases Nat.lt_or_ge i 23 with hlt | hgt
                      · replace hi := hlt
                        clear hlt
                        have he : i = 22 := Nat.le_antisymm (Nat.le_of_lt_succ hi) hge
                        subst he
                        have p21 := hpre 21 (by kernel_rfl)
                        have e21 : s21 = .agg #[.int .i64 1, .string (numS E), .string (denS E), .string { data := #[] }, .bool false, .int .i64 0, .int .i64 0, .int .i64 0, .slice none 0 0] := hF.get 21 _ rfl (.inr p21)
                        subst e21
                        have p17 := hpre 17 (by kernel_rfl)
                        have e17 : s17 = .bool true := hF.get 17 _ rfl (.inr p17)
                        subst e17
                        refine step_of ⟨some 79, _, _, _, _, _⟩ rfl (fun K' hK => ?_)
                        rw [if_pos (by rfl)]
                        go_simp
                        refine hK.out _ _ ⟨_, hF.row hok hla hpre rfl, ?fr⟩
                        case fr => simp only [putO, layT_some, layT_none, layT_nil, List.setIfInBounds_toArray, List.set_cons_zero, List.set_cons_succ]
                      · replace hge : 23 ≤ i := hgt
                        clear hgt
                        have he : i = 23 := Nat.le_antisymm (Nat.le_of_lt_succ hi) hge
                        subst he
                        have p22 := hpre 22 (by kernel_rfl)
                        obtain ⟨G, eG, _, hGB⟩ : ∃ G, s22 = .slice (some ⟨G, 0, none⟩) 1 1 ∧ _ ≤ G ∧ Wr.heap[G]? = some (.cells #[.int .i64 1, .string (numS E), .string (denS E), .string { data := #[] }, .bool false, .int .i64 0, .int .i64 0, .int .i64 0, .slice none 0 0] 30 (0, 0)) := hF.get 22 _ rfl (.inr p22)
                        subst eG
                        have p17 := hpre 17 (by kernel_rfl)
                        have e17 : s17 = .bool true := hF.get 17 _ rfl (.inr p17)
                        subst e17
                        refine step_of ⟨some 80, _, _, _, _, _⟩ rfl (fun K' hK => ?_)
                        rw [if_pos (by rfl)]
                        go_simp
                        go_at_call 20
                        (with_reducible refine (Qr6.out _ _ hGB (HE.out.below (below_none hF.low))).mono ?_)
                        rintro e Wq ⟨rfl, hq⟩
                        refine hK.out _ _ ⟨_, hF.pure hok hla hpre rfl hq, ?fr⟩
                        case fr => simp only [putO, layT_some, layT_none, layT_nil, List.setIfInBounds_toArray, List.set_cons_zero, List.set_cons_succ]
                · replace hge : 24 ≤ i := hgt
                  clear hgt
                  rcases Nat.lt_or_ge i 26 with hlt | hgt
                  · replace hi := hlt
                    clear hlt
                    rcases Nat.lt_or_ge i 25 with hlt | hgt
                    · replace hi := hlt
                      clear hlt
                      have he : i = 24 := Nat.le_antisymm (Nat.le_of_lt_succ hi) hge
                      subst he
                      have p20 := hpre 20 (by kernel_rfl)
                      have e20 : s20 = .agg #[.int .i64 1, .string (numS Me), .string (denS Me), .string { data := #[] }, .bool false, .int .i64 0, .int .i64 0, .int .i64 0, .slice none 0 0] := hF.get 20 _ rfl (.inr p20)
                      subst e20
                      have p23 := hpre 23 (by kernel_rfl)
                      have e23 : s23 = .agg #[.int .i64 1, .string (numS Me), .string (denS Me), .string { data := #[] }, .bool false, .int .i64 0, .int .i64 0, .int .i64 0, .slice none 0 0] := hF.get 23 _ rfl (.inr p23)
                      subst e23
                      have p17 := hpre 17 (by kernel_rfl)
                      have e17 : s17 = .bool true := hF.get 17 _ rfl (.inr p17)
                      subst e17
                      refine step_of ⟨some 81, _, _, _, _, _⟩ rfl (fun K' hK => ?_)
                      rw [if_pos (by rfl)]
                      go_simp
                      go_at_call 14
                      (with_reducible refine (RS.out Me _).mono ?_)
                      rintro e Wq ⟨rfl, hq⟩
                      refine hK.out _ _ ⟨_, hF.pure hok hla hpre rfl hq, ?fr⟩
                      case fr => simp only [putO, layT_some, layT_none, layT_nil, List.setIfInBounds_toArray, List.set_cons_zero, List.set_cons_succ]
                    · replace hge : 25 ≤ i := hgt
                      clear hgt
                      have he : i = 25 := Nat.le_antisymm (Nat.le_of_lt_succ hi) hge
                      subst he
                      have p17 := hpre 17 (by kernel_rfl)
                      have e17 : s17 = .bool true := hF.get 17 _ rfl (.inr p17)
                      subst e17
                      have p24 := hpre 24 (by kernel_rfl)
                      have e24 : s24 = .bool true := hF.get 24 _ rfl (.inr p24)
                      subst e24
                      refine step_of ⟨some 82, _, _, _, _, _⟩ rfl (fun K' hK => ?_)
                      go_simp
                      refine hK.out _ _ ⟨_, hF.pure hok hla hpre rfl (Below.refl _ _), ?fr⟩
                      case fr => simp only [putO, layT_some, layT_none, layT_nil, List.setIfInBounds_toArray, List.set_cons_zero, List.set_cons_succ]
                  · replace hge : 26 ≤ i := hgt
                    clear hgt
                    rcases Nat.lt_or_ge i 27 with hlt | hgt
                    · replace hi := hlt
                      clear hlt
                      have he : i = 26 := Nat.le_antisymm (Nat.le_of_lt_succ hi) hge
                      subst he
                      have p25 := hpre 25 (by kernel_rfl)
                      have e25 : s25 = .bool true := hF.get 25 _ rfl (.inr p25)
                      subst e25
                      refine step_of ⟨some 83, _, _, _, _, _⟩ rfl (fun K' hK => ?_)
                      go_simp
                      refine hK.out _ _ ⟨_, hF.pure hok hla hpre rfl (Below.refl _ _), ?fr⟩
                      case fr => simp only [putO, layT_some, layT_none, layT_nil, List.setIfInBounds_toArray, List.set_cons_zero, List.set_cons_succ]
                    · replace hge : 27 ≤ i := hgt
                      clear hgt
                      rcases Nat.lt_or_ge i 28 with hlt | hgt
                      · replace hi := hlt
                        clear hlt
                        have he : i = 27 := Nat.le_antisymm (Nat.le_of_lt_succ hi) hge
                        subst he
                        have p26 := hpre 26 (by kernel_rfl)
                        have e26 : s26 = .bool true := hF.get 26 _ rfl (.inr p26)
                        subst e26
                        have hcc := (nine_at (keep_block H5.out (below_none hF.low))).1
                        have cH50 := hcc.1
                        have cH51 := hcc.2.1
                        have cH52 := hcc.2.2.1
                        have cH53 := hcc.2.2.2.1
                        have cH54 := hcc.2.2.2.2.1
                        have cH55 := hcc.2.2.2.2.2.1
                        have cH56 := hcc.2.2.2.2.2.2.1
                        have cH57 := hcc.2.2.2.2.2.2.2.1
                        have cH58 := hcc.2.2.2.2.2.2.2.2
                        clear hcc
                        refine step_of ⟨some 84, _, _, _, _, _⟩ rfl (fun K' hK => ?_)
                        rw [if_pos (by rfl)]
                        go_simp
                        refine hK.out _ _ ⟨_, hF.pure hok hla hpre rfl (Below.refl _ _), ?fr⟩
                        case fr => simp only [putO, layT_some, layT_none, layT_nil, List.setIfInBounds_toArray, List.set_cons_zero, List.set_cons_succ]
                      · replace hge : 28 ≤ i := hgt
                        clear hgt
                        have he : i = 28 := Nat.le_antisymm (Nat.le_of_lt_succ hi) hge
                        subst he
                        have p26 := hpre 26 (by kernel_rfl)
                        have e26 : s26 = .bool true := hF.get 26 _ rfl (.inr p26)
                        subst e26
                        have hcc := (nine_at (keep_block H7.out (below_none hF.low))).1
                        have cH70 := hcc.1
                        have cH71 := hcc.2.1
                        have cH72 := hcc.2.2.1
                        have cH73 := hcc.2.2.2.1
                        have cH74 := hcc.2.2.2.2.1
                        have cH75 := hcc.2.2.2.2.2.1
                        have cH76 := hcc.2.2.2.2.2.2.1
                        have cH77 := hcc.2.2.2.2.2.2.2.1
                        have cH78 := hcc.2.2.2.2.2.2.2.2
                        clear hcc
                        refine step_of ⟨some 85, _, _, _, _, _⟩ rfl (fun K' hK => ?_)
                        rw [if_pos (by rfl)]
                        go_simp
                        refine hK.out _ _ ⟨_, hF.pure hok hla hpre rfl (Below.refl _ _), ?fr⟩
                        case fr => simp only [putO, layT_some, layT_none, layT_nil, List.setIfInBounds_toArray, List.set_cons_zero, List.set_cons_succ]
              · replace hge : 29 ≤ i := hgt
                clear hgt
                rcases Nat.lt_or_ge i 34 with hlt | hgt
                · replace hi := hlt
                  clear hlt
                  rcases Nat.lt_or_ge i 31 with hlt | hgt
                  · replace hi := hlt
                    clear hlt
                    rcases Nat.lt_or_ge i 30 with hlt | hgt
                    · replace hi := hlt
                      clear hlt
                      have he : i = 29 := Nat.le_antisymm (Nat.le_of_lt_succ hi) hge
                      subst he
                      have p26 := hpre 26 (by kernel_rfl)
                      have e26 : s26 = .bool true := hF.get 26 _ rfl (.inr p26)
                      subst e26
                      refine step_of ⟨some 86, _, _, _, _, _⟩ rfl (fun K' hK => ?_)
                      rw [if_pos (by rfl)]
                      go_simp
                      go_at_call 21
                      (with_reducible refine (QtT.out _ (HE.out.below (below_none hF.low))).mono ?_)
                      rintro e Wq ⟨rfl, hq⟩
                      refine hK.out _ _ ⟨_, hF.pure hok hla hpre rfl hq, ?fr⟩
                      case fr => simp only [putO, layT_some, layT_none, layT_nil, List.setIfInBounds_toArray, List.set_cons_zero, List.set_cons_succ]
                    · replace hge : 30 ≤ i := hgt
                      clear hgt
                      have he : i = 30 := Nat.le_antisymm (Nat.le_of_lt_succ hi) hge
                      subst he
                      have p27 := hpre 27 (by kernel_rfl)
                      have e27 : s27 = .agg #[.int .i64 1, .string (numS D), .string (denS D), .string { data := #[] }, .bool false, .int .i64 0, .int .i64 0, .int .i64 0, .slice none 0 0] := hF.get 27 _ rfl (.inr p27)
                      subst e27
                      have p28 := hpre 28 (by kernel_rfl)
                      have e28 : s28 = .agg #[.int .i64 1, .string (numS E), .string (denS E), .string { data := #[] }, .bool false, .int .i64 0, .int .i64 0, .int .i64 0, .slice none 0 0] := hF.get 28 _ rfl (.inr p28)
                      subst e28
                      have p29 := hpre 29 (by kernel_rfl)
                      have e29 : s29 = .agg #[.int .i64 2, .string { data := #[] }, .string { data := #[] }, .string { data := #[68] }, .bool false, .int .i64 0, .int .i64 0, .int .i64 0, .slice none 0 0] := hF.get 29 _ rfl (.inr p29)
                      subst e29
                      have p26 := hpre 26 (by kernel_rfl)
                      have e26 : s26 = .bool true := hF.get 26 _ rfl (.inr p26)
                      subst e26
                      refine step_of ⟨some 87, _, _, _, _, _⟩ rfl (fun K' hK => ?_)
                      rw [if_pos (by rfl)]
                      go_simp
                      refine hK.out _ _ ⟨_, hF.row hok hla hpre rfl, ?fr⟩
                      case fr => simp only [putO, layT_some, layT_none, layT_nil, List.setIfInBounds_toArray, List.set_cons_zero, List.set_cons_succ]
                  · replace hge : 31 ≤ i := hgt
                    clear hgt
                    rcases Nat.lt_or_ge i 32 with hlt | hgt
                    · replace hi := hlt
                      clear hlt
                      have he : i = 31 := Nat.le_antisymm (Nat.le_of_lt_succ hi) hge
                      subst he
                      have p30 := hpre 30 (by kernel_rfl)
                      obtain ⟨G, eG, _, hGB⟩ : ∃ G, s30 = .slice (some ⟨G, 0, none⟩) 3 3 ∧ _ ≤ G ∧ Wr.heap[G]? = some (.cells #[.int .i64 1, .string (numS D), .string (denS D), .string { data := #[] }, .bool false, .int .i64 0, .int .i64 0, .int .i64 0, .slice none 0 0, .int .i64 1, .string (numS E), .string (denS E), .string { data := #[] }, .bool false, .int .i64 0, .int .i64 0, .int .i64 0, .slice none 0 0, .int .i64 2, .string { data := #[] }, .string { data := #[] }, .string { data := #[68] }, .bool false, .int .i64 0, .int .i64 0, .int .i64 0, .slice none 0 0] 30 (0, 0)) := hF.get 30 _ rfl (.inr p30)
                      subst eG
                      have p26 := hpre 26 (by kernel_rfl)
                      have e26 : s26 = .bool true := hF.get 26 _ rfl (.inr p26)
                      subst e26
                      refine step_of ⟨some 88, _, _, _, _, _⟩ rfl (fun K' hK => ?_)
                      rw [if_pos (by rfl)]
                      go_simp
                      go_at_call 20
                      (with_reducible refine (Qr7.out _ _ hGB (HE.out.below (below_none hF.low))).mono ?_)
                      rintro e Wq ⟨rfl, hq⟩
                      refine hK.out _ _ ⟨_, hF.pure hok hla hpre rfl hq, ?fr⟩
                      case fr => simp only [putO, layT_some, layT_none, layT_nil, List.setIfInBounds_toArray, List.set_cons_zero, List.set_cons_succ]
                    · replace hge : 32 ≤ i := hgt
                      clear hgt
                      rcases Nat.lt_or_ge i 33 with hlt | hgt
                      · replace hi := hlt
                        clear hlt
                        have he : i = 32 := Nat.le_antisymm (Nat.le_of_lt_succ hi) hge
                        subst he
                        have p26 := hpre 26 (by kernel_rfl)
                        have e26 : s26 = .bool true := hF.get 26 _ rfl (.inr p26)
                        subst e26
                        have hcc := (nine_at (keep_block H7.out (below_none hF.low))).1
                        have cH70 := hcc.1
                        have cH71 := hcc.2.1
                        have cH72 := hcc.2.2.1
                        have cH73 := hcc.2.2.2.1
                        have cH74 := hcc.2.2.2.2.1
                        have cH75 := hcc.2.2.2.2.2.1
                        have cH76 := hcc.2.2.2.2.2.2.1
                        have cH77 := hcc.2.2.2.2.2.2.2.1
                        have cH78 := hcc.2.2.2.2.2.2.2.2
                        clear hcc
                        refine step_of ⟨some 89, _, _, _, _, _⟩ rfl (fun K' hK => ?_)
                        rw [if_pos (by rfl)]
                        go_simp
                        refine hK.out _ _ ⟨_, hF.pure hok hla hpre rfl (Below.refl _ _), ?fr⟩
                        case fr => simp only [putO, layT_some, layT_none, layT_nil, List.setIfInBounds_toArray, List.set_cons_zero, List.set_cons_succ]
                      · replace hge : 33 ≤ i := hgt
                        clear hgt
                        have he : i = 33 := Nat.le_antisymm (Nat.le_of_lt_succ hi) hge
                        subst he
                        have p26 := hpre 26 (by kernel_rfl)
                        have e26 : s26 = .bool true := hF.get 26 _ rfl (.inr p26)
                        subst e26
                        have hcc := (nine_at (keep_block H5.out (below_none hF.low))).1
                        have cH50 := hcc.1
                        have cH51 := hcc.2.1
                        have cH52 := hcc.2.2.1
                        have cH53 := hcc.2.2.2.1
                        have cH54 := hcc.2.2.2.2.1
                        have cH55 := hcc.2.2.2.2.2.1
                        have cH56 := hcc.2.2.2.2.2.2.1
                        have cH57 := hcc.2.2.2.2.2.2.2.1
                        have cH58 := hcc.2.2.2.2.2.2.2.2
                        clear hcc
                        refine step_of ⟨some 90, _, _, _, _, _⟩ rfl (fun K' hK => ?_)
                        rw [if_pos (by rfl)]
                        go_simp
                        refine hK.out _ _ ⟨_, hF.pure hok hla hpre rfl (Below.refl _ _), ?fr⟩
                        case fr => simp only [putO, layT_some, layT_none, layT_nil, List.setIfInBounds_toArray, List.set_cons_zero, List.set_cons_succ]
                · replace hge : 34 ≤ i := hgt
                  clear hgt
                  rcases Nat.lt_or_ge i 36 with hlt | hgt
                  · replace hi := hlt
                    clear hlt
                    rcases Nat.lt_or_ge i 35 with hlt | hgt
                    · replace hi := hlt
                      clear hlt
                      have he : i = 34 := Nat.le_antisymm (Nat.le_of_lt_succ hi) hge
                      subst he
                      have p32 := hpre 32 (by kernel_rfl)
                      have e32 : s32 = .agg #[.int .i64 1, .string (numS E), .string (denS E), .string { data := #[] }, .bool false, .int .i64 0, .int .i64 0, .int .i64 0, .slice none 0 0] := hF.get 32 _ rfl (.inr p32)
                      subst e32
                      have p33 := hpre 33 (by kernel_rfl)
                      have e33 : s33 = .agg #[.int .i64 1, .string (numS D), .string (denS D), .string { data := #[] }, .bool false, .int .i64 0, .int .i64 0, .int .i64 0, .slice none 0 0] := hF.get 33 _ rfl (.inr p33)
                      subst e33
                      have p26 := hpre 26 (by kernel_rfl)
                      have e26 : s26 = .bool true := hF.get 26 _ rfl (.inr p26)
                      subst e26
                      refine step_of ⟨some 91, _, _, _, _, _⟩ rfl (fun K' hK => ?_)
                      rw [if_pos (by rfl)]
                      go_simp
                      refine hK.out _ _ ⟨_, hF.row hok hla hpre rfl, ?fr⟩
                      case fr => simp only [putO, layT_some, layT_none, layT_nil, List.setIfInBounds_toArray, List.set_cons_zero, List.set_cons_succ]
                    · replace hge : 35 ≤ i := hgt
                      clear hgt
                      have he : i = 35 := Nat.le_antisymm (Nat.le_of_lt_succ hi) hge
                      subst he
                      have p34 := hpre 34 (by kernel_rfl)
                      obtain ⟨G, eG, _, hGB⟩ : ∃ G, s34 = .slice (some ⟨G, 0, none⟩) 2 2 ∧ _ ≤ G ∧ Wr.heap[G]? = some (.cells #[.int .i64 1, .string (numS E), .string (denS E), .string { data := #[] }, .bool false, .int .i64 0, .int .i64 0, .int .i64 0, .slice none 0 0, .int .i64 1, .string (numS D), .string (denS D), .string { data := #[] }, .bool false, .int .i64 0, .int .i64 0, .int .i64 0, .slice none 0 0] 30 (0, 0)) := hF.get 34 _ rfl (.inr p34)
                      subst eG
                      have p26 := hpre 26 (by kernel_rfl)
                      have e26 : s26 = .bool true := hF.get 26 _ rfl (.inr p26)
                      subst e26
                      refine step_of ⟨some 92, _, _, _, _, _⟩ rfl (fun K' hK => ?_)
                      rw [if_pos (by rfl)]
                      go_simp
                      go_at_call 20
                      (with_reducible refine (Qr8.out _ _ hGB (HE.out.below (below_none hF.low))).mono ?_)
                      rintro e Wq ⟨rfl, hq⟩
                      refine hK.out _ _ ⟨_, hF.pure hok hla hpre rfl hq, ?fr⟩
                      case fr => simp only [putO, layT_some, layT_none, layT_nil, List.setIfInBounds_toArray, List.set_cons_zero, List.set_cons_succ]
                  · replace hge : 36 ≤ i := hgt
                    clear hgt
                    rcases Nat.lt_or_ge i 37 with hlt | hgt
                    · replace hi := hlt
                      clear hlt
                      have he : i = 36 := Nat.le_antisymm (Nat.le_of_lt_succ hi) hge
                      subst he
                      have p31 := hpre 31 (by kernel_rfl)
                      have e31 : s31 = .agg #[.int .i64 1, .string (numS DA), .string (denS DA), .string { data := #[] }, .bool false, .int .i64 0, .int .i64 0, .int .i64 0, .slice none 0 0] := hF.get 31 _ rfl (.inr p31)
                      subst e31
                      have p35 := hpre 35 (by kernel_rfl)
                      have e35 : s35 = .agg #[.int .i64 1, .string (numS DA), .string (denS DA), .string { data := #[] }, .bool false, .int .i64 0, .int .i64 0, .int .i64 0, .slice none 0 0] := hF.get 35 _ rfl (.inr p35)
                      subst e35
                      have p26 := hpre 26 (by kernel_rfl)
                      have e26 : s26 = .bool true := hF.get 26 _ rfl (.inr p26)
                      subst e26
                      refine step_of ⟨some 93, _, _, _, _, _⟩ rfl (fun K' hK => ?_)
                      rw [if_pos (by rfl)]
                      go_simp
                      go_at_call 14
                      (with_reducible refine (RS.out DA _).mono ?_)
                      rintro e Wq ⟨rfl, hq⟩
                      refine hK.out _ _ ⟨_, hF.pure hok hla hpre rfl hq, ?fr⟩
                      case fr => simp only [putO, layT_some, layT_none, layT_nil, List.setIfInBounds_toArray, List.set_cons_zero, List.set_cons_succ]
                    · replace hge : 37 ≤ i := hgt
                      clear hgt
                      rcases Nat.lt_or_ge i 38 with hlt | hgt
                      · replace hi := hlt
                        clear hlt
                        have he : i = 37 := Nat.le_antisymm (Nat.le_of_lt_succ hi) hge
                        subst he
                        have p26 := hpre 26 (by kernel_rfl)
                        have e26 : s26 = .bool true := hF.get 26 _ rfl (.inr p26)
                        subst e26
                        have p36 := hpre 36 (by kernel_rfl)
                        have e36 : s36 = .bool true := hF.get 36 _ rfl (.inr p36)
                        subst e36
                        refine step_of ⟨some 94, _, _, _, _, _⟩ rfl (fun K' hK => ?_)
                        go_simp
                        refine hK.out _ _ ⟨_, hF.pure hok hla hpre rfl (Below.refl _ _), ?fr⟩
                        case fr => simp only [putO, layT_some, layT_none, layT_nil, List.setIfInBounds_toArray, List.set_cons_zero, List.set_cons_succ]
                      · replace hge : 38 ≤ i := hgt
                        clear hgt
                        have he : i = 38 := Nat.le_antisymm (Nat.le_of_lt_succ hi) hge
                        subst he
                        have p37 := hpre 37 (by kernel_rfl)
                        have e37 : s37 = .bool true := hF.get 37 _ rfl (.inr p37)
                        subst e37
                        refine step_of ⟨some 4, _, _, _, _, _⟩ rfl (fun K' hK => ?_)
                        go_simp
                        refine hK.out _ _ ⟨_, hF.pure hok hla hpre rfl (Below.refl _ _), ?fr⟩
                        case fr => simp only [putO, layT_some, layT_none, layT_nil, List.setIfInBounds_toArray, List.set_cons_zero, List.set_cons_succ]
          case hd =>
            rintro listed vs WF hF hall
            obtain ⟨s0, s1, s2, s3, s4, s5, s6, s7, s8, s9, s10, s11, s12, s13, s14, s15, s16, s17, s18, s19, s20, s21, s22, s23, s24, s25, s26, s27, s28, s29, s30, s31, s32, s33, s34, s35, s36, s37, s38, hvs⟩ := exl_of 39 vs (fun l => vs = l) hF.len rfl
            subst hvs
            have e37 : s37 = .bool true := hF.get 37 _ rfl (.inr (hall 37 (by decide)))
            subst e37
            have e38 : s38 = .bool true := hF.get 38 _ rfl (.inr (hall 38 (by decide)))
            subst e38
            have hq := below_none hF.low
            replace HE := Lib.hid (HE.out.below hq)
            replace HL := Lib.hid (HL.out.trans (hq.mono HL.out.size))
            replace H5 := Lib.hid (keep_block H5.out hq)
            replace H6 := Lib.hid (keep_block H6.out hq)
            replace H7 := Lib.hid (keep_block H7.out hq)
            replace H8 := Lib.hid (keep_block H8.out hq)
            replace H9 := Lib.hid (keep_block H9.out hq)
            clear hq
            clear hF hall hok hna hla
            simp only [putO, layT_some, layT_none, layT_nil, List.setIfInBounds_toArray, List.set_cons_zero, List.set_cons_succ]
            go_wp2
            go_ret
            exact ⟨rfl, HL.out⟩

end Go.Proofs.YtphfefmlappidaaGreatDoor.Num.Fd
