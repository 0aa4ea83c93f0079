/- Numbers as texts of digits, fractions, values and the functions of fmath: contracts of the program's functions, joined from smaller texts. Conditions stand at each theorem. -/
import Derived.Test.YtphfefmlappidaaGreatDoorFdcD

/- The law FdateBack's own walk. Conditions: the tables lie as they are laid. -/
namespace Go.Proofs.YtphfefmlappidaaGreatDoor.Num.Fd
open Go.RowKit Go.Lib Num

set_option linter.unusedVariables false in
/-- what the operations of region 6 yield -/
def BkhighKs6 (m t u : Int) (D T B tw Wk Y Mo Da H Mi Se ze X : Rat) : List RK :=
  [.pure (.agg #[.int .i64 1, .string (numS D), .string (denS D), .string { data := #[] }, .bool false, .int .i64 0, .int .i64 0, .int .i64 0, .slice none 0 0]),
   .pure (.agg #[.int .i64 1, .string (numS tw), .string (denS tw), .string { data := #[] }, .bool false, .int .i64 0, .int .i64 0, .int .i64 0, .slice none 0 0]),
   .row #[.int .i64 1, .string (numS D), .string (denS D), .string { data := #[] }, .bool false, .int .i64 0, .int .i64 0, .int .i64 0, .slice none 0 0, .int .i64 1, .string (numS tw), .string (denS tw), .string { data := #[] }, .bool false, .int .i64 0, .int .i64 0, .int .i64 0, .slice none 0 0] 30 2,
   .pure (.agg #[.int .i64 1, .string (numS Wk), .string (denS Wk), .string { data := #[] }, .bool false, .int .i64 0, .int .i64 0, .int .i64 0, .slice none 0 0]),
   .box none #[.int .i64 0, .string { data := #[] }, .string { data := #[] }, .string { data := #[] }, .bool false, .int .i64 0, .int .i64 0, .int .i64 0, .slice none 0 0] #[.int .i64 1, .string (numS Wk), .string (denS Wk), .string { data := #[] }, .bool false, .int .i64 0, .int .i64 0, .int .i64 0, .slice none 0 0] 30 5,
   .put 4]
set_option linter.unusedVariables false in
/-- what the operations of region 7 yield -/
def BkhighKs7 (m t u : Int) (D T B tw Wk Y Mo Da H Mi Se ze X : Rat) : List RK :=
  [.pure (.agg #[.int .i64 1, .string (numS D), .string (denS D), .string { data := #[] }, .bool false, .int .i64 0, .int .i64 0, .int .i64 0, .slice none 0 0]),
   .row #[.int .i64 1, .string (numS D), .string (denS D), .string { data := #[] }, .bool false, .int .i64 0, .int .i64 0, .int .i64 0, .slice none 0 0] 30 1,
   .pure (.agg #[.int .i64 1, .string (numS Y), .string (denS Y), .string { data := #[] }, .bool false, .int .i64 0, .int .i64 0, .int .i64 0, .slice none 0 0]),
   .pure (.agg #[.int .i64 1, .string (numS D), .string (denS D), .string { data := #[] }, .bool false, .int .i64 0, .int .i64 0, .int .i64 0, .slice none 0 0]),
   .row #[.int .i64 1, .string (numS D), .string (denS D), .string { data := #[] }, .bool false, .int .i64 0, .int .i64 0, .int .i64 0, .slice none 0 0] 30 1,
   .pure (.agg #[.int .i64 1, .string (numS Mo), .string (denS Mo), .string { data := #[] }, .bool false, .int .i64 0, .int .i64 0, .int .i64 0, .slice none 0 0]),
   .pure (.agg #[.int .i64 1, .string (numS D), .string (denS D), .string { data := #[] }, .bool false, .int .i64 0, .int .i64 0, .int .i64 0, .slice none 0 0]),
   .row #[.int .i64 1, .string (numS D), .string (denS D), .string { data := #[] }, .bool false, .int .i64 0, .int .i64 0, .int .i64 0, .slice none 0 0] 30 1,
   .pure (.agg #[.int .i64 1, .string (numS Da), .string (denS Da), .string { data := #[] }, .bool false, .int .i64 0, .int .i64 0, .int .i64 0, .slice none 0 0]),
   .row #[.int .i64 1, .string (numS Y), .string (denS Y), .string { data := #[] }, .bool false, .int .i64 0, .int .i64 0, .int .i64 0, .slice none 0 0, .int .i64 1, .string (numS Mo), .string (denS Mo), .string { data := #[] }, .bool false, .int .i64 0, .int .i64 0, .int .i64 0, .slice none 0 0, .int .i64 1, .string (numS Da), .string (denS Da), .string { data := #[] }, .bool false, .int .i64 0, .int .i64 0, .int .i64 0, .slice none 0 0] 30 3,
   .pure (.agg #[.int .i64 1, .string (numS D), .string (denS D), .string { data := #[] }, .bool false, .int .i64 0, .int .i64 0, .int .i64 0, .slice none 0 0]),
   .pure (.agg #[.int .i64 1, .string (numS D), .string (denS D), .string { data := #[] }, .bool false, .int .i64 0, .int .i64 0, .int .i64 0, .slice none 0 0]),
   .pure (.bool true),
   .pure (.bool true),
   .pure (.agg #[.int .i64 1, .string (numS B), .string (denS B), .string { data := #[] }, .bool false, .int .i64 0, .int .i64 0, .int .i64 0, .slice none 0 0]),
   .row #[.int .i64 1, .string (numS B), .string (denS B), .string { data := #[] }, .bool false, .int .i64 0, .int .i64 0, .int .i64 0, .slice none 0 0] 30 1,
   .pure (.agg #[.int .i64 1, .string (numS H), .string (denS H), .string { data := #[] }, .bool false, .int .i64 0, .int .i64 0, .int .i64 0, .slice none 0 0]),
   .pure (.agg #[.int .i64 1, .string (numS B), .string (denS B), .string { data := #[] }, .bool false, .int .i64 0, .int .i64 0, .int .i64 0, .slice none 0 0]),
   .row #[.int .i64 1, .string (numS B), .string (denS B), .string { data := #[] }, .bool false, .int .i64 0, .int .i64 0, .int .i64 0, .slice none 0 0] 30 1,
   .pure (.agg #[.int .i64 1, .string (numS Mi), .string (denS Mi), .string { data := #[] }, .bool false, .int .i64 0, .int .i64 0, .int .i64 0, .slice none 0 0]),
   .pure (.agg #[.int .i64 1, .string (numS B), .string (denS B), .string { data := #[] }, .bool false, .int .i64 0, .int .i64 0, .int .i64 0, .slice none 0 0]),
   .row #[.int .i64 1, .string (numS B), .string (denS B), .string { data := #[] }, .bool false, .int .i64 0, .int .i64 0, .int .i64 0, .slice none 0 0] 30 1,
   .pure (.agg #[.int .i64 1, .string (numS Se), .string (denS Se), .string { data := #[] }, .bool false, .int .i64 0, .int .i64 0, .int .i64 0, .slice none 0 0]),
   .row #[.int .i64 1, .string (numS H), .string (denS H), .string { data := #[] }, .bool false, .int .i64 0, .int .i64 0, .int .i64 0, .slice none 0 0, .int .i64 1, .string (numS Mi), .string (denS Mi), .string { data := #[] }, .bool false, .int .i64 0, .int .i64 0, .int .i64 0, .slice none 0 0, .int .i64 1, .string (numS Se), .string (denS Se), .string { data := #[] }, .bool false, .int .i64 0, .int .i64 0, .int .i64 0, .slice none 0 0] 30 3,
   .pure (.agg #[.int .i64 1, .string (numS T), .string (denS T), .string { data := #[] }, .bool false, .int .i64 0, .int .i64 0, .int .i64 0, .slice none 0 0]),
   .pure (.agg #[.int .i64 1, .string (numS T), .string (denS T), .string { data := #[] }, .bool false, .int .i64 0, .int .i64 0, .int .i64 0, .slice none 0 0]),
   .pure (.bool true),
   .pure (.bool true),
   .pure (.bool true),
   .pure (.agg #[.int .i64 1, .string (numS B), .string (denS B), .string { data := #[] }, .bool false, .int .i64 0, .int .i64 0, .int .i64 0, .slice none 0 0]),
   .pure (.agg #[.int .i64 1, .string (numS D), .string (denS D), .string { data := #[] }, .bool false, .int .i64 0, .int .i64 0, .int .i64 0, .slice none 0 0]),
   .row #[.int .i64 1, .string (numS B), .string (denS B), .string { data := #[] }, .bool false, .int .i64 0, .int .i64 0, .int .i64 0, .slice none 0 0, .int .i64 1, .string (numS D), .string (denS D), .string { data := #[] }, .bool false, .int .i64 0, .int .i64 0, .int .i64 0, .slice none 0 0] 30 2,
   .pure (.agg #[.int .i64 1, .string (numS ze), .string (denS ze), .string { data := #[] }, .bool false, .int .i64 0, .int .i64 0, .int .i64 0, .slice none 0 0]),
   .pure (.agg #[.int .i64 1, .string (numS ze), .string (denS ze), .string { data := #[] }, .bool false, .int .i64 0, .int .i64 0, .int .i64 0, .slice none 0 0]),
   .pure (.bool true),
   .pure (.bool true),
   .pure (.bool true),
   .pure (.int .i64 (1 + m)),
   .pure (.int .i64 (1 + m - 7)),
   .pure (.int .i64 u),
   .pure (.agg #[.int .i64 1, .string (numS X), .string (denS X), .string { data := #[] }, .bool false, .int .i64 0, .int .i64 0, .int .i64 0, .slice none 0 0]),
   .pure (.agg #[.int .i64 1, .string (numS tw), .string (denS tw), .string { data := #[] }, .bool false, .int .i64 0, .int .i64 0, .int .i64 0, .slice none 0 0]),
   .row #[.int .i64 1, .string (numS X), .string (denS X), .string { data := #[] }, .bool false, .int .i64 0, .int .i64 0, .int .i64 0, .slice none 0 0, .int .i64 1, .string (numS tw), .string (denS tw), .string { data := #[] }, .bool false, .int .i64 0, .int .i64 0, .int .i64 0, .slice none 0 0] 30 2,
   .pure (.agg #[.int .i64 1, .string (numS Wk), .string (denS Wk), .string { data := #[] }, .bool false, .int .i64 0, .int .i64 0, .int .i64 0, .slice none 0 0]),
   .pure (.agg #[.int .i64 1, .string (numS Wk), .string (denS Wk), .string { data := #[] }, .bool false, .int .i64 0, .int .i64 0, .int .i64 0, .slice none 0 0]),
   .pure (.bool true),
   .pure (.int .i64 (1 + m)),
   .pure (.bool true),
   .pure (.bool true),
   .pure (undef),
   .pure (undef),
   .pure (.bool true),
   .pure (.bool true),
   .pure (.bool true),
   .pure (.bool true)]
attribute [local irreducible] wpOp
set_option linter.unusedSimpArgs false in
set_option linter.unusedVariables false in
set_option maxHeartbeats 16000000 in
set_option maxRecDepth 100000 in
theorem back_high (n s m t u : Int) (D T B tw Wk Y Mo Da H Mi Se ze X : Rat) (w : World) (hE : Env w) (hn0 : -9223372036854775808 ≤ n) (hn1 : n ≤ 9223372036854775807) (hs0 : -9223372036854775808 ≤ s) (hs1 : s ≤ 9223372036854775807) (hm : n % 2958464 = m) (ht : s % 86400 = t) (hu : max 1 (1 + m - 7) = u) (hhi : 7 < 1 + m)
    (r0 : DateRow { data := #[87, 69, 69, 75, 68, 65, 89] } #[.int .i64 1, .string (numS D), .string (denS D), .string { data := #[] }, .bool false, .int .i64 0, .int .i64 0, .int .i64 0, .slice none 0 0, .int .i64 1, .string (numS tw), .string (denS tw), .string { data := #[] }, .bool false, .int .i64 0, .int .i64 0, .int .i64 0, .slice none 0 0] 2 (.agg #[.int .i64 1, .string (numS Wk), .string (denS Wk), .string { data := #[] }, .bool false, .int .i64 0, .int .i64 0, .int .i64 0, .slice none 0 0]))
    (r1 : DateRow { data := #[89, 69, 65, 82] } #[.int .i64 1, .string (numS D), .string (denS D), .string { data := #[] }, .bool false, .int .i64 0, .int .i64 0, .int .i64 0, .slice none 0 0] 1 (.agg #[.int .i64 1, .string (numS Y), .string (denS Y), .string { data := #[] }, .bool false, .int .i64 0, .int .i64 0, .int .i64 0, .slice none 0 0]))
    (r2 : DateRow { data := #[77, 79, 78, 84, 72] } #[.int .i64 1, .string (numS D), .string (denS D), .string { data := #[] }, .bool false, .int .i64 0, .int .i64 0, .int .i64 0, .slice none 0 0] 1 (.agg #[.int .i64 1, .string (numS Mo), .string (denS Mo), .string { data := #[] }, .bool false, .int .i64 0, .int .i64 0, .int .i64 0, .slice none 0 0]))
    (r3 : DateRow { data := #[68, 65, 89] } #[.int .i64 1, .string (numS D), .string (denS D), .string { data := #[] }, .bool false, .int .i64 0, .int .i64 0, .int .i64 0, .slice none 0 0] 1 (.agg #[.int .i64 1, .string (numS Da), .string (denS Da), .string { data := #[] }, .bool false, .int .i64 0, .int .i64 0, .int .i64 0, .slice none 0 0]))
    (r4 : DateRow { data := #[68, 65, 84, 69] } #[.int .i64 1, .string (numS Y), .string (denS Y), .string { data := #[] }, .bool false, .int .i64 0, .int .i64 0, .int .i64 0, .slice none 0 0, .int .i64 1, .string (numS Mo), .string (denS Mo), .string { data := #[] }, .bool false, .int .i64 0, .int .i64 0, .int .i64 0, .slice none 0 0, .int .i64 1, .string (numS Da), .string (denS Da), .string { data := #[] }, .bool false, .int .i64 0, .int .i64 0, .int .i64 0, .slice none 0 0] 3 (.agg #[.int .i64 1, .string (numS D), .string (denS D), .string { data := #[] }, .bool false, .int .i64 0, .int .i64 0, .int .i64 0, .slice none 0 0]))
    (r5 : DateRow { data := #[72, 79, 85, 82] } #[.int .i64 1, .string (numS B), .string (denS B), .string { data := #[] }, .bool false, .int .i64 0, .int .i64 0, .int .i64 0, .slice none 0 0] 1 (.agg #[.int .i64 1, .string (numS H), .string (denS H), .string { data := #[] }, .bool false, .int .i64 0, .int .i64 0, .int .i64 0, .slice none 0 0]))
    (r6 : DateRow { data := #[77, 73, 78, 85, 84, 69] } #[.int .i64 1, .string (numS B), .string (denS B), .string { data := #[] }, .bool false, .int .i64 0, .int .i64 0, .int .i64 0, .slice none 0 0] 1 (.agg #[.int .i64 1, .string (numS Mi), .string (denS Mi), .string { data := #[] }, .bool false, .int .i64 0, .int .i64 0, .int .i64 0, .slice none 0 0]))
    (r7 : DateRow { data := #[83, 69, 67, 79, 78, 68] } #[.int .i64 1, .string (numS B), .string (denS B), .string { data := #[] }, .bool false, .int .i64 0, .int .i64 0, .int .i64 0, .slice none 0 0] 1 (.agg #[.int .i64 1, .string (numS Se), .string (denS Se), .string { data := #[] }, .bool false, .int .i64 0, .int .i64 0, .int .i64 0, .slice none 0 0]))
    (r8 : DateRow { data := #[84, 73, 77, 69] } #[.int .i64 1, .string (numS H), .string (denS H), .string { data := #[] }, .bool false, .int .i64 0, .int .i64 0, .int .i64 0, .slice none 0 0, .int .i64 1, .string (numS Mi), .string (denS Mi), .string { data := #[] }, .bool false, .int .i64 0, .int .i64 0, .int .i64 0, .slice none 0 0, .int .i64 1, .string (numS Se), .string (denS Se), .string { data := #[] }, .bool false, .int .i64 0, .int .i64 0, .int .i64 0, .slice none 0 0] 3 (.agg #[.int .i64 1, .string (numS T), .string (denS T), .string { data := #[] }, .bool false, .int .i64 0, .int .i64 0, .int .i64 0, .slice none 0 0]))
    (r9 : DateRow { data := #[68, 65, 89, 83] } #[.int .i64 1, .string (numS B), .string (denS B), .string { data := #[] }, .bool false, .int .i64 0, .int .i64 0, .int .i64 0, .slice none 0 0, .int .i64 1, .string (numS D), .string (denS D), .string { data := #[] }, .bool false, .int .i64 0, .int .i64 0, .int .i64 0, .slice none 0 0] 2 (.agg #[.int .i64 1, .string (numS ze), .string (denS ze), .string { data := #[] }, .bool false, .int .i64 0, .int .i64 0, .int .i64 0, .slice none 0 0]))
    (r10 : DateRow { data := #[87, 69, 69, 75, 68, 65, 89] } #[.int .i64 1, .string (numS X), .string (denS X), .string { data := #[] }, .bool false, .int .i64 0, .int .i64 0, .int .i64 0, .slice none 0 0, .int .i64 1, .string (numS tw), .string (denS tw), .string { data := #[] }, .bool false, .int .i64 0, .int .i64 0, .int .i64 0, .slice none 0 0] 2 (.agg #[.int .i64 1, .string (numS Wk), .string (denS Wk), .string { data := #[] }, .bool false, .int .i64 0, .int .i64 0, .int .i64 0, .slice none 0 0]))
    (tD : Fun1 11 (.int .i64 (1 + m)) (.agg #[.int .i64 1, .string (numS D), .string (denS D), .string { data := #[] }, .bool false, .int .i64 0, .int .i64 0, .int .i64 0, .slice none 0 0]))
    (ttw : Fun1 11 (.int .i64 2) (.agg #[.int .i64 1, .string (numS tw), .string (denS tw), .string { data := #[] }, .bool false, .int .i64 0, .int .i64 0, .int .i64 0, .slice none 0 0]))
    (tze : Fun1 11 (.int .i64 0) (.agg #[.int .i64 1, .string (numS ze), .string (denS ze), .string { data := #[] }, .bool false, .int .i64 0, .int .i64 0, .int .i64 0, .slice none 0 0]))
    (tX : Fun1 11 (.int .i64 u) (.agg #[.int .i64 1, .string (numS X), .string (denS X), .string { data := #[] }, .bool false, .int .i64 0, .int .i64 0, .int .i64 0, .slice none 0 0]))
    (tR : Fun2 8 (.int .i64 t) (.int .i64 86400) (.tuple #[.agg #[.string (numS T), .string (denS T)], .int .i64 0]))
    (tN : Fun1 10 (.agg #[.string (numS T), .string (denS T)]) (.agg #[.int .i64 1, .string (numS T), .string (denS T), .string { data := #[] }, .bool false, .int .i64 0, .int .i64 0, .int .i64 0, .slice none 0 0]))
    (tB : Fun2 15 (.agg #[.int .i64 1, .string (numS D), .string (denS D), .string { data := #[] }, .bool false, .int .i64 0, .int .i64 0, .int .i64 0, .slice none 0 0]) (.agg #[.int .i64 1, .string (numS T), .string (denS T), .string { data := #[] }, .bool false, .int .i64 0, .int .i64 0, .int .i64 0, .slice none 0 0]) (.agg #[.int .i64 1, .string (numS B), .string (denS B), .string { data := #[] }, .bool false, .int .i64 0, .int .i64 0, .int .i64 0, .slice none 0 0])) :
    Calls Tryz.prog 5 #[.int .i64 n, .int .i64 s] w fun e w' => e = .returned (.bool true) ∧ Below w.heap.size w w' := by
  have TMn := Lib.hid (fun W => kmod_any n 2958464 hn0 hn1 (by decide) (by decide) W)
  rw [hm] at TMn
  have TMs := Lib.hid (fun W => kmod_any s 86400 hs0 hs1 (by decide) (by decide) W)
  rw [ht] at TMs
  have hm0 : 0 ≤ m ∧ m ≤ 2958463 := by omega
  have ht0 : 0 ≤ t ∧ t ≤ 86399 := by omega
  have Qr0 := Lib.hid (fun W G h g => r0 W G h g)
  have Qr1 := Lib.hid (fun W G h g => r1 W G h g)
  have Qr2 := Lib.hid (fun W G h g => r2 W G h g)
  have Qr3 := Lib.hid (fun W G h g => r3 W G h g)
  have Qr4 := Lib.hid (fun W G h g => r4 W G h g)
  have Qr5 := Lib.hid (fun W G h g => r5 W G h g)
  have Qr6 := Lib.hid (fun W G h g => r6 W G h g)
  have Qr7 := Lib.hid (fun W G h g => r7 W G h g)
  have Qr8 := Lib.hid (fun W G h g => r8 W G h g)
  have Qr9 := Lib.hid (fun W G h g => r9 W G h g)
  have Qr10 := Lib.hid (fun W G h g => r10 W G h g)
  have QtD := Lib.hid tD
  have Qttw := Lib.hid ttw
  have Qtze := Lib.hid tze
  have QtX := Lib.hid tX
  have QtR := Lib.hid tR
  have QtN := Lib.hid tN
  have QtB := Lib.hid tB
  have hw7 : IntKind.i64.wrap (1 + m - 7) = 1 + m - 7 := IntWalk.i64_in _ (by omega)
  have RS := Lib.hid same_one
  have HE := Lib.hid hE
  have HL := Lib.hid (Below.refl w.heap.size w)
  unfold Fun1 at QtD Qttw Qtze QtX QtN
  unfold Fun2 at QtR  QtB
  have hd7 : decide (7 < 1 + m) = true := decide_eq_true hhi
  clear hE hm ht hn0 hn1 hs0 hs1 hhi r0 r1 r2 r3 r4 r5 r6 r7 r8 r9 r10 tD ttw tze tX tR tN tB
  go_enter Tryz.func5, Tryz.ntmps5
  go_wp2_with fail
  refine (TMn.out _).mono ?_
  rintro e w1 ⟨rfl, rfl⟩
  go_wp2_with fail
  refine (TMs.out _).mono ?_
  rintro e w2 ⟨rfl, rfl⟩
  go_wp2_with fail
  (with_reducible refine (QtD.out _ HE.out).mono ?_)
  rintro e w3 ⟨rfl, hq⟩
  replace HE := Lib.hid (HE.out.below hq)
  replace HL := Lib.hid (HL.out.trans (hq.mono HL.out.size))
  clear hq
  have hq : Below w3.heap.size w3 (w3.alloc (.cells #[.int .i64 1, .string (numS D), .string (denS D), .string { data := #[] }, .bool false, .int .i64 0, .int .i64 0, .int .i64 0, .slice none 0 0] 30)) := ((Below.refl _ _).alloc (Nat.le_refl _) _)
  replace HE := Lib.hid (HE.out.below hq)
  replace HL := Lib.hid (HL.out.trans (hq.mono HL.out.size))
  have H5 : Hid ((w3.alloc (.cells #[.int .i64 1, .string (numS D), .string (denS D), .string { data := #[] }, .bool false, .int .i64 0, .int .i64 0, .int .i64 0, .slice none 0 0] 30)).heap[w3.heap.size]? = some (.cells #[.int .i64 1, .string (numS D), .string (denS D), .string { data := #[] }, .bool false, .int .i64 0, .int .i64 0, .int .i64 0, .slice none 0 0] 30 (0, 0))) := Lib.hid (by
    have h := heap_alloc_new w3 (.cells #[.int .i64 1, .string (numS D), .string (denS D), .string { data := #[] }, .bool false, .int .i64 0, .int .i64 0, .int .i64 0, .slice none 0 0] 30)
    exact h)
  clear hq
  obtain ⟨WL1, hWL1⟩ : ∃ Z, (w3.alloc (.cells #[.int .i64 1, .string (numS D), .string (denS D), .string { data := #[] }, .bool false, .int .i64 0, .int .i64 0, .int .i64 0, .slice none 0 0] 30)) = Z := ⟨_, rfl⟩
  rw [hWL1] at HE HL H5
  have EWL1 := Lib.hid hWL1
  clear hWL1
  go_wp2_with fail
  rw [EWL1.out]
  (with_reducible refine (QtR.out _ HE.out).mono ?_)
  rintro e w4 ⟨rfl, hq⟩
  replace HE := Lib.hid (HE.out.below hq)
  replace HL := Lib.hid (HL.out.trans (hq.mono HL.out.size))
  replace H5 := Lib.hid (keep_block H5.out hq)
  clear hq
  have hq : Below w4.heap.size w4 (w4.alloc (.cells #[.string (numS T), .string (denS T)] 23)) := ((Below.refl _ _).alloc (Nat.le_refl _) _)
  replace HE := Lib.hid (HE.out.below hq)
  replace HL := Lib.hid (HL.out.trans (hq.mono HL.out.size))
  replace H5 := Lib.hid (keep_block H5.out hq)
  have H6 : Hid ((w4.alloc (.cells #[.string (numS T), .string (denS T)] 23)).heap[w4.heap.size]? = some (.cells #[.string (numS T), .string (denS T)] 23 (0, 0))) := Lib.hid (by
    have h := heap_alloc_new w4 (.cells #[.string (numS T), .string (denS T)] 23)
    exact h)
  clear hq
  obtain ⟨WL2, hWL2⟩ : ∃ Z, (w4.alloc (.cells #[.string (numS T), .string (denS T)] 23)) = Z := ⟨_, rfl⟩
  rw [hWL2] at HE HL H5 H6
  have EWL2 := Lib.hid hWL2
  clear hWL2
  have hld := H6.out
  rw [← EWL2.out] at hld
  obtain ⟨⟨lH60, lH61⟩, _⟩ := two_at hld
  clear hld
  go_wp2_with fail
  rw [EWL2.out]
  (with_reducible refine (QtN.out _ HE.out).mono ?_)
  rintro e w5 ⟨rfl, hq⟩
  replace HE := Lib.hid (HE.out.below hq)
  replace HL := Lib.hid (HL.out.trans (hq.mono HL.out.size))
  replace H5 := Lib.hid (keep_block H5.out hq)
  replace H6 := Lib.hid (keep_block H6.out hq)
  clear hq
  clear lH60 lH61
  have hq : Below w5.heap.size w5 (w5.alloc (.cells #[.int .i64 1, .string (numS T), .string (denS T), .string { data := #[] }, .bool false, .int .i64 0, .int .i64 0, .int .i64 0, .slice none 0 0] 30)) := ((Below.refl _ _).alloc (Nat.le_refl _) _)
  replace HE := Lib.hid (HE.out.below hq)
  replace HL := Lib.hid (HL.out.trans (hq.mono HL.out.size))
  replace H5 := Lib.hid (keep_block H5.out hq)
  replace H6 := Lib.hid (keep_block H6.out hq)
  have H8 : Hid ((w5.alloc (.cells #[.int .i64 1, .string (numS T), .string (denS T), .string { data := #[] }, .bool false, .int .i64 0, .int .i64 0, .int .i64 0, .slice none 0 0] 30)).heap[w5.heap.size]? = some (.cells #[.int .i64 1, .string (numS T), .string (denS T), .string { data := #[] }, .bool false, .int .i64 0, .int .i64 0, .int .i64 0, .slice none 0 0] 30 (0, 0))) := Lib.hid (by
    have h := heap_alloc_new w5 (.cells #[.int .i64 1, .string (numS T), .string (denS T), .string { data := #[] }, .bool false, .int .i64 0, .int .i64 0, .int .i64 0, .slice none 0 0] 30)
    exact h)
  clear hq
  obtain ⟨WL3, hWL3⟩ : ∃ Z, (w5.alloc (.cells #[.int .i64 1, .string (numS T), .string (denS T), .string { data := #[] }, .bool false, .int .i64 0, .int .i64 0, .int .i64 0, .slice none 0 0] 30)) = Z := ⟨_, rfl⟩
  rw [hWL3] at HE HL H5 H6 H8
  have EWL3 := Lib.hid hWL3
  clear hWL3
  have hld := H5.out
  rw [← EWL3.out] at hld
  obtain ⟨⟨lH50, lH51, lH52, lH53, lH54, lH55, lH56, lH57, lH58⟩, _⟩ := nine_at hld
  clear hld
  have hld := H8.out
  rw [← EWL3.out] at hld
  obtain ⟨⟨lH80, lH81, lH82, lH83, lH84, lH85, lH86, lH87, lH88⟩, _⟩ := nine_at hld
  clear hld
  go_wp2_with fail
  rw [EWL3.out]
  (with_reducible refine (QtB.out _ HE.out).mono ?_)
  rintro e w6 ⟨rfl, hq⟩
  replace HE := Lib.hid (HE.out.below hq)
  replace HL := Lib.hid (HL.out.trans (hq.mono HL.out.size))
  replace H5 := Lib.hid (keep_block H5.out hq)
  replace H6 := Lib.hid (keep_block H6.out hq)
  replace H8 := Lib.hid (keep_block H8.out hq)
  clear hq
  clear lH50 lH51 lH52 lH53 lH54 lH55 lH56 lH57 lH58 lH80 lH81 lH82 lH83 lH84 lH85 lH86 lH87 lH88
  have hq : Below w6.heap.size w6 (w6.alloc (.cells #[.int .i64 1, .string (numS B), .string (denS B), .string { data := #[] }, .bool false, .int .i64 0, .int .i64 0, .int .i64 0, .slice none 0 0] 30)) := ((Below.refl _ _).alloc (Nat.le_refl _) _)
  replace HE := Lib.hid (HE.out.below hq)
  replace HL := Lib.hid (HL.out.trans (hq.mono HL.out.size))
  replace H5 := Lib.hid (keep_block H5.out hq)
  replace H6 := Lib.hid (keep_block H6.out hq)
  replace H8 := Lib.hid (keep_block H8.out hq)
  have H9 : Hid ((w6.alloc (.cells #[.int .i64 1, .string (numS B), .string (denS B), .string { data := #[] }, .bool false, .int .i64 0, .int .i64 0, .int .i64 0, .slice none 0 0] 30)).heap[w6.heap.size]? = some (.cells #[.int .i64 1, .string (numS B), .string (denS B), .string { data := #[] }, .bool false, .int .i64 0, .int .i64 0, .int .i64 0, .slice none 0 0] 30 (0, 0))) := Lib.hid (by
    have h := heap_alloc_new w6 (.cells #[.int .i64 1, .string (numS B), .string (denS B), .string { data := #[] }, .bool false, .int .i64 0, .int .i64 0, .int .i64 0, .slice none 0 0] 30)
    exact h)
  clear hq
  obtain ⟨WL4, hWL4⟩ : ∃ Z, (w6.alloc (.cells #[.int .i64 1, .string (numS B), .string (denS B), .string { data := #[] }, .bool false, .int .i64 0, .int .i64 0, .int .i64 0, .slice none 0 0] 30)) = Z := ⟨_, rfl⟩
  rw [hWL4] at HE HL H5 H6 H8 H9
  have EWL4 := Lib.hid hWL4
  clear hWL4
  go_wp2_with fail
  rw [EWL4.out]
  have hok : okB 6 (BkhighKs6 m t u D T B tw Wk Y Mo Da H Mi Se ze X) = true := by kernel_rfl
  have hna := noAny_of (ks := (BkhighKs6 m t u D T B tw Wk Y Mo Da H Mi Se ze X)) (by kernel_rfl)
  have hla := lasts_of hna
  refine wp_region_facts (row := none) (w := WL4) 6 (BkhighKs6 m t u D T B tw Wk Y Mo Da H Mi Se ze X) [some 28, some 29, some 30, some 31, some 10, none] (by kernel_rfl) (by kernel_rfl) rfl [undef, undef, undef, undef, undef, undef] ?h00 (Fs.start rfl rfl) ?hs ?hd
  case h00 => simp only [putO, layT_some, layT_none, layT_nil, List.setIfInBounds_toArray, List.set_cons_zero, List.set_cons_succ]
  case hs =>
    rintro listed vs Wr hF i hi hun hpre
    obtain ⟨s0, s1, s2, s3, s4, s5, hvs⟩ := exl_of 6 vs (fun l => vs = l) hF.len rfl
    subst hvs
    have hge := Nat.zero_le i
    simp only [putO, layT_some, layT_none, layT_nil, List.setIfInBounds_toArray, List.set_cons_zero, List.set_cons_succ]
    rcases Nat.lt_or_ge i 3 with hlt | hgt
    · replace hi := hlt
      clear hlt
      rcases Nat.lt_or_ge i 1 with hlt | hgt
      · replace hi := hlt
        clear hlt
        have he : i = 0 := Nat.le_antisymm (Nat.le_of_lt_succ hi) hge
        subst he
        have hcc := (nine_at (keep_block H5.out (below_none hF.low))).1
        have cH50 := hcc.1
        have cH51 := hcc.2.1
        have cH52 := hcc.2.2.1
        have cH53 := hcc.2.2.2.1
        have cH54 := hcc.2.2.2.2.1
        have cH55 := hcc.2.2.2.2.2.1
        have cH56 := hcc.2.2.2.2.2.2.1
        have cH57 := hcc.2.2.2.2.2.2.2.1
        have cH58 := hcc.2.2.2.2.2.2.2.2
        clear hcc
        refine step_of ⟨some 28, _, _, _, _, _⟩ rfl (fun K' hK => ?_)
        go_simp
        refine hK.out _ _ ⟨_, hF.pure hok hla hpre rfl (Below.refl _ _), ?fr⟩
        case fr => simp only [putO, layT_some, layT_none, layT_nil, List.setIfInBounds_toArray, List.set_cons_zero, List.set_cons_succ]
      · replace hge : 1 ≤ i := hgt
        clear hgt
        rcases Nat.lt_or_ge i 2 with hlt | hgt
        · replace hi := hlt
          clear hlt
          have he : i = 1 := Nat.le_antisymm (Nat.le_of_lt_succ hi) hge
          subst he
          refine step_of ⟨some 29, _, _, _, _, _⟩ rfl (fun K' hK => ?_)
          go_simp
          go_at_call 11
          (with_reducible refine (Qttw.out _ (HE.out.below (below_none hF.low))).mono ?_)
          rintro e Wq ⟨rfl, hq⟩
          refine hK.out _ _ ⟨_, hF.pure hok hla hpre rfl hq, ?fr⟩
          case fr => simp only [putO, layT_some, layT_none, layT_nil, List.setIfInBounds_toArray, List.set_cons_zero, List.set_cons_succ]
        · replace hge : 2 ≤ i := hgt
          clear hgt
          have he : i = 2 := Nat.le_antisymm (Nat.le_of_lt_succ hi) hge
          subst he
          have p0 := hpre 0 (by kernel_rfl)
          have e0 : s0 = .agg #[.int .i64 1, .string (numS D), .string (denS D), .string { data := #[] }, .bool false, .int .i64 0, .int .i64 0, .int .i64 0, .slice none 0 0] := hF.get 0 _ rfl (.inr p0)
          subst e0
          have p1 := hpre 1 (by kernel_rfl)
          have e1 : s1 = .agg #[.int .i64 1, .string (numS tw), .string (denS tw), .string { data := #[] }, .bool false, .int .i64 0, .int .i64 0, .int .i64 0, .slice none 0 0] := hF.get 1 _ rfl (.inr p1)
          subst e1
          refine step_of ⟨some 30, _, _, _, _, _⟩ rfl (fun K' hK => ?_)
          go_simp
          refine hK.out _ _ ⟨_, hF.row hok hla hpre rfl, ?fr⟩
          case fr => simp only [putO, layT_some, layT_none, layT_nil, List.setIfInBounds_toArray, List.set_cons_zero, List.set_cons_succ]
    · replace hge : 3 ≤ i := hgt
      clear hgt
      rcases Nat.lt_or_ge i 4 with hlt | hgt
      · replace hi := hlt
        clear hlt
        have he : i = 3 := Nat.le_antisymm (Nat.le_of_lt_succ hi) hge
        subst he
        have p2 := hpre 2 (by kernel_rfl)
        obtain ⟨G, eG, _, hGB⟩ : ∃ G, s2 = .slice (some ⟨G, 0, none⟩) 2 2 ∧ _ ≤ G ∧ Wr.heap[G]? = some (.cells #[.int .i64 1, .string (numS D), .string (denS D), .string { data := #[] }, .bool false, .int .i64 0, .int .i64 0, .int .i64 0, .slice none 0 0, .int .i64 1, .string (numS tw), .string (denS tw), .string { data := #[] }, .bool false, .int .i64 0, .int .i64 0, .int .i64 0, .slice none 0 0] 30 (0, 0)) := hF.get 2 _ rfl (.inr p2)
        subst eG
        refine step_of ⟨some 31, _, _, _, _, _⟩ rfl (fun K' hK => ?_)
        go_simp
        go_at_call 20
        (with_reducible refine (Qr0.out _ _ hGB (HE.out.below (below_none hF.low))).mono ?_)
        rintro e Wq ⟨rfl, hq⟩
        refine hK.out _ _ ⟨_, hF.pure hok hla hpre rfl hq, ?fr⟩
        case fr => simp only [putO, layT_some, layT_none, layT_nil, List.setIfInBounds_toArray, List.set_cons_zero, List.set_cons_succ]
      · replace hge : 4 ≤ i := hgt
        clear hgt
        rcases Nat.lt_or_ge i 5 with hlt | hgt
        · replace hi := hlt
          clear hlt
          have he : i = 4 := Nat.le_antisymm (Nat.le_of_lt_succ hi) hge
          subst he
          refine step_of ⟨some 10, _, _, _, _, _⟩ rfl (fun K' hK => ?_)
          go_simp
          refine hK.out _ _ ⟨_, hF.box hok hla hpre hun rfl, ?fr⟩
          case fr => simp only [putO, layT_some, layT_none, layT_nil, List.setIfInBounds_toArray, List.set_cons_zero, List.set_cons_succ]
        · replace hge : 5 ≤ i := hgt
          clear hgt
          have he : i = 5 := Nat.le_antisymm (Nat.le_of_lt_succ hi) hge
          subst he
          have p4 := hpre 4 (by kernel_rfl)
          obtain ⟨G, eG, _, hGl, hGB⟩ : ∃ G, s4 = .pointer (some ⟨G, 0, none⟩) ∧ (∀ k, none = some k → G = k) ∧ WL4.heap.size ≤ G ∧ Wr.heap[G]? = some (.cells (if listed.getD 5 false = true then #[.int .i64 1, .string (numS Wk), .string (denS Wk), .string { data := #[] }, .bool false, .int .i64 0, .int .i64 0, .int .i64 0, .slice none 0 0] else #[.int .i64 0, .string { data := #[] }, .string { data := #[] }, .string { data := #[] }, .bool false, .int .i64 0, .int .i64 0, .int .i64 0, .slice none 0 0]) 30 (0, 0)) := hF.get 4 _ rfl (.inr p4)
          subst eG
          rw [if_neg (bit_off hun)] at hGB
          have HGB := Lib.hid hGB
          clear hGB
          have p3 := hpre 3 (by kernel_rfl)
          have e3 : s3 = .agg #[.int .i64 1, .string (numS Wk), .string (denS Wk), .string { data := #[] }, .bool false, .int .i64 0, .int .i64 0, .int .i64 0, .slice none 0 0] := hF.get 3 _ rfl (.inr p3)
          subst e3
          obtain ⟨⟨y0, y1, y2, y3, y4, y5, y6, y7, y8⟩, g0, g1, g2, g3, g4, g5, g6, g7, g8⟩ := nine_at HGB.out
          refine step_of ⟨none, _, _, _, _, _⟩ rfl (fun K' hK => ?_)
          go_simp
          refine hK.out _ _ ⟨undef, hF.put hok hna hpre hun rfl undef rfl (.inr p4) rfl (set9_at HGB.out (.int .i64 1) (.string (numS Wk)) (.string (denS Wk)) (.string { data := #[] }) (.bool false) (.int .i64 0) (.int .i64 0) (.int .i64 0) (.slice none 0 0)) (fun k hk => set9_other _ _ (.int .i64 1) (.string (numS Wk)) (.string (denS Wk)) (.string { data := #[] }) (.bool false) (.int .i64 0) (.int .i64 0) (.int .i64 0) (.slice none 0 0) hk) (put9_below hGl _ (.int .i64 1) (.string (numS Wk)) (.string (denS Wk)) (.string { data := #[] }) (.bool false) (.int .i64 0) (.int .i64 0) (.int .i64 0) (.slice none 0 0)), ?fr⟩
          case fr => simp only [putO, layT_some, layT_none, layT_nil, List.setIfInBounds_toArray, List.set_cons_zero, List.set_cons_succ]
  case hd =>
    rintro listed vs WB hF hall
    obtain ⟨s0, s1, s2, s3, s4, s5, hvs⟩ := exl_of 6 vs (fun l => vs = l) hF.len rfl
    subst hvs
    obtain ⟨b10, e4, _, _, k4⟩ : ∃ G, s4 = .pointer (some ⟨G, 0, none⟩) ∧ (∀ k, none = some k → G = k) ∧ _ ≤ G ∧ WB.heap[G]? = some (.cells (if listed.getD 5 false = true then #[.int .i64 1, .string (numS Wk), .string (denS Wk), .string { data := #[] }, .bool false, .int .i64 0, .int .i64 0, .int .i64 0, .slice none 0 0] else #[.int .i64 0, .string { data := #[] }, .string { data := #[] }, .string { data := #[] }, .bool false, .int .i64 0, .int .i64 0, .int .i64 0, .slice none 0 0]) 30 (0, 0)) := hF.get 4 _ rfl (.inr (hall 4 (by decide)))
    subst e4
    rw [if_pos (hall 5 (by decide))] at k4
    have H10 := Lib.hid k4
    clear k4
    have hq := below_none hF.low
    replace HE := Lib.hid (HE.out.below hq)
    replace HL := Lib.hid (HL.out.trans (hq.mono HL.out.size))
    replace H5 := Lib.hid (keep_block H5.out hq)
    replace H6 := Lib.hid (keep_block H6.out hq)
    replace H8 := Lib.hid (keep_block H8.out hq)
    replace H9 := Lib.hid (keep_block H9.out hq)
    clear hq
    clear hF hall hok hna hla
    simp only [putO, layT_some, layT_none, layT_nil, List.setIfInBounds_toArray, List.set_cons_zero, List.set_cons_succ]
    go_wp2_with fail
    have hok : okB 55 (BkhighKs7 m t u D T B tw Wk Y Mo Da H Mi Se ze X) = true := by kernel_rfl
    have hna := noAny_of (ks := (BkhighKs7 m t u D T B tw Wk Y Mo Da H Mi Se ze X)) (by kernel_rfl)
    have hla := lasts_of hna
    refine wp_region_facts (row := none) (w := WB) 55 (BkhighKs7 m t u D T B tw Wk Y Mo Da H Mi Se ze X) [some 32, some 33, some 34, some 35, some 36, some 37, some 38, some 39, some 40, some 41, some 42, some 43, some 44, some 45, some 46, some 47, some 48, some 49, some 50, some 51, some 52, some 53, some 54, some 55, some 56, some 57, some 58, some 59, some 60, some 61, some 62, some 63, some 64, some 65, some 66, some 67, some 68, some 69, some 70, some 71, some 72, some 73, some 74, some 75, some 76, some 77, some 78, some 79, some 80, some 81, some 82, some 83, some 84, some 85, some 4] (by kernel_rfl) (by kernel_rfl) rfl [undef, undef, undef, undef, undef, undef, undef, undef, undef, undef, undef, undef, undef, undef, undef, undef, undef, undef, undef, undef, undef, undef, undef, undef, undef, undef, undef, undef, undef, undef, undef, undef, undef, undef, undef, undef, undef, undef, undef, undef, undef, undef, undef, undef, undef, undef, undef, undef, undef, undef, undef, undef, undef, undef, (.bool false)] ?h00 (Fs.start rfl rfl) ?hs ?hd
    case h00 => simp only [putO, layT_some, layT_none, layT_nil, List.setIfInBounds_toArray, List.set_cons_zero, List.set_cons_succ]
    case hs =>
      rintro listed vs Wr hF i hi hun hpre
      obtain ⟨s0, s1, s2, s3, s4, s5, s6, s7, s8, s9, s10, s11, s12, s13, s14, s15, s16, s17, s18, s19, s20, s21, s22, s23, s24, s25, s26, s27, s28, s29, s30, s31, s32, s33, s34, s35, s36, s37, s38, s39, s40, s41, s42, s43, s44, s45, s46, s47, s48, s49, s50, s51, s52, s53, s54, hvs⟩ := exl_of 55 vs (fun l => vs = l) hF.len rfl
      subst hvs
      have hge := Nat.zero_le i
      simp only [putO, layT_some, layT_none, layT_nil, List.setIfInBounds_toArray, List.set_cons_zero, List.set_cons_succ]
      rcases Nat.lt_or_ge i 27 with hlt | hgt
      · replace hi := hlt
        clear hlt
        rcases Nat.lt_or_ge i 13 with hlt | hgt
        · replace hi := hlt
          clear hlt
          rcases Nat.lt_or_ge i 6 with hlt | hgt
          · replace hi := hlt
            clear hlt
            rcases Nat.lt_or_ge i 3 with hlt | hgt
            · replace hi := hlt
              clear hlt
              rcases Nat.lt_or_ge i 1 with hlt | hgt
              · replace hi := hlt
                clear hlt
                have he : i = 0 := Nat.le_antisymm (Nat.le_of_lt_succ hi) hge
                subst he
                have hcc := (nine_at (keep_block H5.out (below_none hF.low))).1
                have cH50 := hcc.1
                have cH51 := hcc.2.1
                have cH52 := hcc.2.2.1
                have cH53 := hcc.2.2.2.1
                have cH54 := hcc.2.2.2.2.1
                have cH55 := hcc.2.2.2.2.2.1
                have cH56 := hcc.2.2.2.2.2.2.1
                have cH57 := hcc.2.2.2.2.2.2.2.1
                have cH58 := hcc.2.2.2.2.2.2.2.2
                clear hcc
                refine step_of ⟨some 32, _, _, _, _, _⟩ rfl (fun K' hK => ?_)
                go_simp
                refine hK.out _ _ ⟨_, hF.pure hok hla hpre rfl (Below.refl _ _), ?fr⟩
                case fr => simp only [putO, layT_some, layT_none, layT_nil, List.setIfInBounds_toArray, List.set_cons_zero, List.set_cons_succ]
              · replace hge : 1 ≤ i := hgt
                clear hgt
                rcases Nat.lt_or_ge i 2 with hlt | hgt
                · replace hi := hlt
                  clear hlt
                  have he : i = 1 := Nat.le_antisymm (Nat.le_of_lt_succ hi) hge
                  subst he
                  have p0 := hpre 0 (by kernel_rfl)
                  have e0 : s0 = .agg #[.int .i64 1, .string (numS D), .string (denS D), .string { data := #[] }, .bool false, .int .i64 0, .int .i64 0, .int .i64 0, .slice none 0 0] := hF.get 0 _ rfl (.inr p0)
                  subst e0
                  refine step_of ⟨some 33, _, _, _, _, _⟩ rfl (fun K' hK => ?_)
                  go_simp
                  refine hK.out _ _ ⟨_, hF.row hok hla hpre rfl, ?fr⟩
                  case fr => simp only [putO, layT_some, layT_none, layT_nil, List.setIfInBounds_toArray, List.set_cons_zero, List.set_cons_succ]
                · replace hge : 2 ≤ i := hgt
                  clear hgt
                  have he : i = 2 := Nat.le_antisymm (Nat.le_of_lt_succ hi) hge
                  subst he
                  have p1 := hpre 1 (by kernel_rfl)
                  obtain ⟨G, eG, _, hGB⟩ : ∃ G, s1 = .slice (some ⟨G, 0, none⟩) 1 1 ∧ _ ≤ G ∧ Wr.heap[G]? = some (.cells #[.int .i64 1, .string (numS D), .string (denS D), .string { data := #[] }, .bool false, .int .i64 0, .int .i64 0, .int .i64 0, .slice none 0 0] 30 (0, 0)) := hF.get 1 _ rfl (.inr p1)
                  subst eG
                  refine step_of ⟨some 34, _, _, _, _, _⟩ rfl (fun K' hK => ?_)
                  go_simp
                  go_at_call 20
                  (with_reducible refine (Qr1.out _ _ hGB (HE.out.below (below_none hF.low))).mono ?_)
                  rintro e Wq ⟨rfl, hq⟩
                  refine hK.out _ _ ⟨_, hF.pure hok hla hpre rfl hq, ?fr⟩
                  case fr => simp only [putO, layT_some, layT_none, layT_nil, List.setIfInBounds_toArray, List.set_cons_zero, List.set_cons_succ]
            · replace hge : 3 ≤ i := hgt
              clear hgt
              rcases Nat.lt_or_ge i 4 with hlt | hgt
              · replace hi := hlt
                clear hlt
                have he : i = 3 := Nat.le_antisymm (Nat.le_of_lt_succ hi) hge
                subst he
                have hcc := (nine_at (keep_block H5.out (below_none hF.low))).1
                have cH50 := hcc.1
                have cH51 := hcc.2.1
                have cH52 := hcc.2.2.1
                have cH53 := hcc.2.2.2.1
                have cH54 := hcc.2.2.2.2.1
                have cH55 := hcc.2.2.2.2.2.1
                have cH56 := hcc.2.2.2.2.2.2.1
                have cH57 := hcc.2.2.2.2.2.2.2.1
                have cH58 := hcc.2.2.2.2.2.2.2.2
                clear hcc
                refine step_of ⟨some 35, _, _, _, _, _⟩ rfl (fun K' hK => ?_)
                go_simp
                refine hK.out _ _ ⟨_, hF.pure hok hla hpre rfl (Below.refl _ _), ?fr⟩
                case fr => simp only [putO, layT_some, layT_none, layT_nil, List.setIfInBounds_toArray, List.set_cons_zero, List.set_cons_succ]
              · replace hge : 4 ≤ i := hgt
                clear hgt
                rcases Nat.lt_or_ge i 5 with hlt | hgt
                · replace hi := hlt
                  clear hlt
                  have he : i = 4 := Nat.le_antisymm (Nat.le_of_lt_succ hi) hge
                  subst he
                  have p3 := hpre 3 (by kernel_rfl)
                  have e3 : s3 = .agg #[.int .i64 1, .string (numS D), .string (denS D), .string { data := #[] }, .bool false, .int .i64 0, .int .i64 0, .int .i64 0, .slice none 0 0] := hF.get 3 _ rfl (.inr p3)
                  subst e3
                  refine step_of ⟨some 36, _, _, _, _, _⟩ rfl (fun K' hK => ?_)
                  go_simp
                  refine hK.out _ _ ⟨_, hF.row hok hla hpre rfl, ?fr⟩
                  case fr => simp only [putO, layT_some, layT_none, layT_nil, List.setIfInBounds_toArray, List.set_cons_zero, List.set_cons_succ]
                · replace hge : 5 ≤ i := hgt
                  clear hgt
                  have he : i = 5 := Nat.le_antisymm (Nat.le_of_lt_succ hi) hge
                  subst he
                  have p4 := hpre 4 (by kernel_rfl)
                  obtain ⟨G, eG, _, hGB⟩ : ∃ G, s4 = .slice (some ⟨G, 0, none⟩) 1 1 ∧ _ ≤ G ∧ Wr.heap[G]? = some (.cells #[.int .i64 1, .string (numS D), .string (denS D), .string { data := #[] }, .bool false, .int .i64 0, .int .i64 0, .int .i64 0, .slice none 0 0] 30 (0, 0)) := hF.get 4 _ rfl (.inr p4)
                  subst eG
                  refine step_of ⟨some 37, _, _, _, _, _⟩ rfl (fun K' hK => ?_)
                  go_simp
                  go_at_call 20
                  (with_reducible refine (Qr2.out _ _ hGB (HE.out.below (below_none hF.low))).mono ?_)
                  rintro e Wq ⟨rfl, hq⟩
                  refine hK.out _ _ ⟨_, hF.pure hok hla hpre rfl hq, ?fr⟩
                  case fr => simp only [putO, layT_some, layT_none, layT_nil, List.setIfInBounds_toArray, List.set_cons_zero, List.set_cons_succ]
          · replace hge : 6 ≤ i := hgt
            clear hgt
            rcases Nat.lt_or_ge i 9 with hlt | hgt
            · replace hi := hlt
              clear hlt
              rcases Nat.lt_or_ge i 7 with hlt | hgt
              · replace hi := hlt
                clear hlt
                have he : i = 6 := Nat.le_antisymm (Nat.le_of_lt_succ hi) hge
                subst he
                have hcc := (nine_at (keep_block H5.out (below_none hF.low))).1
                have cH50 := hcc.1
                have cH51 := hcc.2.1
                have cH52 := hcc.2.2.1
                have cH53 := hcc.2.2.2.1
                have cH54 := hcc.2.2.2.2.1
                have cH55 := hcc.2.2.2.2.2.1
                have cH56 := hcc.2.2.2.2.2.2.1
                have cH57 := hcc.2.2.2.2.2.2.2.1
                have cH58 := hcc.2.2.2.2.2.2.2.2
                clear hcc
                refine step_of ⟨some 38, _, _, _, _, _⟩ rfl (fun K' hK => ?_)
                go_simp
                refine hK.out _ _ ⟨_, hF.pure hok hla hpre rfl (Below.refl _ _), ?fr⟩
                case fr => simp only [putO, layT_some, layT_none, layT_nil, List.setIfInBounds_toArray, List.set_cons_zero, List.set_cons_succ]
              · replace hge : 7 ≤ i := hgt
                clear hgt
                rcases Nat.lt_or_ge i 8 with hlt | hgt
                · replace hi := hlt
                  clear hlt
                  have he : i = 7 := Nat.le_antisymm (Nat.le_of_lt_succ hi) hge
                  subst he
                  have p6 := hpre 6 (by kernel_rfl)
                  have e6 : s6 = .agg #[.int .i64 1, .string (numS D), .string (denS D), .string { data := #[] }, .bool false, .int .i64 0, .int .i64 0, .int .i64 0, .slice none 0 0] := hF.get 6 _ rfl (.inr p6)
                  subst e6
                  refine step_of ⟨some 39, _, _, _, _, _⟩ rfl (fun K' hK => ?_)
                  go_simp
                  refine hK.out _ _ ⟨_, hF.row hok hla hpre rfl, ?fr⟩
                  case fr => simp only [putO, layT_some, layT_none, layT_nil, List.setIfInBounds_toArray, List.set_cons_zero, List.set_cons_succ]
                · replace hge : 8 ≤ i := hgt
                  clear hgt
                  have he : i = 8 := Nat.le_antisymm (Nat.le_of_lt_succ hi) hge
                  subst he
                  have p7 := hpre 7 (by kernel_rfl)
                  obtain ⟨G, eG, _, hGB⟩ : ∃ G, s7 = .slice (some ⟨G, 0, none⟩) 1 1 ∧ _ ≤ G ∧ Wr.heap[G]? = some (.cells #[.int .i64 1, .string (numS D), .string (denS D), .string { data := #[] }, .bool false, .int .i64 0, .int .i64 0, .int .i64 0, .slice none 0 0] 30 (0, 0)) := hF.get 7 _ rfl (.inr p7)
                  subst eG
                  refine step_of ⟨some 40, _, _, _, _, _⟩ rfl (fun K' hK => ?_)
                  go_simp
                  go_at_call 20
                  (with_reducible refine (Qr3.out _ _ hGB (HE.out.below (below_none hF.low))).mono ?_)
                  rintro e Wq ⟨rfl, hq⟩
                  refine hK.out _ _ ⟨_, hF.pure hok hla hpre rfl hq, ?fr⟩
                  case fr => simp only [putO, layT_some, layT_none, layT_nil, List.setIfInBounds_toArray, List.set_cons_zero, List.set_cons_succ]
            · replace hge : 9 ≤ i := hgt
              clear hgt
              rcases Nat.lt_or_ge i 11 with hlt | hgt
              · replace hi := hlt
                clear hlt
                rcases Nat.lt_or_ge i 10 with hlt | hgt
                · replace hi := hlt
                  clear hlt
                  have he : i = 9 := Nat.le_antisymm (Nat.le_of_lt_succ hi) hge
                  subst he
                  have p2 := hpre 2 (by kernel_rfl)
                  have e2 : s2 = .agg #[.int .i64 1, .string (numS Y), .string (denS Y), .string { data := #[] }, .bool false, .int .i64 0, .int .i64 0, .int .i64 0, .slice none 0 0] := hF.get 2 _ rfl (.inr p2)
                  subst e2
                  have p5 := hpre 5 (by kernel_rfl)
                  have e5 : s5 = .agg #[.int .i64 1, .string (numS Mo), .string (denS Mo), .string { data := #[] }, .bool false, .int .i64 0, .int .i64 0, .int .i64 0, .slice none 0 0] := hF.get 5 _ rfl (.inr p5)
                  subst e5
                  have p8 := hpre 8 (by kernel_rfl)
                  have e8 : s8 = .agg #[.int .i64 1, .string (numS Da), .string (denS Da), .string { data := #[] }, .bool false, .int .i64 0, .int .i64 0, .int .i64 0, .slice none 0 0] := hF.get 8 _ rfl (.inr p8)
                  subst e8
                  refine step_of ⟨some 41, _, _, _, _, _⟩ rfl (fun K' hK => ?_)
                  go_simp
                  refine hK.out _ _ ⟨_, hF.row hok hla hpre rfl, ?fr⟩
                  case fr => simp only [putO, layT_some, layT_none, layT_nil, List.setIfInBounds_toArray, List.set_cons_zero, List.set_cons_succ]
                · replace hge : 10 ≤ i := hgt
                  clear hgt
                  have he : i = 10 := Nat.le_antisymm (Nat.le_of_lt_succ hi) hge
                  subst he
                  have p9 := hpre 9 (by kernel_rfl)
                  obtain ⟨G, eG, _, hGB⟩ : ∃ G, s9 = .slice (some ⟨G, 0, none⟩) 3 3 ∧ _ ≤ G ∧ Wr.heap[G]? = some (.cells #[.int .i64 1, .string (numS Y), .string (denS Y), .string { data := #[] }, .bool false, .int .i64 0, .int .i64 0, .int .i64 0, .slice none 0 0, .int .i64 1, .string (numS Mo), .string (denS Mo), .string { data := #[] }, .bool false, .int .i64 0, .int .i64 0, .int .i64 0, .slice none 0 0, .int .i64 1, .string (numS Da), .string (denS Da), .string { data := #[] }, .bool false, .int .i64 0, .int .i64 0, .int .i64 0, .slice none 0 0] 30 (0, 0)) := hF.get 9 _ rfl (.inr p9)
                  subst eG
                  refine step_of ⟨some 42, _, _, _, _, _⟩ rfl (fun K' hK => ?_)
                  go_simp
                  go_at_call 20
                  (with_reducible refine (Qr4.out _ _ hGB (HE.out.below (below_none hF.low))).mono ?_)
                  rintro e Wq ⟨rfl, hq⟩
                  refine hK.out _ _ ⟨_, hF.pure hok hla hpre rfl hq, ?fr⟩
                  case fr => simp only [putO, layT_some, layT_none, layT_nil, List.setIfInBounds_toArray, List.set_cons_zero, List.set_cons_succ]
              · replace hge : 11 ≤ i := hgt
                clear hgt
                rcases Nat.lt_or_ge i 12 with hlt | hgt
                · replace hi := hlt
                  clear hlt
                  have he : i = 11 := Nat.le_antisymm (Nat.le_of_lt_succ hi) hge
                  subst he
                  have hcc := (nine_at (keep_block H5.out (below_none hF.low))).1
                  have cH50 := hcc.1
                  have cH51 := hcc.2.1
                  have cH52 := hcc.2.2.1
                  have cH53 := hcc.2.2.2.1
                  have cH54 := hcc.2.2.2.2.1
                  have cH55 := hcc.2.2.2.2.2.1
                  have cH56 := hcc.2.2.2.2.2.2.1
                  have cH57 := hcc.2.2.2.2.2.2.2.1
                  have cH58 := hcc.2.2.2.2.2.2.2.2
                  clear hcc
                  refine step_of ⟨some 43, _, _, _, _, _⟩ rfl (fun K' hK => ?_)
                  go_simp
                  refine hK.out _ _ ⟨_, hF.pure hok hla hpre rfl (Below.refl _ _), ?fr⟩
                  case fr => simp only [putO, layT_some, layT_none, layT_nil, List.setIfInBounds_toArray, List.set_cons_zero, List.set_cons_succ]
                · replace hge : 12 ≤ i := hgt
                  clear hgt
                  have he : i = 12 := Nat.le_antisymm (Nat.le_of_lt_succ hi) hge
                  subst he
                  have p10 := hpre 10 (by kernel_rfl)
                  have e10 : s10 = .agg #[.int .i64 1, .string (numS D), .string (denS D), .string { data := #[] }, .bool false, .int .i64 0, .int .i64 0, .int .i64 0, .slice none 0 0] := hF.get 10 _ rfl (.inr p10)
                  subst e10
                  have p11 := hpre 11 (by kernel_rfl)
                  have e11 : s11 = .agg #[.int .i64 1, .string (numS D), .string (denS D), .string { data := #[] }, .bool false, .int .i64 0, .int .i64 0, .int .i64 0, .slice none 0 0] := hF.get 11 _ rfl (.inr p11)
                  subst e11
                  refine step_of ⟨some 44, _, _, _, _, _⟩ rfl (fun K' hK => ?_)
                  go_simp
                  go_at_call 14
                  (with_reducible refine (RS.out D _).mono ?_)
                  rintro e Wq ⟨rfl, hq⟩
                  refine hK.out _ _ ⟨_, hF.pure hok hla hpre rfl hq, ?fr⟩
                  case fr => simp only [putO, layT_some, layT_none, layT_nil, List.setIfInBounds_toArray, List.set_cons_zero, List.set_cons_succ]
        · replace hge : 13 ≤ i := hgt
          clear hgt
          rcases Nat.lt_or_ge i 20 with hlt | hgt
          · replace hi := hlt
            clear hlt
            rcases Nat.lt_or_ge i 16 with hlt | hgt
            · replace hi := hlt
              clear hlt
              rcases Nat.lt_or_ge i 14 with hlt | hgt
              · replace hi := hlt
                clear hlt
                have he : i = 13 := Nat.le_antisymm (Nat.le_of_lt_succ hi) hge
                subst he
                have p12 := hpre 12 (by kernel_rfl)
                have e12 : s12 = .bool true := hF.get 12 _ rfl (.inr p12)
                subst e12
                refine step_of ⟨some 45, _, _, _, _, _⟩ rfl (fun K' hK => ?_)
                go_simp
                refine hK.out _ _ ⟨_, hF.pure hok hla hpre rfl (Below.refl _ _), ?fr⟩
                case fr => simp only [putO, layT_some, layT_none, layT_nil, List.setIfInBounds_toArray, List.set_cons_zero, List.set_cons_succ]
              · replace hge : 14 ≤ i := hgt
                clear hgt
                rcases Nat.lt_or_ge i 15 with hlt | hgt
                · replace hi := hlt
                  clear hlt
                  have he : i = 14 := Nat.le_antisymm (Nat.le_of_lt_succ hi) hge
                  subst he
                  have p13 := hpre 13 (by kernel_rfl)
                  have e13 : s13 = .bool true := hF.get 13 _ rfl (.inr p13)
                  subst e13
                  have hcc := (nine_at (keep_block H9.out (below_none hF.low))).1
                  have cH90 := hcc.1
                  have cH91 := hcc.2.1
                  have cH92 := hcc.2.2.1
                  have cH93 := hcc.2.2.2.1
                  have cH94 := hcc.2.2.2.2.1
                  have cH95 := hcc.2.2.2.2.2.1
                  have cH96 := hcc.2.2.2.2.2.2.1
                  have cH97 := hcc.2.2.2.2.2.2.2.1
                  have cH98 := hcc.2.2.2.2.2.2.2.2
                  clear hcc
                  refine step_of ⟨some 46, _, _, _, _, _⟩ rfl (fun K' hK => ?_)
                  rw [if_pos (by rfl)]
                  go_simp
                  refine hK.out _ _ ⟨_, hF.pure hok hla hpre rfl (Below.refl _ _), ?fr⟩
                  case fr => simp only [putO, layT_some, layT_none, layT_nil, List.setIfInBounds_toArray, List.set_cons_zero, List.set_cons_succ]
                · replace hge : 15 ≤ i := hgt
                  clear hgt
                  have he : i = 15 := Nat.le_antisymm (Nat.le_of_lt_succ hi) hge
                  subst he
                  have p14 := hpre 14 (by kernel_rfl)
                  have e14 : s14 = .agg #[.int .i64 1, .string (numS B), .string (denS B), .string { data := #[] }, .bool false, .int .i64 0, .int .i64 0, .int .i64 0, .slice none 0 0] := hF.get 14 _ rfl (.inr p14)
                  subst e14
                  have p13 := hpre 13 (by kernel_rfl)
                  have e13 : s13 = .bool true := hF.get 13 _ rfl (.inr p13)
                  subst e13
                  refine step_of ⟨some 47, _, _, _, _, _⟩ rfl (fun K' hK => ?_)
                  rw [if_pos (by rfl)]
                  go_simp
                  refine hK.out _ _ ⟨_, hF.row hok hla hpre rfl, ?fr⟩
                  case fr => simp only [putO, layT_some, layT_none, layT_nil, List.setIfInBounds_toArray, List.set_cons_zero, List.set_cons_succ]
            · replace hge : 16 ≤ i := hgt
              clear hgt
              rcases Nat.lt_or_ge i 18 with hlt | hgt
              · replace hi := hlt
                clear hlt
                rcases Nat.lt_or_ge i 17 with hlt | hgt
                · replace hi := hlt
                  clear hlt
                  have he : i = 16 := Nat.le_antisymm (Nat.le_of_lt_succ hi) hge
                  subst he
                  have p15 := hpre 15 (by kernel_rfl)
                  obtain ⟨G, eG, _, hGB⟩ : ∃ G, s15 = .slice (some ⟨G, 0, none⟩) 1 1 ∧ _ ≤ G ∧ Wr.heap[G]? = some (.cells #[.int .i64 1, .string (numS B), .string (denS B), .string { data := #[] }, .bool false, .int .i64 0, .int .i64 0, .int .i64 0, .slice none 0 0] 30 (0, 0)) := hF.get 15 _ rfl (.inr p15)
                  subst eG
                  have p13 := hpre 13 (by kernel_rfl)
                  have e13 : s13 = .bool true := hF.get 13 _ rfl (.inr p13)
                  subst e13
                  refine step_of ⟨some 48, _, _, _, _, _⟩ rfl (fun K' hK => ?_)
                  rw [if_pos (by rfl)]
                  go_simp
                  go_at_call 20
                  (with_reducible refine (Qr5.out _ _ hGB (HE.out.below (below_none hF.low))).mono ?_)
                  rintro e Wq ⟨rfl, hq⟩
                  refine hK.out _ _ ⟨_, hF.pure hok hla hpre rfl hq, ?fr⟩
                  case fr => simp only [putO, layT_some, layT_none, layT_nil, List.setIfInBounds_toArray, List.set_cons_zero, List.set_cons_succ]
                · replace hge : 17 ≤ i := hgt
                  clear hgt
                  have he : i = 17 := Nat.le_antisymm (Nat.le_of_lt_succ hi) hge
                  subst he
                  have p13 := hpre 13 (by kernel_rfl)
                  have e13 : s13 = .bool true := hF.get 13 _ rfl (.inr p13)
                  subst e13
                  have hcc := (nine_at (keep_block H9.out (below_none hF.low))).1
                  have cH90 := hcc.1
                  have cH91 := hcc.2.1
                  have cH92 := hcc.2.2.1
                  have cH93 := hcc.2.2.2.1
                  have cH94 := hcc.2.2.2.2.1
                  have cH95 := hcc.2.2.2.2.2.1
                  have cH96 := hcc.2.2.2.2.2.2.1
                  have cH97 := hcc.2.2.2.2.2.2.2.1
                  have cH98 := hcc.2.2.2.2.2.2.2.2
                  clear hcc
                  refine step_of ⟨some 49, _, _, _, _, _⟩ rfl (fun K' hK => ?_)
                  rw [if_pos (by rfl)]
                  go_simp
                  refine hK.out _ _ ⟨_, hF.pure hok hla hpre rfl (Below.refl _ _), ?fr⟩
                  case fr => simp only [putO, layT_some, layT_none, layT_nil, List.setIfInBounds_toArray, List.set_cons_zero, List.set_cons_succ]
              · replace hge : 18 ≤ i := hgt
                clear hgt
                rcases Nat.lt_or_ge i 19 with hlt | hgt
                · replace hi := hlt
                  clear hlt
                  have he : i = 18 := Nat.le_antisymm (Nat.le_of_lt_succ hi) hge
                  subst he
                  have p17 := hpre 17 (by kernel_rfl)
                  have e17 : s17 = .agg #[.int .i64 1, .string (numS B), .string (denS B), .string { data := #[] }, .bool false, .int .i64 0, .int .i64 0, .int .i64 0, .slice none 0 0] := hF.get 17 _ rfl (.inr p17)
                  subst e17
                  have p13 := hpre 13 (by kernel_rfl)
                  have e13 : s13 = .bool true := hF.get 13 _ rfl (.inr p13)
                  subst e13
                  refine step_of ⟨some 50, _, _, _, _, _⟩ rfl (fun K' hK => ?_)
                  rw [if_pos (by rfl)]
                  go_simp
                  refine hK.out _ _ ⟨_, hF.row hok hla hpre rfl, ?fr⟩
                  case fr => simp only [putO, layT_some, layT_none, layT_nil, List.setIfInBounds_toArray, List.set_cons_zero, List.set_cons_succ]
                · replace hge : 19 ≤ i := hgt
                  clear hgt
                  have he : i = 19 := Nat.le_antisymm (Nat.le_of_lt_succ hi) hge
                  subst he
                  have p18 := hpre 18 (by kernel_rfl)
                  obtain ⟨G, eG, _, hGB⟩ : ∃ G, s18 = .slice (some ⟨G, 0, none⟩) 1 1 ∧ _ ≤ G ∧ Wr.heap[G]? = some (.cells #[.int .i64 1, .string (numS B), .string (denS B), .string { data := #[] }, .bool false, .int .i64 0, .int .i64 0, .int .i64 0, .slice none 0 0] 30 (0, 0)) := hF.get 18 _ rfl (.inr p18)
                  subst eG
                  have p13 := hpre 13 (by kernel_rfl)
                  have e13 : s13 = .bool true := hF.get 13 _ rfl (.inr p13)
                  subst e13
                  refine step_of ⟨some 51, _, _, _, _, _⟩ rfl (fun K' hK => ?_)
                  rw [if_pos (by rfl)]
                  go_simp
                  go_at_call 20
                  (with_reducible refine (Qr6.out _ _ hGB (HE.out.below (below_none hF.low))).mono ?_)
                  rintro e Wq ⟨rfl, hq⟩
                  refine hK.out _ _ ⟨_, hF.pure hok hla hpre rfl hq, ?fr⟩
                  case fr => simp only [putO, layT_some, layT_none, layT_nil, List.setIfInBounds_toArray, List.set_cons_zero, List.set_cons_succ]
          · replace hge : 20 ≤ i := hgt
            clear hgt
            rcases Nat.lt_or_ge i 23 with hlt | hgt
            · replace hi := hlt
              clear hlt
              rcases Nat.lt_or_ge i 21 with hlt | hgt
              · replace hi := hlt
                clear hlt
                have he : i = 20 := Nat.le_antisymm (Nat.le_of_lt_succ hi) hge
                subst he
                have p13 := hpre 13 (by kernel_rfl)
                have e13 : s13 = .bool true := hF.get 13 _ rfl (.inr p13)
                subst e13
                have hcc := (nine_at (keep_block H9.out (below_none hF.low))).1
                have cH90 := hcc.1
                have cH91 := hcc.2.1
                have cH92 := hcc.2.2.1
                have cH93 := hcc.2.2.2.1
                have cH94 := hcc.2.2.2.2.1
                have cH95 := hcc.2.2.2.2.2.1
                have cH96 := hcc.2.2.2.2.2.2.1
                have cH97 := hcc.2.2.2.2.2.2.2.1
                have cH98 := hcc.2.2.2.2.2.2.2.2
                clear hcc
                refine step_of ⟨some 52, _, _, _, _, _⟩ rfl (fun K' hK => ?_)
                rw [if_pos (by rfl)]
                go_simp
                refine hK.out _ _ ⟨_, hF.pure hok hla hpre rfl (Below.refl _ _), ?fr⟩
                case fr => simp only [putO, layT_some, layT_none, layT_nil, List.setIfInBounds_toArray, List.set_cons_zero, List.set_cons_succ]
              · replace hge : 21 ≤ i := hgt
                clear hgt
                rcases Nat.lt_or_ge i 22 with hlt | hgt
                · replace hi := hlt
                  clear hlt
                  have he : i = 21 := Nat.le_antisymm (Nat.le_of_lt_succ hi) hge
                  subst he
                  have p20 := hpre 20 (by kernel_rfl)
                  have e20 : s20 = .agg #[.int .i64 1, .string (numS B), .string (denS B), .string { data := #[] }, .bool false, .int .i64 0, .int .i64 0, .int .i64 0, .slice none 0 0] := hF.get 20 _ rfl (.inr p20)
                  subst e20
                  have p13 := hpre 13 (by kernel_rfl)
                  have e13 : s13 = .bool true := hF.get 13 _ rfl (.inr p13)
                  subst e13
                  refine step_of ⟨some 53, _, _, _, _, _⟩ rfl (fun K' hK => ?_)
                  rw [if_pos (by rfl)]
                  go_simp
                  refine hK.out _ _ ⟨_, hF.row hok hla hpre rfl, ?fr⟩
                  case fr => simp only [putO, layT_some, layT_none, layT_nil, List.setIfInBounds_toArray, List.set_cons_zero, List.set_cons_succ]
                · replace hge : 22 ≤ i := hgt
                  clear hgt
                  have he : i = 22 := Nat.le_antisymm (Nat.le_of_lt_succ hi) hge
                  subst he
                  have p21 := hpre 21 (by kernel_rfl)
                  obtain ⟨G, eG, _, hGB⟩ : ∃ G, s21 = .slice (some ⟨G, 0, none⟩) 1 1 ∧ _ ≤ G ∧ Wr.heap[G]? = some (.cells #[.int .i64 1, .string (numS B), .string (denS B), .string { data := #[] }, .bool false, .int .i64 0, .int .i64 0, .int .i64 0, .slice none 0 0] 30 (0, 0)) := hF.get 21 _ rfl (.inr p21)
                  subst eG
                  have p13 := hpre 13 (by kernel_rfl)
                  have e13 : s13 = .bool true := hF.get 13 _ rfl (.inr p13)
                  subst e13
                  refine step_of ⟨some 54, _, _, _, _, _⟩ rfl (fun K' hK => ?_)
                  rw [if_pos (by rfl)]
                  go_simp
                  go_at_call 20
                  (with_reducible refine (Qr7.out _ _ hGB (HE.out.below (below_none hF.low))).mono ?_)
                  rintro e Wq ⟨rfl, hq⟩
                  refine hK.out _ _ ⟨_, hF.pure hok hla hpre rfl hq, ?fr⟩
                  case fr => simp only [putO, layT_some, layT_none, layT_nil, List.setIfInBounds_toArray, List.set_cons_zero, List.set_cons_succ]
            · replace hge : 23 ≤ i := hgt
              clear hgt
              rcases Nat.lt_or_ge i 25 with hlt | hgt
              · replace hi := hlt
                clear hlt
                rcases Nat.lt_or_ge i 24 with hlt | hgt
                · replace hi := hlt
                  clear hlt
                  have he : i = 23 := Nat.le_antisymm (Nat.le_of_lt_succ hi) hge
                  subst he
                  have p16 := hpre 16 (by kernel_rfl)
                  have e16 : s16 = .agg #[.int .i64 1, .string (numS H), .string (denS H), .string { data := #[] }, .bool false, .int .i64 0, .int .i64 0, .int .i64 0, .slice none 0 0] := hF.get 16 _ rfl (.inr p16)
                  subst e16
                  have p19 := hpre 19 (by kernel_rfl)
                  have e19 : s19 = .agg #[.int .i64 1, .string (numS Mi), .string (denS Mi), .string { data := #[] }, .bool false, .int .i64 0, .int .i64 0, .int .i64 0, .slice none 0 0] := hF.get 19 _ rfl (.inr p19)
                  subst e19
                  have p22 := hpre 22 (by kernel_rfl)
                  have e22 : s22 = .agg #[.int .i64 1, .string (numS Se), .string (denS Se), .string { data := #[] }, .bool false, .int .i64 0, .int .i64 0, .int .i64 0, .slice none 0 0] := hF.get 22 _ rfl (.inr p22)
                  subst e22
                  have p13 := hpre 13 (by kernel_rfl)
                  have e13 : s13 = .bool true := hF.get 13 _ rfl (.inr p13)
                  subst e13
                  refine step_of ⟨some 55, _, _, _, _, _⟩ rfl (fun K' hK => ?_)
                  rw [if_pos (by rfl)]
                  go_simp
                  refine hK.out _ _ ⟨_, hF.row hok hla hpre rfl, ?fr⟩
                  case fr => simp only [putO, layT_some, layT_none, layT_nil, List.setIfInBounds_toArray, List.set_cons_zero, List.set_cons_succ]
                · replace hge : 24 ≤ i := hgt
                  clear hgt
                  have he : i = 24 := Nat.le_antisymm (Nat.le_of_lt_succ hi) hge
                  subst he
                  have p23 := hpre 23 (by kernel_rfl)
                  obtain ⟨G, eG, _, hGB⟩ : ∃ G, s23 = .slice (some ⟨G, 0, none⟩) 3 3 ∧ _ ≤ G ∧ Wr.heap[G]? = some (.cells #[.int .i64 1, .string (numS H), .string (denS H), .string { data := #[] }, .bool false, .int .i64 0, .int .i64 0, .int .i64 0, .slice none 0 0, .int .i64 1, .string (numS Mi), .string (denS Mi), .string { data := #[] }, .bool false, .int .i64 0, .int .i64 0, .int .i64 0, .slice none 0 0, .int .i64 1, .string (numS Se), .string (denS Se), .string { data := #[] }, .bool false, .int .i64 0, .int .i64 0, .int .i64 0, .slice none 0 0] 30 (0, 0)) := hF.get 23 _ rfl (.inr p23)
                  subst eG
                  have p13 := hpre 13 (by kernel_rfl)
                  have e13 : s13 = .bool true := hF.get 13 _ rfl (.inr p13)
                  subst e13
                  refine step_of ⟨some 56, _, _, _, _, _⟩ rfl (fun K' hK => ?_)
                  rw [if_pos (by rfl)]
                  go_simp
                  go_at_call 20
                  (with_reducible refine (Qr8.out _ _ hGB (HE.out.below (below_none hF.low))).mono ?_)
                  rintro e Wq ⟨rfl, hq⟩
                  refine hK.out _ _ ⟨_, hF.pure hok hla hpre rfl hq, ?fr⟩
                  case fr => simp only [putO, layT_some, layT_none, layT_nil, List.setIfInBounds_toArray, List.set_cons_zero, List.set_cons_succ]
              · replace hge : 25 ≤ i := hgt
                clear hgt
                rcases Nat.lt_or_ge i 26 with hlt | hgt
                · replace hi := hlt
                  clear hlt
                  have he : i = 25 := Nat.le_antisymm (Nat.le_of_lt_succ hi) hge
                  subst he
                  have p13 := hpre 13 (by kernel_rfl)
                  have e13 : s13 = .bool true := hF.get 13 _ rfl (.inr p13)
                  subst e13
                  have hcc := (nine_at (keep_block H8.out (below_none hF.low))).1
                  have cH80 := hcc.1
                  have cH81 := hcc.2.1
                  have cH82 := hcc.2.2.1
                  have cH83 := hcc.2.2.2.1
                  have cH84 := hcc.2.2.2.2.1
                  have cH85 := hcc.2.2.2.2.2.1
                  have cH86 := hcc.2.2.2.2.2.2.1
                  have cH87 := hcc.2.2.2.2.2.2.2.1
                  have cH88 := hcc.2.2.2.2.2.2.2.2
                  clear hcc
                  refine step_of ⟨some 57, _, _, _, _, _⟩ rfl (fun K' hK => ?_)
                  rw [if_pos (by rfl)]
                  go_simp
                  refine hK.out _ _ ⟨_, hF.pure hok hla hpre rfl (Below.refl _ _), ?fr⟩
                  case fr => simp only [putO, layT_some, layT_none, layT_nil, List.setIfInBounds_toArray, List.set_cons_zero, List.set_cons_succ]
                · replace hge : 26 ≤ i := hgt
                  clear hgt
                  have he : i = 26 := Nat.le_antisymm (Nat.le_of_lt_succ hi) hge
                  subst he
                  have p24 := hpre 24 (by kernel_rfl)
                  have e24 : s24 = .agg #[.int .i64 1, .string (numS T), .string (denS T), .string { data := #[] }, .bool false, .int .i64 0, .int .i64 0, .int .i64 0, .slice none 0 0] := hF.get 24 _ rfl (.inr p24)
                  subst e24
                  have p25 := hpre 25 (by kernel_rfl)
                  have e25 : s25 = .agg #[.int .i64 1, .string (numS T), .string (denS T), .string { data := #[] }, .bool false, .int .i64 0, .int .i64 0, .int .i64 0, .slice none 0 0] := hF.get 25 _ rfl (.inr p25)
                  subst e25
                  have p13 := hpre 13 (by kernel_rfl)
                  have e13 : s13 = .bool true := hF.get 13 _ rfl (.inr p13)
                  subst e13
                  refine step_of ⟨some 58, _, _, _, _, _⟩ rfl (fun K' hK => ?_)
                  rw [if_pos (by rfl)]
                  go_simp
                  go_at_call 14
                  (with_reducible refine (RS.out T _).mono ?_)
                  rintro e Wq ⟨rfl, hq⟩
                  refine hK.out _ _ ⟨_, hF.pure hok hla hpre rfl hq, ?fr⟩
                  case fr => simp only [putO, layT_some, layT_none, layT_nil, List.setIfInBounds_toArray, List.set_cons_zero, List.set_cons_succ]
      · replace hge : 27 ≤ i := hgt
        clear hgt
        rcases Nat.lt_or_ge i 41 with hlt | hgt
        · replace hi := hlt
          clear hlt
          rcases Nat.lt_or_ge i 34 with hlt | hgt
          · replace hi := hlt
            clear hlt
            rcases Nat.lt_or_ge i 30 with hlt | hgt
            · replace hi := hlt
              clear hlt
              rcases Nat.lt_or_ge i 28 with hlt | hgt
              · replace hi := hlt
                clear hlt
                have he : i = 27 := Nat.le_antisymm (Nat.le_of_lt_succ hi) hge
                subst he
                have p13 := hpre 13 (by kernel_rfl)
                have e13 : s13 = .bool true := hF.get 13 _ rfl (.inr p13)
                subst e13
                have p26 := hpre 26 (by kernel_rfl)
                have e26 : s26 = .bool true := hF.get 26 _ rfl (.inr p26)
                subst e26
                refine step_of ⟨some 59, _, _, _, _, _⟩ rfl (fun K' hK => ?_)
                go_simp
                refine hK.out _ _ ⟨_, hF.pure hok hla hpre rfl (Below.refl _ _), ?fr⟩
                case fr => simp only [putO, layT_some, layT_none, layT_nil, List.setIfInBounds_toArray, List.set_cons_zero, List.set_cons_succ]
              · replace hge : 28 ≤ i := hgt
                clear hgt
                rcases Nat.lt_or_ge i 29 with hlt | hgt
                · replace hi := hlt
                  clear hlt
                  have he : i = 28 := Nat.le_antisymm (Nat.le_of_lt_succ hi) hge
                  subst he
                  have p27 := hpre 27 (by kernel_rfl)
                  have e27 : s27 = .bool true := hF.get 27 _ rfl (.inr p27)
                  subst e27
                  refine step_of ⟨some 60, _, _, _, _, _⟩ rfl (fun K' hK => ?_)
                  go_simp
                  refine hK.out _ _ ⟨_, hF.pure hok hla hpre rfl (Below.refl _ _), ?fr⟩
                  case fr => simp only [putO, layT_some, layT_none, layT_nil, List.setIfInBounds_toArray, List.set_cons_zero, List.set_cons_succ]
                · replace hge : 29 ≤ i := hgt
                  clear hgt
                  have he : i = 29 := Nat.le_antisymm (Nat.le_of_lt_succ hi) hge
                  subst he
                  have p28 := hpre 28 (by kernel_rfl)
                  have e28 : s28 = .bool true := hF.get 28 _ rfl (.inr p28)
                  subst e28
                  have hcc := (nine_at (keep_block H9.out (below_none hF.low))).1
                  have cH90 := hcc.1
                  have cH91 := hcc.2.1
                  have cH92 := hcc.2.2.1
                  have cH93 := hcc.2.2.2.1
                  have cH94 := hcc.2.2.2.2.1
                  have cH95 := hcc.2.2.2.2.2.1
                  have cH96 := hcc.2.2.2.2.2.2.1
                  have cH97 := hcc.2.2.2.2.2.2.2.1
                  have cH98 := hcc.2.2.2.2.2.2.2.2
                  clear hcc
                  refine step_of ⟨some 61, _, _, _, _, _⟩ rfl (fun K' hK => ?_)
                  rw [if_pos (by rfl)]
                  go_simp
                  refine hK.out _ _ ⟨_, hF.pure hok hla hpre rfl (Below.refl _ _), ?fr⟩
                  case fr => simp only [putO, layT_some, layT_none, layT_nil, List.setIfInBounds_toArray, List.set_cons_zero, List.set_cons_succ]
            · replace hge : 30 ≤ i := hgt
              clear hgt
              rcases Nat.lt_or_ge i 32 with hlt | hgt
              · replace hi := hlt
                clear hlt
                rcases Nat.lt_or_ge i 31 with hlt | hgt
                · replace hi := hlt
                  clear hlt
                  have he : i = 30 := Nat.le_antisymm (Nat.le_of_lt_succ hi) hge
                  subst he
                  have p28 := hpre 28 (by kernel_rfl)
                  have e28 : s28 = .bool true := hF.get 28 _ rfl (.inr p28)
                  subst e28
                  have hcc := (nine_at (keep_block H5.out (below_none hF.low))).1
                  have cH50 := hcc.1
                  have cH51 := hcc.2.1
                  have cH52 := hcc.2.2.1
                  have cH53 := hcc.2.2.2.1
                  have cH54 := hcc.2.2.2.2.1
                  have cH55 := hcc.2.2.2.2.2.1
                  have cH56 := hcc.2.2.2.2.2.2.1
                  have cH57 := hcc.2.2.2.2.2.2.2.1
                  have cH58 := hcc.2.2.2.2.2.2.2.2
                  clear hcc
                  refine step_of ⟨some 62, _, _, _, _, _⟩ rfl (fun K' hK => ?_)
                  rw [if_pos (by rfl)]
                  go_simp
                  refine hK.out _ _ ⟨_, hF.pure hok hla hpre rfl (Below.refl _ _), ?fr⟩
                  case fr => simp only [putO, layT_some, layT_none, layT_nil, List.setIfInBounds_toArray, List.set_cons_zero, List.set_cons_succ]
                · replace hge : 31 ≤ i := hgt
                  clear hgt
                  have he : i = 31 := Nat.le_antisymm (Nat.le_of_lt_succ hi) hge
                  subst he
                  have p29 := hpre 29 (by kernel_rfl)
                  have e29 : s29 = .agg #[.int .i64 1, .string (numS B), .string (denS B), .string { data := #[] }, .bool false, .int .i64 0, .int .i64 0, .int .i64 0, .slice none 0 0] := hF.get 29 _ rfl (.inr p29)
                  subst e29
                  have p30 := hpre 30 (by kernel_rfl)
                  have e30 : s30 = .agg #[.int .i64 1, .string (numS D), .string (denS D), .string { data := #[] }, .bool false, .int .i64 0, .int .i64 0, .int .i64 0, .slice none 0 0] := hF.get 30 _ rfl (.inr p30)
                  subst e30
                  have p28 := hpre 28 (by kernel_rfl)
                  have e28 : s28 = .bool true := hF.get 28 _ rfl (.inr p28)
                  subst e28
                  refine step_of ⟨some 63, _, _, _, _, _⟩ rfl (fun K' hK => ?_)
                  rw [if_pos (by rfl)]
                  go_simp
                  refine hK.out _ _ ⟨_, hF.row hok hla hpre rfl, ?fr⟩
                  case fr => simp only [putO, layT_some, layT_none, layT_nil, List.setIfInBounds_toArray, List.set_cons_zero, List.set_cons_succ]
              · replace hge : 32 ≤ i := hgt
                clear hgt
                rcases Nat.lt_or_ge i 33 with hlt | hgt
                · replace hi := hlt
                  clear hlt
                  have he : i = 32 := Nat.le_antisymm (Nat.le_of_lt_succ hi) hge
                  subst he
                  have p31 := hpre 31 (by kernel_rfl)
                  obtain ⟨G, eG, _, hGB⟩ : ∃ G, s31 = .slice (some ⟨G, 0, none⟩) 2 2 ∧ _ ≤ G ∧ Wr.heap[G]? = some (.cells #[.int .i64 1, .string (numS B), .string (denS B), .string { data := #[] }, .bool false, .int .i64 0, .int .i64 0, .int .i64 0, .slice none 0 0, .int .i64 1, .string (numS D), .string (denS D), .string { data := #[] }, .bool false, .int .i64 0, .int .i64 0, .int .i64 0, .slice none 0 0] 30 (0, 0)) := hF.get 31 _ rfl (.inr p31)
                  subst eG
                  have p28 := hpre 28 (by kernel_rfl)
                  have e28 : s28 = .bool true := hF.get 28 _ rfl (.inr p28)
                  subst e28
                  refine step_of ⟨some 64, _, _, _, _, _⟩ rfl (fun K' hK => ?_)
                  rw [if_pos (by rfl)]
                  go_simp
                  go_at_call 20
                  (with_reducible refine (Qr9.out _ _ hGB (HE.out.below (below_none hF.low))).mono ?_)
                  rintro e Wq ⟨rfl, hq⟩
                  refine hK.out _ _ ⟨_, hF.pure hok hla hpre rfl hq, ?fr⟩
                  case fr => simp only [putO, layT_some, layT_none, layT_nil, List.setIfInBounds_toArray, List.set_cons_zero, List.set_cons_succ]
                · replace hge : 33 ≤ i := hgt
                  clear hgt
                  have he : i = 33 := Nat.le_antisymm (Nat.le_of_lt_succ hi) hge
                  subst he
                  have p28 := hpre 28 (by kernel_rfl)
                  have e28 : s28 = .bool true := hF.get 28 _ rfl (.inr p28)
                  subst e28
                  refine step_of ⟨some 65, _, _, _, _, _⟩ rfl (fun K' hK => ?_)
                  rw [if_pos (by rfl)]
                  go_simp
                  go_at_call 11
                  (with_reducible refine (Qtze.out _ (HE.out.below (below_none hF.low))).mono ?_)
                  rintro e Wq ⟨rfl, hq⟩
                  refine hK.out _ _ ⟨_, hF.pure hok hla hpre rfl hq, ?fr⟩
                  case fr => simp only [putO, layT_some, layT_none, layT_nil, List.setIfInBounds_toArray, List.set_cons_zero, List.set_cons_succ]
          · replace hge : 34 ≤ i := hgt
            clear hgt
            rcases Nat.lt_or_ge i 37 with hlt | hgt
            · replace hi := hlt
              clear hlt
              rcases Nat.lt_or_ge i 35 with hlt | hgt
              · replace hi := hlt
                clear hlt
                have he : i = 34 := Nat.le_antisymm (Nat.le_of_lt_succ hi) hge
                subst he
                have p32 := hpre 32 (by kernel_rfl)
                have e32 : s32 = .agg #[.int .i64 1, .string (numS ze), .string (denS ze), .string { data := #[] }, .bool false, .int .i64 0, .int .i64 0, .int .i64 0, .slice none 0 0] := hF.get 32 _ rfl (.inr p32)
                subst e32
                have p33 := hpre 33 (by kernel_rfl)
                have e33 : s33 = .agg #[.int .i64 1, .string (numS ze), .string (denS ze), .string { data := #[] }, .bool false, .int .i64 0, .int .i64 0, .int .i64 0, .slice none 0 0] := hF.get 33 _ rfl (.inr p33)
                subst e33
                have p28 := hpre 28 (by kernel_rfl)
                have e28 : s28 = .bool true := hF.get 28 _ rfl (.inr p28)
                subst e28
                refine step_of ⟨some 66, _, _, _, _, _⟩ rfl (fun K' hK => ?_)
                rw [if_pos (by rfl)]
                go_simp
                go_at_call 14
                (with_reducible refine (RS.out ze _).mono ?_)
                rintro e Wq ⟨rfl, hq⟩
                refine hK.out _ _ ⟨_, hF.pure hok hla hpre rfl hq, ?fr⟩
                case fr => simp only [putO, layT_some, layT_none, layT_nil, List.setIfInBounds_toArray, List.set_cons_zero, List.set_cons_succ]
              · replace hge : 35 ≤ i := hgt
                clear hgt
                rcases Nat.lt_or_ge i 36 with hlt | hgt
                · replace hi := hlt
                  clear hlt
                  have he : i = 35 := Nat.le_antisymm (Nat.le_of_lt_succ hi) hge
                  subst he
                  have p28 := hpre 28 (by kernel_rfl)
                  have e28 : s28 = .bool true := hF.get 28 _ rfl (.inr p28)
                  subst e28
                  have p34 := hpre 34 (by kernel_rfl)
                  have e34 : s34 = .bool true := hF.get 34 _ rfl (.inr p34)
                  subst e34
                  refine step_of ⟨some 67, _, _, _, _, _⟩ rfl (fun K' hK => ?_)
                  go_simp
                  refine hK.out _ _ ⟨_, hF.pure hok hla hpre rfl (Below.refl _ _), ?fr⟩
                  case fr => simp only [putO, layT_some, layT_none, layT_nil, List.setIfInBounds_toArray, List.set_cons_zero, List.set_cons_succ]
                · replace hge : 36 ≤ i := hgt
                  clear hgt
                  have he : i = 36 := Nat.le_antisymm (Nat.le_of_lt_succ hi) hge
                  subst he
                  have p35 := hpre 35 (by kernel_rfl)
                  have e35 : s35 = .bool true := hF.get 35 _ rfl (.inr p35)
                  subst e35
                  refine step_of ⟨some 68, _, _, _, _, _⟩ rfl (fun K' hK => ?_)
                  go_simp
                  refine hK.out _ _ ⟨_, hF.pure hok hla hpre rfl (Below.refl _ _), ?fr⟩
                  case fr => simp only [putO, layT_some, layT_none, layT_nil, List.setIfInBounds_toArray, List.set_cons_zero, List.set_cons_succ]
            · replace hge : 37 ≤ i := hgt
              clear hgt
              rcases Nat.lt_or_ge i 39 with hlt | hgt
              · replace hi := hlt
                clear hlt
                rcases Nat.lt_or_ge i 38 with hlt | hgt
                · replace hi := hlt
                  clear hlt
                  have he : i = 37 := Nat.le_antisymm (Nat.le_of_lt_succ hi) hge
                  subst he
                  have p36 := hpre 36 (by kernel_rfl)
                  have e36 : s36 = .bool true := hF.get 36 _ rfl (.inr p36)
                  subst e36
                  refine step_of ⟨some 69, _, _, _, _, _⟩ rfl (fun K' hK => ?_)
                  rw [if_pos (by rfl)]
                  go_simp
                  refine hK.out _ _ ⟨_, hF.pure hok hla hpre rfl (Below.refl _ _), ?fr⟩
                  case fr => simp only [putO, layT_some, layT_none, layT_nil, List.setIfInBounds_toArray, List.set_cons_zero, List.set_cons_succ]
                · replace hge : 38 ≤ i := hgt
                  clear hgt
                  have he : i = 38 := Nat.le_antisymm (Nat.le_of_lt_succ hi) hge
                  subst he
                  have p37 := hpre 37 (by kernel_rfl)
                  have e37 : s37 = .int .i64 (1 + m) := hF.get 37 _ rfl (.inr p37)
                  subst e37
                  have p36 := hpre 36 (by kernel_rfl)
                  have e36 : s36 = .bool true := hF.get 36 _ rfl (.inr p36)
                  subst e36
                  refine step_of ⟨some 70, _, _, _, _, _⟩ rfl (fun K' hK => ?_)
                  rw [if_pos (by rfl)]
                  go_simp
                  refine hK.out _ _ ⟨_, hF.pure hok hla hpre rfl (Below.refl _ _), ?fr⟩
                  case fr => simp only [putO, layT_some, layT_none, layT_nil, List.setIfInBounds_toArray, List.set_cons_zero, List.set_cons_succ]
              · replace hge : 39 ≤ i := hgt
                clear hgt
                rcases Nat.lt_or_ge i 40 with hlt | hgt
                · replace hi := hlt
                  clear hlt
                  have he : i = 39 := Nat.le_antisymm (Nat.le_of_lt_succ hi) hge
                  subst he
                  have p38 := hpre 38 (by kernel_rfl)
                  have e38 : s38 = .int .i64 (1 + m - 7) := hF.get 38 _ rfl (.inr p38)
                  subst e38
                  have p36 := hpre 36 (by kernel_rfl)
                  have e36 : s36 = .bool true := hF.get 36 _ rfl (.inr p36)
                  subst e36
                  refine step_of ⟨some 71, _, _, _, _, _⟩ rfl (fun K' hK => ?_)
                  rw [if_pos (by rfl)]
                  go_simp
                  refine hK.out _ _ ⟨_, hF.pure hok hla hpre rfl (Below.refl _ _), ?fr⟩
                  case fr => simp only [putO, layT_some, layT_none, layT_nil, List.setIfInBounds_toArray, List.set_cons_zero, List.set_cons_succ]
                · replace hge : 40 ≤ i := hgt
                  clear hgt
                  have he : i = 40 := Nat.le_antisymm (Nat.le_of_lt_succ hi) hge
                  subst he
                  have p39 := hpre 39 (by kernel_rfl)
                  have e39 : s39 = .int .i64 u := hF.get 39 _ rfl (.inr p39)
                  subst e39
                  have p36 := hpre 36 (by kernel_rfl)
                  have e36 : s36 = .bool true := hF.get 36 _ rfl (.inr p36)
                  subst e36
                  refine step_of ⟨some 72, _, _, _, _, _⟩ rfl (fun K' hK => ?_)
                  rw [if_pos (by rfl)]
                  go_simp
                  go_at_call 11
                  (with_reducible refine (QtX.out _ (HE.out.below (below_none hF.low))).mono ?_)
                  rintro e Wq ⟨rfl, hq⟩
                  refine hK.out _ _ ⟨_, hF.pure hok hla hpre rfl hq, ?fr⟩
                  case fr => simp only [putO, layT_some, layT_none, layT_nil, List.setIfInBounds_toArray, List.set_cons_zero, List.set_cons_succ]
        · replace hge : 41 ≤ i := hgt
          clear hgt
          rcases Nat.lt_or_ge i 48 with hlt | hgt
          · replace hi := hlt
            clear hlt
            rcases Nat.lt_or_ge i 44 with hlt | hgt
            · replace hi := hlt
              clear hlt
              rcases Nat.lt_or_ge i 42 with hlt | hgt
              · replace hi := hlt
                clear hlt
                have he : i = 41 := Nat.le_antisymm (Nat.le_of_lt_succ hi) hge
                subst he
                have p36 := hpre 36 (by kernel_rfl)
                have e36 : s36 = .bool true := hF.get 36 _ rfl (.inr p36)
                subst e36
                refine step_of ⟨some 73, _, _, _, _, _⟩ rfl (fun K' hK => ?_)
                rw [if_pos (by rfl)]
                go_simp
                go_at_call 11
                (with_reducible refine (Qttw.out _ (HE.out.below (below_none hF.low))).mono ?_)
                rintro e Wq ⟨rfl, hq⟩
                refine hK.out _ _ ⟨_, hF.pure hok hla hpre rfl hq, ?fr⟩
                case fr => simp only [putO, layT_some, layT_none, layT_nil, List.setIfInBounds_toArray, List.set_cons_zero, List.set_cons_succ]
              · replace hge : 42 ≤ i := hgt
                clear hgt
                rcases Nat.lt_or_ge i 43 with hlt | hgt
                · replace hi := hlt
                  clear hlt
                  have he : i = 42 := Nat.le_antisymm (Nat.le_of_lt_succ hi) hge
                  subst he
                  have p40 := hpre 40 (by kernel_rfl)
                  have e40 : s40 = .agg #[.int .i64 1, .string (numS X), .string (denS X), .string { data := #[] }, .bool false, .int .i64 0, .int .i64 0, .int .i64 0, .slice none 0 0] := hF.get 40 _ rfl (.inr p40)
                  subst e40
                  have p41 := hpre 41 (by kernel_rfl)
                  have e41 : s41 = .agg #[.int .i64 1, .string (numS tw), .string (denS tw), .string { data := #[] }, .bool false, .int .i64 0, .int .i64 0, .int .i64 0, .slice none 0 0] := hF.get 41 _ rfl (.inr p41)
                  subst e41
                  have p36 := hpre 36 (by kernel_rfl)
                  have e36 : s36 = .bool true := hF.get 36 _ rfl (.inr p36)
                  subst e36
                  refine step_of ⟨some 74, _, _, _, _, _⟩ rfl (fun K' hK => ?_)
                  rw [if_pos (by rfl)]
                  go_simp
                  refine hK.out _ _ ⟨_, hF.row hok hla hpre rfl, ?fr⟩
                  case fr => simp only [putO, layT_some, layT_none, layT_nil, List.setIfInBounds_toArray, List.set_cons_zero, List.set_cons_succ]
                · replace hge : 43 ≤ i := hgt
                  clear hgt
                  have he : i = 43 := Nat.le_antisymm (Nat.le_of_lt_succ hi) hge
                  subst he
                  have p42 := hpre 42 (by kernel_rfl)
                  obtain ⟨G, eG, _, hGB⟩ : ∃ G, s42 = .slice (some ⟨G, 0, none⟩) 2 2 ∧ _ ≤ G ∧ Wr.heap[G]? = some (.cells #[.int .i64 1, .string (numS X), .string (denS X), .string { data := #[] }, .bool false, .int .i64 0, .int .i64 0, .int .i64 0, .slice none 0 0, .int .i64 1, .string (numS tw), .string (denS tw), .string { data := #[] }, .bool false, .int .i64 0, .int .i64 0, .int .i64 0, .slice none 0 0] 30 (0, 0)) := hF.get 42 _ rfl (.inr p42)
                  subst eG
                  have p36 := hpre 36 (by kernel_rfl)
                  have e36 : s36 = .bool true := hF.get 36 _ rfl (.inr p36)
                  subst e36
                  refine step_of ⟨some 75, _, _, _, _, _⟩ rfl (fun K' hK => ?_)
                  rw [if_pos (by rfl)]
                  go_simp
                  go_at_call 20
                  (with_reducible refine (Qr10.out _ _ hGB (HE.out.below (below_none hF.low))).mono ?_)
                  rintro e Wq ⟨rfl, hq⟩
                  refine hK.out _ _ ⟨_, hF.pure hok hla hpre rfl hq, ?fr⟩
                  case fr => simp only [putO, layT_some, layT_none, layT_nil, List.setIfInBounds_toArray, List.set_cons_zero, List.set_cons_succ]
            · replace hge : 44 ≤ i := hgt
              clear hgt
              rcases Nat.lt_or_ge i 46 with hlt | hgt
              · replace hi := hlt
                clear hlt
                rcases Nat.lt_or_ge i 45 with hlt | hgt
                · replace hi := hlt
                  clear hlt
                  have he : i = 44 := Nat.le_antisymm (Nat.le_of_lt_succ hi) hge
                  subst he
                  have p36 := hpre 36 (by kernel_rfl)
                  have e36 : s36 = .bool true := hF.get 36 _ rfl (.inr p36)
                  subst e36
                  have hcc := (nine_at (keep_block H10.out (below_none hF.low))).1
                  have cH100 := hcc.1
                  have cH101 := hcc.2.1
                  have cH102 := hcc.2.2.1
                  have cH103 := hcc.2.2.2.1
                  have cH104 := hcc.2.2.2.2.1
                  have cH105 := hcc.2.2.2.2.2.1
                  have cH106 := hcc.2.2.2.2.2.2.1
                  have cH107 := hcc.2.2.2.2.2.2.2.1
                  have cH108 := hcc.2.2.2.2.2.2.2.2
                  clear hcc
                  refine step_of ⟨some 76, _, _, _, _, _⟩ rfl (fun K' hK => ?_)
                  rw [if_pos (by rfl)]
                  go_simp
                  refine hK.out _ _ ⟨_, hF.pure hok hla hpre rfl (Below.refl _ _), ?fr⟩
                  case fr => simp only [putO, layT_some, layT_none, layT_nil, List.setIfInBounds_toArray, List.set_cons_zero, List.set_cons_succ]
                · replace hge : 45 ≤ i := hgt
                  clear hgt
                  have he : i = 45 := Nat.le_antisymm (Nat.le_of_lt_succ hi) hge
                  subst he
                  have p43 := hpre 43 (by kernel_rfl)
                  have e43 : s43 = .agg #[.int .i64 1, .string (numS Wk), .string (denS Wk), .string { data := #[] }, .bool false, .int .i64 0, .int .i64 0, .int .i64 0, .slice none 0 0] := hF.get 43 _ rfl (.inr p43)
                  subst e43
                  have p44 := hpre 44 (by kernel_rfl)
                  have e44 : s44 = .agg #[.int .i64 1, .string (numS Wk), .string (denS Wk), .string { data := #[] }, .bool false, .int .i64 0, .int .i64 0, .int .i64 0, .slice none 0 0] := hF.get 44 _ rfl (.inr p44)
                  subst e44
                  have p36 := hpre 36 (by kernel_rfl)
                  have e36 : s36 = .bool true := hF.get 36 _ rfl (.inr p36)
                  subst e36
                  refine step_of ⟨some 77, _, _, _, _, _⟩ rfl (fun K' hK => ?_)
                  rw [if_pos (by rfl)]
                  go_simp
                  go_at_call 14
                  (with_reducible refine (RS.out Wk _).mono ?_)
                  rintro e Wq ⟨rfl, hq⟩
                  refine hK.out _ _ ⟨_, hF.pure hok hla hpre rfl hq, ?fr⟩
                  case fr => simp only [putO, layT_some, layT_none, layT_nil, List.setIfInBounds_toArray, List.set_cons_zero, List.set_cons_succ]
              · replace hge : 46 ≤ i := hgt
                clear hgt
                rcases Nat.lt_or_ge i 47 with hlt | hgt
                · replace hi := hlt
                  clear hlt
                  have he : i = 46 := Nat.le_antisymm (Nat.le_of_lt_succ hi) hge
                  subst he
                  have p36 := hpre 36 (by kernel_rfl)
                  have e36 : s36 = .bool true := hF.get 36 _ rfl (.inr p36)
                  subst e36
                  refine step_of ⟨some 78, _, _, _, _, _⟩ rfl (fun K' hK => ?_)
                  rw [if_pos (by rfl)]
                  go_simp
                  refine hK.out _ _ ⟨_, hF.pure hok hla hpre rfl (Below.refl _ _), ?fr⟩
                  case fr => simp only [putO, layT_some, layT_none, layT_nil, List.setIfInBounds_toArray, List.set_cons_zero, List.set_cons_succ]
                · replace hge : 47 ≤ i := hgt
                  clear hgt
                  have he : i = 47 := Nat.le_antisymm (Nat.le_of_lt_succ hi) hge
                  subst he
                  have p46 := hpre 46 (by kernel_rfl)
                  have e46 : s46 = .int .i64 (1 + m) := hF.get 46 _ rfl (.inr p46)
                  subst e46
                  have p36 := hpre 36 (by kernel_rfl)
                  have e36 : s36 = .bool true := hF.get 36 _ rfl (.inr p36)
                  subst e36
                  refine step_of ⟨some 79, _, _, _, _, _⟩ rfl (fun K' hK => ?_)
                  rw [if_pos (by rfl)]
                  go_simp
                  refine hK.out _ _ ⟨_, hF.pure hok hla hpre rfl (Below.refl _ _), ?fr⟩
                  case fr => simp only [putO, layT_some, layT_none, layT_nil, List.setIfInBounds_toArray, List.set_cons_zero, List.set_cons_succ]
          · replace hge : 48 ≤ i := hgt
            clear hgt
            rcases Nat.lt_or_ge i 51 with hlt | hgt
            · replace hi := hlt
              clear hlt
              rcases Nat.lt_or_ge i 49 with hlt | hgt
              · replace hi := hlt
                clear hlt
                have he : i = 48 := Nat.le_antisymm (Nat.le_of_lt_succ hi) hge
                subst he
                have p47 := hpre 47 (by kernel_rfl)
                have e47 : s47 = .bool true := hF.get 47 _ rfl (.inr p47)
                subst e47
                have p36 := hpre 36 (by kernel_rfl)
                have e36 : s36 = .bool true := hF.get 36 _ rfl (.inr p36)
                subst e36
                refine step_of ⟨some 80, _, _, _, _, _⟩ rfl (fun K' hK => ?_)
                rw [if_pos (by rfl)]
                go_simp
                refine hK.out _ _ ⟨_, hF.pure hok hla hpre rfl (Below.refl _ _), ?fr⟩
                case fr => simp only [putO, layT_some, layT_none, layT_nil, List.setIfInBounds_toArray, List.set_cons_zero, List.set_cons_succ]
              · replace hge : 49 ≤ i := hgt
                clear hgt
                rcases Nat.lt_or_ge i 50 with hlt | hgt
                · replace hi := hlt
                  clear hlt
                  have he : i = 49 := Nat.le_antisymm (Nat.le_of_lt_succ hi) hge
                  subst he
                  have p48 := hpre 48 (by kernel_rfl)
                  have e48 : s48 = .bool true := hF.get 48 _ rfl (.inr p48)
                  subst e48
                  refine step_of ⟨some 81, _, _, _, _, _⟩ rfl (fun K' hK => ?_)
                  first
                    | rw [if_neg (by decide)]
                    | rw [if_neg (Bool.eq_false_iff.1 (by kernel_rfl))]
                  go_simp
                  refine hK.out _ _ ⟨_, hF.pure hok hla hpre rfl (Below.refl _ _), ?fr⟩
                  case fr => simp only [putO, layT_some, layT_none, layT_nil, List.setIfInBounds_toArray, List.set_cons_zero, List.set_cons_succ]
                · replace hge : 50 ≤ i := hgt
                  clear hgt
                  have he : i = 50 := Nat.le_antisymm (Nat.le_of_lt_succ hi) hge
                  subst he
                  have p48 := hpre 48 (by kernel_rfl)
                  have e48 : s48 = .bool true := hF.get 48 _ rfl (.inr p48)
                  subst e48
                  refine step_of ⟨some 82, _, _, _, _, _⟩ rfl (fun K' hK => ?_)
                  first
                    | rw [if_neg (by decide)]
                    | rw [if_neg (Bool.eq_false_iff.1 (by kernel_rfl))]
                  go_simp
                  refine hK.out _ _ ⟨_, hF.pure hok hla hpre rfl (Below.refl _ _), ?fr⟩
                  case fr => simp only [putO, layT_some, layT_none, layT_nil, List.setIfInBounds_toArray, List.set_cons_zero, List.set_cons_succ]
            · replace hge : 51 ≤ i := hgt
              clear hgt
              rcases Nat.lt_or_ge i 53 with hlt | hgt
              · replace hi := hlt
                clear hlt
                rcases Nat.lt_or_ge i 52 with hlt | hgt
                · replace hi := hlt
                  clear hlt
                  have he : i = 51 := Nat.le_antisymm (Nat.le_of_lt_succ hi) hge
                  subst he
                  have p48 := hpre 48 (by kernel_rfl)
                  have e48 : s48 = .bool true := hF.get 48 _ rfl (.inr p48)
                  subst e48
                  have p50 := hpre 50 (by kernel_rfl)
                  have e50 : s50 = undef := hF.get 50 _ rfl (.inr p50)
                  subst e50
                  have p36 := hpre 36 (by kernel_rfl)
                  have e36 : s36 = .bool true := hF.get 36 _ rfl (.inr p36)
                  subst e36
                  refine step_of ⟨some 83, _, _, _, _, _⟩ rfl (fun K' hK => ?_)
                  rw [if_pos (by rfl)]
                  go_simp
                  refine hK.out _ _ ⟨_, hF.pure hok hla hpre rfl (Below.refl _ _), ?fr⟩
                  case fr => simp only [putO, layT_some, layT_none, layT_nil, List.setIfInBounds_toArray, List.set_cons_zero, List.set_cons_succ]
                · replace hge : 52 ≤ i := hgt
                  clear hgt
                  have he : i = 52 := Nat.le_antisymm (Nat.le_of_lt_succ hi) hge
                  subst he
                  have p45 := hpre 45 (by kernel_rfl)
                  have e45 : s45 = .bool true := hF.get 45 _ rfl (.inr p45)
                  subst e45
                  have p51 := hpre 51 (by kernel_rfl)
                  have e51 : s51 = .bool true := hF.get 51 _ rfl (.inr p51)
                  subst e51
                  have p36 := hpre 36 (by kernel_rfl)
                  have e36 : s36 = .bool true := hF.get 36 _ rfl (.inr p36)
                  subst e36
                  refine step_of ⟨some 84, _, _, _, _, _⟩ rfl (fun K' hK => ?_)
                  rw [if_pos (by rfl)]
                  go_simp
                  refine hK.out _ _ ⟨_, hF.pure hok hla hpre rfl (Below.refl _ _), ?fr⟩
                  case fr => simp only [putO, layT_some, layT_none, layT_nil, List.setIfInBounds_toArray, List.set_cons_zero, List.set_cons_succ]
              · replace hge : 53 ≤ i := hgt
                clear hgt
                rcases Nat.lt_or_ge i 54 with hlt | hgt
                · replace hi := hlt
                  clear hlt
                  have he : i = 53 := Nat.le_antisymm (Nat.le_of_lt_succ hi) hge
                  subst he
                  have p36 := hpre 36 (by kernel_rfl)
                  have e36 : s36 = .bool true := hF.get 36 _ rfl (.inr p36)
                  subst e36
                  have p52 := hpre 52 (by kernel_rfl)
                  have e52 : s52 = .bool true := hF.get 52 _ rfl (.inr p52)
                  subst e52
                  refine step_of ⟨some 85, _, _, _, _, _⟩ rfl (fun K' hK => ?_)
                  go_simp
                  refine hK.out _ _ ⟨_, hF.pure hok hla hpre rfl (Below.refl _ _), ?fr⟩
                  case fr => simp only [putO, layT_some, layT_none, layT_nil, List.setIfInBounds_toArray, List.set_cons_zero, List.set_cons_succ]
                · replace hge : 54 ≤ i := hgt
                  clear hgt
                  have he : i = 54 := Nat.le_antisymm (Nat.le_of_lt_succ hi) hge
                  subst he
                  have p53 := hpre 53 (by kernel_rfl)
                  have e53 : s53 = .bool true := hF.get 53 _ rfl (.inr p53)
                  subst e53
                  refine step_of ⟨some 4, _, _, _, _, _⟩ rfl (fun K' hK => ?_)
                  go_simp
                  refine hK.out _ _ ⟨_, hF.pure hok hla hpre rfl (Below.refl _ _), ?fr⟩
                  case fr => simp only [putO, layT_some, layT_none, layT_nil, List.setIfInBounds_toArray, List.set_cons_zero, List.set_cons_succ]
    case hd =>
      rintro listed vs WC hF hall
      obtain ⟨s0, s1, s2, s3, s4, s5, s6, s7, s8, s9, s10, s11, s12, s13, s14, s15, s16, s17, s18, s19, s20, s21, s22, s23, s24, s25, s26, s27, s28, s29, s30, s31, s32, s33, s34, s35, s36, s37, s38, s39, s40, s41, s42, s43, s44, s45, s46, s47, s48, s49, s50, s51, s52, s53, s54, hvs⟩ := exl_of 55 vs (fun l => vs = l) hF.len rfl
      subst hvs
      have e53 : s53 = .bool true := hF.get 53 _ rfl (.inr (hall 53 (by decide)))
      subst e53
      have e54 : s54 = .bool true := hF.get 54 _ rfl (.inr (hall 54 (by decide)))
      subst e54
      have hq := below_none hF.low
      replace HE := Lib.hid (HE.out.below hq)
      replace HL := Lib.hid (HL.out.trans (hq.mono HL.out.size))
      replace H5 := Lib.hid (keep_block H5.out hq)
      replace H6 := Lib.hid (keep_block H6.out hq)
      replace H8 := Lib.hid (keep_block H8.out hq)
      replace H9 := Lib.hid (keep_block H9.out hq)
      replace H10 := Lib.hid (keep_block H10.out hq)
      clear hq
      clear hF hall hok hna hla
      simp only [putO, layT_some, layT_none, layT_nil, List.setIfInBounds_toArray, List.set_cons_zero, List.set_cons_succ]
      go_wp2
      go_ret
      exact ⟨rfl, HL.out⟩

set_option linter.unusedVariables false in
/-- what the operations of region 6 yield -/
def BklowKs6 (m t u : Int) (c : Bool) (D T B tw Wk Y Mo Da H Mi Se ze X Vk : Rat) : List RK :=
  [.pure (.agg #[.int .i64 1, .string (numS D), .string (denS D), .string { data := #[] }, .bool false, .int .i64 0, .int .i64 0, .int .i64 0, .slice none 0 0]),
   .pure (.agg #[.int .i64 1, .string (numS tw), .string (denS tw), .string { data := #[] }, .bool false, .int .i64 0, .int .i64 0, .int .i64 0, .slice none 0 0]),
   .row #[.int .i64 1, .string (numS D), .string (denS D), .string { data := #[] }, .bool false, .int .i64 0, .int .i64 0, .int .i64 0, .slice none 0 0, .int .i64 1, .string (numS tw), .string (denS tw), .string { data := #[] }, .bool false, .int .i64 0, .int .i64 0, .int .i64 0, .slice none 0 0] 30 2,
   .pure (.agg #[.int .i64 1, .string (numS Wk), .string (denS Wk), .string { data := #[] }, .bool false, .int .i64 0, .int .i64 0, .int .i64 0, .slice none 0 0]),
   .box none #[.int .i64 0, .string { data := #[] }, .string { data := #[] }, .string { data := #[] }, .bool false, .int .i64 0, .int .i64 0, .int .i64 0, .slice none 0 0] #[.int .i64 1, .string (numS Wk), .string (denS Wk), .string { data := #[] }, .bool false, .int .i64 0, .int .i64 0, .int .i64 0, .slice none 0 0] 30 5,
   .put 4]
set_option linter.unusedVariables false in
/-- what the operations of region 7 yield -/
def BklowKs7 (m t u : Int) (c : Bool) (D T B tw Wk Y Mo Da H Mi Se ze X Vk : Rat) : List RK :=
  [.pure (.agg #[.int .i64 1, .string (numS D), .string (denS D), .string { data := #[] }, .bool false, .int .i64 0, .int .i64 0, .int .i64 0, .slice none 0 0]),
   .row #[.int .i64 1, .string (numS D), .string (denS D), .string { data := #[] }, .bool false, .int .i64 0, .int .i64 0, .int .i64 0, .slice none 0 0] 30 1,
   .pure (.agg #[.int .i64 1, .string (numS Y), .string (denS Y), .string { data := #[] }, .bool false, .int .i64 0, .int .i64 0, .int .i64 0, .slice none 0 0]),
   .pure (.agg #[.int .i64 1, .string (numS D), .string (denS D), .string { data := #[] }, .bool false, .int .i64 0, .int .i64 0, .int .i64 0, .slice none 0 0]),
   .row #[.int .i64 1, .string (numS D), .string (denS D), .string { data := #[] }, .bool false, .int .i64 0, .int .i64 0, .int .i64 0, .slice none 0 0] 30 1,
   .pure (.agg #[.int .i64 1, .string (numS Mo), .string (denS Mo), .string { data := #[] }, .bool false, .int .i64 0, .int .i64 0, .int .i64 0, .slice none 0 0]),
   .pure (.agg #[.int .i64 1, .string (numS D), .string (denS D), .string { data := #[] }, .bool false, .int .i64 0, .int .i64 0, .int .i64 0, .slice none 0 0]),
   .row #[.int .i64 1, .string (numS D), .string (denS D), .string { data := #[] }, .bool false, .int .i64 0, .int .i64 0, .int .i64 0, .slice none 0 0] 30 1,
   .pure (.agg #[.int .i64 1, .string (numS Da), .string (denS Da), .string { data := #[] }, .bool false, .int .i64 0, .int .i64 0, .int .i64 0, .slice none 0 0]),
   .row #[.int .i64 1, .string (numS Y), .string (denS Y), .string { data := #[] }, .bool false, .int .i64 0, .int .i64 0, .int .i64 0, .slice none 0 0, .int .i64 1, .string (numS Mo), .string (denS Mo), .string { data := #[] }, .bool false, .int .i64 0, .int .i64 0, .int .i64 0, .slice none 0 0, .int .i64 1, .string (numS Da), .string (denS Da), .string { data := #[] }, .bool false, .int .i64 0, .int .i64 0, .int .i64 0, .slice none 0 0] 30 3,
   .pure (.agg #[.int .i64 1, .string (numS D), .string (denS D), .string { data := #[] }, .bool false, .int .i64 0, .int .i64 0, .int .i64 0, .slice none 0 0]),
   .pure (.agg #[.int .i64 1, .string (numS D), .string (denS D), .string { data := #[] }, .bool false, .int .i64 0, .int .i64 0, .int .i64 0, .slice none 0 0]),
   .pure (.bool true),
   .pure (.bool true),
   .pure (.agg #[.int .i64 1, .string (numS B), .string (denS B), .string { data := #[] }, .bool false, .int .i64 0, .int .i64 0, .int .i64 0, .slice none 0 0]),
   .row #[.int .i64 1, .string (numS B), .string (denS B), .string { data := #[] }, .bool false, .int .i64 0, .int .i64 0, .int .i64 0, .slice none 0 0] 30 1,
   .pure (.agg #[.int .i64 1, .string (numS H), .string (denS H), .string { data := #[] }, .bool false, .int .i64 0, .int .i64 0, .int .i64 0, .slice none 0 0]),
   .pure (.agg #[.int .i64 1, .string (numS B), .string (denS B), .string { data := #[] }, .bool false, .int .i64 0, .int .i64 0, .int .i64 0, .slice none 0 0]),
   .row #[.int .i64 1, .string (numS B), .string (denS B), .string { data := #[] }, .bool false, .int .i64 0, .int .i64 0, .int .i64 0, .slice none 0 0] 30 1,
   .pure (.agg #[.int .i64 1, .string (numS Mi), .string (denS Mi), .string { data := #[] }, .bool false, .int .i64 0, .int .i64 0, .int .i64 0, .slice none 0 0]),
   .pure (.agg #[.int .i64 1, .string (numS B), .string (denS B), .string { data := #[] }, .bool false, .int .i64 0, .int .i64 0, .int .i64 0, .slice none 0 0]),
   .row #[.int .i64 1, .string (numS B), .string (denS B), .string { data := #[] }, .bool false, .int .i64 0, .int .i64 0, .int .i64 0, .slice none 0 0] 30 1,
   .pure (.agg #[.int .i64 1, .string (numS Se), .string (denS Se), .string { data := #[] }, .bool false, .int .i64 0, .int .i64 0, .int .i64 0, .slice none 0 0]),
   .row #[.int .i64 1, .string (numS H), .string (denS H), .string { data := #[] }, .bool false, .int .i64 0, .int .i64 0, .int .i64 0, .slice none 0 0, .int .i64 1, .string (numS Mi), .string (denS Mi), .string { data := #[] }, .bool false, .int .i64 0, .int .i64 0, .int .i64 0, .slice none 0 0, .int .i64 1, .string (numS Se), .string (denS Se), .string { data := #[] }, .bool false, .int .i64 0, .int .i64 0, .int .i64 0, .slice none 0 0] 30 3,
   .pure (.agg #[.int .i64 1, .string (numS T), .string (denS T), .string { data := #[] }, .bool false, .int .i64 0, .int .i64 0, .int .i64 0, .slice none 0 0]),
   .pure (.agg #[.int .i64 1, .string (numS T), .string (denS T), .string { data := #[] }, .bool false, .int .i64 0, .int .i64 0, .int .i64 0, .slice none 0 0]),
   .pure (.bool true),
   .pure (.bool true),
   .pure (.bool true),
   .pure (.agg #[.int .i64 1, .string (numS B), .string (denS B), .string { data := #[] }, .bool false, .int .i64 0, .int .i64 0, .int .i64 0, .slice none 0 0]),
   .pure (.agg #[.int .i64 1, .string (numS D), .string (denS D), .string { data := #[] }, .bool false, .int .i64 0, .int .i64 0, .int .i64 0, .slice none 0 0]),
   .row #[.int .i64 1, .string (numS B), .string (denS B), .string { data := #[] }, .bool false, .int .i64 0, .int .i64 0, .int .i64 0, .slice none 0 0, .int .i64 1, .string (numS D), .string (denS D), .string { data := #[] }, .bool false, .int .i64 0, .int .i64 0, .int .i64 0, .slice none 0 0] 30 2,
   .pure (.agg #[.int .i64 1, .string (numS ze), .string (denS ze), .string { data := #[] }, .bool false, .int .i64 0, .int .i64 0, .int .i64 0, .slice none 0 0]),
   .pure (.agg #[.int .i64 1, .string (numS ze), .string (denS ze), .string { data := #[] }, .bool false, .int .i64 0, .int .i64 0, .int .i64 0, .slice none 0 0]),
   .pure (.bool true),
   .pure (.bool true),
   .pure (.bool true),
   .pure (.int .i64 (1 + m)),
   .pure (.int .i64 (1 + m - 7)),
   .pure (.int .i64 u),
   .pure (.agg #[.int .i64 1, .string (numS X), .string (denS X), .string { data := #[] }, .bool false, .int .i64 0, .int .i64 0, .int .i64 0, .slice none 0 0]),
   .pure (.agg #[.int .i64 1, .string (numS tw), .string (denS tw), .string { data := #[] }, .bool false, .int .i64 0, .int .i64 0, .int .i64 0, .slice none 0 0]),
   .row #[.int .i64 1, .string (numS X), .string (denS X), .string { data := #[] }, .bool false, .int .i64 0, .int .i64 0, .int .i64 0, .slice none 0 0, .int .i64 1, .string (numS tw), .string (denS tw), .string { data := #[] }, .bool false, .int .i64 0, .int .i64 0, .int .i64 0, .slice none 0 0] 30 2,
   .pure (.agg #[.int .i64 1, .string (numS Vk), .string (denS Vk), .string { data := #[] }, .bool false, .int .i64 0, .int .i64 0, .int .i64 0, .slice none 0 0]),
   .pure (.agg #[.int .i64 1, .string (numS Wk), .string (denS Wk), .string { data := #[] }, .bool false, .int .i64 0, .int .i64 0, .int .i64 0, .slice none 0 0]),
   .pure (.bool c),
   .pure (.int .i64 (1 + m)),
   .pure (.bool false),
   .pure (.bool false),
   .pure (.int .i64 (1 + m)),
   .pure (.bool c),
   .pure (.bool c),
   .pure (.bool true),
   .pure (.bool true),
   .pure (.bool true)]
set_option linter.unusedSimpArgs false in
set_option linter.unusedVariables false in
set_option maxHeartbeats 16000000 in
set_option maxRecDepth 100000 in
theorem back_low (n s m t u : Int) (D T B tw Wk Y Mo Da H Mi Se ze X Vk : Rat) (w : World) (hE : Env w) (hn0 : -9223372036854775808 ≤ n) (hn1 : n ≤ 9223372036854775807) (hs0 : -9223372036854775808 ≤ s) (hs1 : s ≤ 9223372036854775807) (hm : n % 2958464 = m) (ht : s % 86400 = t) (hu : max 1 (1 + m - 7) = u) (c : Bool) (hhi : 1 + m ≤ 7) (hc : decide (1 + m = 1) = c)
    (r0 : DateRow { data := #[87, 69, 69, 75, 68, 65, 89] } #[.int .i64 1, .string (numS D), .string (denS D), .string { data := #[] }, .bool false, .int .i64 0, .int .i64 0, .int .i64 0, .slice none 0 0, .int .i64 1, .string (numS tw), .string (denS tw), .string { data := #[] }, .bool false, .int .i64 0, .int .i64 0, .int .i64 0, .slice none 0 0] 2 (.agg #[.int .i64 1, .string (numS Wk), .string (denS Wk), .string { data := #[] }, .bool false, .int .i64 0, .int .i64 0, .int .i64 0, .slice none 0 0]))
    (r1 : DateRow { data := #[89, 69, 65, 82] } #[.int .i64 1, .string (numS D), .string (denS D), .string { data := #[] }, .bool false, .int .i64 0, .int .i64 0, .int .i64 0, .slice none 0 0] 1 (.agg #[.int .i64 1, .string (numS Y), .string (denS Y), .string { data := #[] }, .bool false, .int .i64 0, .int .i64 0, .int .i64 0, .slice none 0 0]))
    (r2 : DateRow { data := #[77, 79, 78, 84, 72] } #[.int .i64 1, .string (numS D), .string (denS D), .string { data := #[] }, .bool false, .int .i64 0, .int .i64 0, .int .i64 0, .slice none 0 0] 1 (.agg #[.int .i64 1, .string (numS Mo), .string (denS Mo), .string { data := #[] }, .bool false, .int .i64 0, .int .i64 0, .int .i64 0, .slice none 0 0]))
    (r3 : DateRow { data := #[68, 65, 89] } #[.int .i64 1, .string (numS D), .string (denS D), .string { data := #[] }, .bool false, .int .i64 0, .int .i64 0, .int .i64 0, .slice none 0 0] 1 (.agg #[.int .i64 1, .string (numS Da), .string (denS Da), .string { data := #[] }, .bool false, .int .i64 0, .int .i64 0, .int .i64 0, .slice none 0 0]))
    (r4 : DateRow { data := #[68, 65, 84, 69] } #[.int .i64 1, .string (numS Y), .string (denS Y), .string { data := #[] }, .bool false, .int .i64 0, .int .i64 0, .int .i64 0, .slice none 0 0, .int .i64 1, .string (numS Mo), .string (denS Mo), .string { data := #[] }, .bool false, .int .i64 0, .int .i64 0, .int .i64 0, .slice none 0 0, .int .i64 1, .string (numS Da), .string (denS Da), .string { data := #[] }, .bool false, .int .i64 0, .int .i64 0, .int .i64 0, .slice none 0 0] 3 (.agg #[.int .i64 1, .string (numS D), .string (denS D), .string { data := #[] }, .bool false, .int .i64 0, .int .i64 0, .int .i64 0, .slice none 0 0]))
    (r5 : DateRow { data := #[72, 79, 85, 82] } #[.int .i64 1, .string (numS B), .string (denS B), .string { data := #[] }, .bool false, .int .i64 0, .int .i64 0, .int .i64 0, .slice none 0 0] 1 (.agg #[.int .i64 1, .string (numS H), .string (denS H), .string { data := #[] }, .bool false, .int .i64 0, .int .i64 0, .int .i64 0, .slice none 0 0]))
    (r6 : DateRow { data := #[77, 73, 78, 85, 84, 69] } #[.int .i64 1, .string (numS B), .string (denS B), .string { data := #[] }, .bool false, .int .i64 0, .int .i64 0, .int .i64 0, .slice none 0 0] 1 (.agg #[.int .i64 1, .string (numS Mi), .string (denS Mi), .string { data := #[] }, .bool false, .int .i64 0, .int .i64 0, .int .i64 0, .slice none 0 0]))
    (r7 : DateRow { data := #[83, 69, 67, 79, 78, 68] } #[.int .i64 1, .string (numS B), .string (denS B), .string { data := #[] }, .bool false, .int .i64 0, .int .i64 0, .int .i64 0, .slice none 0 0] 1 (.agg #[.int .i64 1, .string (numS Se), .string (denS Se), .string { data := #[] }, .bool false, .int .i64 0, .int .i64 0, .int .i64 0, .slice none 0 0]))
    (r8 : DateRow { data := #[84, 73, 77, 69] } #[.int .i64 1, .string (numS H), .string (denS H), .string { data := #[] }, .bool false, .int .i64 0, .int .i64 0, .int .i64 0, .slice none 0 0, .int .i64 1, .string (numS Mi), .string (denS Mi), .string { data := #[] }, .bool false, .int .i64 0, .int .i64 0, .int .i64 0, .slice none 0 0, .int .i64 1, .string (numS Se), .string (denS Se), .string { data := #[] }, .bool false, .int .i64 0, .int .i64 0, .int .i64 0, .slice none 0 0] 3 (.agg #[.int .i64 1, .string (numS T), .string (denS T), .string { data := #[] }, .bool false, .int .i64 0, .int .i64 0, .int .i64 0, .slice none 0 0]))
    (r9 : DateRow { data := #[68, 65, 89, 83] } #[.int .i64 1, .string (numS B), .string (denS B), .string { data := #[] }, .bool false, .int .i64 0, .int .i64 0, .int .i64 0, .slice none 0 0, .int .i64 1, .string (numS D), .string (denS D), .string { data := #[] }, .bool false, .int .i64 0, .int .i64 0, .int .i64 0, .slice none 0 0] 2 (.agg #[.int .i64 1, .string (numS ze), .string (denS ze), .string { data := #[] }, .bool false, .int .i64 0, .int .i64 0, .int .i64 0, .slice none 0 0]))
    (r10 : DateRow { data := #[87, 69, 69, 75, 68, 65, 89] } #[.int .i64 1, .string (numS X), .string (denS X), .string { data := #[] }, .bool false, .int .i64 0, .int .i64 0, .int .i64 0, .slice none 0 0, .int .i64 1, .string (numS tw), .string (denS tw), .string { data := #[] }, .bool false, .int .i64 0, .int .i64 0, .int .i64 0, .slice none 0 0] 2 (.agg #[.int .i64 1, .string (numS Vk), .string (denS Vk), .string { data := #[] }, .bool false, .int .i64 0, .int .i64 0, .int .i64 0, .slice none 0 0]))
    (tD : Fun1 11 (.int .i64 (1 + m)) (.agg #[.int .i64 1, .string (numS D), .string (denS D), .string { data := #[] }, .bool false, .int .i64 0, .int .i64 0, .int .i64 0, .slice none 0 0]))
    (ttw : Fun1 11 (.int .i64 2) (.agg #[.int .i64 1, .string (numS tw), .string (denS tw), .string { data := #[] }, .bool false, .int .i64 0, .int .i64 0, .int .i64 0, .slice none 0 0]))
    (tze : Fun1 11 (.int .i64 0) (.agg #[.int .i64 1, .string (numS ze), .string (denS ze), .string { data := #[] }, .bool false, .int .i64 0, .int .i64 0, .int .i64 0, .slice none 0 0]))
    (tX : Fun1 11 (.int .i64 u) (.agg #[.int .i64 1, .string (numS X), .string (denS X), .string { data := #[] }, .bool false, .int .i64 0, .int .i64 0, .int .i64 0, .slice none 0 0]))
    (tR : Fun2 8 (.int .i64 t) (.int .i64 86400) (.tuple #[.agg #[.string (numS T), .string (denS T)], .int .i64 0]))
    (tN : Fun1 10 (.agg #[.string (numS T), .string (denS T)]) (.agg #[.int .i64 1, .string (numS T), .string (denS T), .string { data := #[] }, .bool false, .int .i64 0, .int .i64 0, .int .i64 0, .slice none 0 0]))
    (tB : Fun2 15 (.agg #[.int .i64 1, .string (numS D), .string (denS D), .string { data := #[] }, .bool false, .int .i64 0, .int .i64 0, .int .i64 0, .slice none 0 0]) (.agg #[.int .i64 1, .string (numS T), .string (denS T), .string { data := #[] }, .bool false, .int .i64 0, .int .i64 0, .int .i64 0, .slice none 0 0]) (.agg #[.int .i64 1, .string (numS B), .string (denS B), .string { data := #[] }, .bool false, .int .i64 0, .int .i64 0, .int .i64 0, .slice none 0 0]))
    (tS : Fun2 14 (.agg #[.int .i64 1, .string (numS Vk), .string (denS Vk), .string { data := #[] }, .bool false, .int .i64 0, .int .i64 0, .int .i64 0, .slice none 0 0]) (.agg #[.int .i64 1, .string (numS Wk), .string (denS Wk), .string { data := #[] }, .bool false, .int .i64 0, .int .i64 0, .int .i64 0, .slice none 0 0]) (.bool c)) :
    Calls Tryz.prog 5 #[.int .i64 n, .int .i64 s] w fun e w' => e = .returned (.bool true) ∧ Below w.heap.size w w' := by
  have TMn := Lib.hid (fun W => kmod_any n 2958464 hn0 hn1 (by decide) (by decide) W)
  rw [hm] at TMn
  have TMs := Lib.hid (fun W => kmod_any s 86400 hs0 hs1 (by decide) (by decide) W)
  rw [ht] at TMs
  have hm0 : 0 ≤ m ∧ m ≤ 2958463 := by omega
  have ht0 : 0 ≤ t ∧ t ≤ 86399 := by omega
  have Qr0 := Lib.hid (fun W G h g => r0 W G h g)
  have Qr1 := Lib.hid (fun W G h g => r1 W G h g)
  have Qr2 := Lib.hid (fun W G h g => r2 W G h g)
  have Qr3 := Lib.hid (fun W G h g => r3 W G h g)
  have Qr4 := Lib.hid (fun W G h g => r4 W G h g)
  have Qr5 := Lib.hid (fun W G h g => r5 W G h g)
  have Qr6 := Lib.hid (fun W G h g => r6 W G h g)
  have Qr7 := Lib.hid (fun W G h g => r7 W G h g)
  have Qr8 := Lib.hid (fun W G h g => r8 W G h g)
  have Qr9 := Lib.hid (fun W G h g => r9 W G h g)
  have Qr10 := Lib.hid (fun W G h g => r10 W G h g)
  have QtD := Lib.hid tD
  have Qttw := Lib.hid ttw
  have Qtze := Lib.hid tze
  have QtX := Lib.hid tX
  have QtR := Lib.hid tR
  have QtN := Lib.hid tN
  have QtB := Lib.hid tB
  have QtS := Lib.hid tS
  have hw7 : IntKind.i64.wrap (1 + m - 7) = 1 + m - 7 := IntWalk.i64_in _ (by omega)
  have RS := Lib.hid same_one
  have HE := Lib.hid hE
  have HL := Lib.hid (Below.refl w.heap.size w)
  unfold Fun1 at QtD Qttw Qtze QtX QtN
  unfold Fun2 at QtR  QtB  QtS
  have hd7 : decide (7 < 1 + m) = false := decide_eq_false (by omega)
  have hc1 : ((1 + m : Int) == 1) = c := by rw [← hc]; rfl
  clear hE hm ht hn0 hn1 hs0 hs1 hhi hc r0 r1 r2 r3 r4 r5 r6 r7 r8 r9 r10 tD ttw tze tX tR tN tB tS
  go_enter Tryz.func5, Tryz.ntmps5
  go_wp2_with fail
  refine (TMn.out _).mono ?_
  rintro e w1 ⟨rfl, rfl⟩
  go_wp2_with fail
  refine (TMs.out _).mono ?_
  rintro e w2 ⟨rfl, rfl⟩
  go_wp2_with fail
  (with_reducible refine (QtD.out _ HE.out).mono ?_)
  rintro e w3 ⟨rfl, hq⟩
  replace HE := Lib.hid (HE.out.below hq)
  replace HL := Lib.hid (HL.out.trans (hq.mono HL.out.size))
  clear hq
  have hq : Below w3.heap.size w3 (w3.alloc (.cells #[.int .i64 1, .string (numS D), .string (denS D), .string { data := #[] }, .bool false, .int .i64 0, .int .i64 0, .int .i64 0, .slice none 0 0] 30)) := ((Below.refl _ _).alloc (Nat.le_refl _) _)
  replace HE := Lib.hid (HE.out.below hq)
  replace HL := Lib.hid (HL.out.trans (hq.mono HL.out.size))
  have H5 : Hid ((w3.alloc (.cells #[.int .i64 1, .string (numS D), .string (denS D), .string { data := #[] }, .bool false, .int .i64 0, .int .i64 0, .int .i64 0, .slice none 0 0] 30)).heap[w3.heap.size]? = some (.cells #[.int .i64 1, .string (numS D), .string (denS D), .string { data := #[] }, .bool false, .int .i64 0, .int .i64 0, .int .i64 0, .slice none 0 0] 30 (0, 0))) := Lib.hid (by
    have h := heap_alloc_new w3 (.cells #[.int .i64 1, .string (numS D), .string (denS D), .string { data := #[] }, .bool false, .int .i64 0, .int .i64 0, .int .i64 0, .slice none 0 0] 30)
    exact h)
  clear hq
  obtain ⟨WL1, hWL1⟩ : ∃ Z, (w3.alloc (.cells #[.int .i64 1, .string (numS D), .string (denS D), .string { data := #[] }, .bool false, .int .i64 0, .int .i64 0, .int .i64 0, .slice none 0 0] 30)) = Z := ⟨_, rfl⟩
  rw [hWL1] at HE HL H5
  have EWL1 := Lib.hid hWL1
  clear hWL1
  go_wp2_with fail
  rw [EWL1.out]
  (with_reducible refine (QtR.out _ HE.out).mono ?_)
  rintro e w4 ⟨rfl, hq⟩
  replace HE := Lib.hid (HE.out.below hq)
  replace HL := Lib.hid (HL.out.trans (hq.mono HL.out.size))
  replace H5 := Lib.hid (keep_block H5.out hq)
  clear hq
  have hq : Below w4.heap.size w4 (w4.alloc (.cells #[.string (numS T), .string (denS T)] 23)) := ((Below.refl _ _).alloc (Nat.le_refl _) _)
  replace HE := Lib.hid (HE.out.below hq)
  replace HL := Lib.hid (HL.out.trans (hq.mono HL.out.size))
  replace H5 := Lib.hid (keep_block H5.out hq)
  have H6 : Hid ((w4.alloc (.cells #[.string (numS T), .string (denS T)] 23)).heap[w4.heap.size]? = some (.cells #[.string (numS T), .string (denS T)] 23 (0, 0))) := Lib.hid (by
    have h := heap_alloc_new w4 (.cells #[.string (numS T), .string (denS T)] 23)
    exact h)
  clear hq
  obtain ⟨WL2, hWL2⟩ : ∃ Z, (w4.alloc (.cells #[.string (numS T), .string (denS T)] 23)) = Z := ⟨_, rfl⟩
  rw [hWL2] at HE HL H5 H6
  have EWL2 := Lib.hid hWL2
  clear hWL2
  have hld := H6.out
  rw [← EWL2.out] at hld
  obtain ⟨⟨lH60, lH61⟩, _⟩ := two_at hld
  clear hld
  go_wp2_with fail
  rw [EWL2.out]
  (with_reducible refine (QtN.out _ HE.out).mono ?_)
  rintro e w5 ⟨rfl, hq⟩
  replace HE := Lib.hid (HE.out.below hq)
  replace HL := Lib.hid (HL.out.trans (hq.mono HL.out.size))
  replace H5 := Lib.hid (keep_block H5.out hq)
  replace H6 := Lib.hid (keep_block H6.out hq)
  clear hq
  clear lH60 lH61
  have hq : Below w5.heap.size w5 (w5.alloc (.cells #[.int .i64 1, .string (numS T), .string (denS T), .string { data := #[] }, .bool false, .int .i64 0, .int .i64 0, .int .i64 0, .slice none 0 0] 30)) := ((Below.refl _ _).alloc (Nat.le_refl _) _)
  replace HE := Lib.hid (HE.out.below hq)
  replace HL := Lib.hid (HL.out.trans (hq.mono HL.out.size))
  replace H5 := Lib.hid (keep_block H5.out hq)
  replace H6 := Lib.hid (keep_block H6.out hq)
  have H8 : Hid ((w5.alloc (.cells #[.int .i64 1, .string (numS T), .string (denS T), .string { data := #[] }, .bool false, .int .i64 0, .int .i64 0, .int .i64 0, .slice none 0 0] 30)).heap[w5.heap.size]? = some (.cells #[.int .i64 1, .string (numS T), .string (denS T), .string { data := #[] }, .bool false, .int .i64 0, .int .i64 0, .int .i64 0, .slice none 0 0] 30 (0, 0))) := Lib.hid (by
    have h := heap_alloc_new w5 (.cells #[.int .i64 1, .string (numS T), .string (denS T), .string { data := #[] }, .bool false, .int .i64 0, .int .i64 0, .int .i64 0, .slice none 0 0] 30)
    exact h)
  clear hq
  obtain ⟨WL3, hWL3⟩ : ∃ Z, (w5.alloc (.cells #[.int .i64 1, .string (numS T), .string (denS T), .string { data := #[] }, .bool false, .int .i64 0, .int .i64 0, .int .i64 0, .slice none 0 0] 30)) = Z := ⟨_, rfl⟩
  rw [hWL3] at HE HL H5 H6 H8
  have EWL3 := Lib.hid hWL3
  clear hWL3
  have hld := H5.out
  rw [← EWL3.out] at hld
  obtain ⟨⟨lH50, lH51, lH52, lH53, lH54, lH55, lH56, lH57, lH58⟩, _⟩ := nine_at hld
  clear hld
  have hld := H8.out
  rw [← EWL3.out] at hld
  obtain ⟨⟨lH80, lH81, lH82, lH83, lH84, lH85, lH86, lH87, lH88⟩, _⟩ := nine_at hld
  clear hld
  go_wp2_with fail
  rw [EWL3.out]
  (with_reducible refine (QtB.out _ HE.out).mono ?_)
  rintro e w6 ⟨rfl, hq⟩
  replace HE := Lib.hid (HE.out.below hq)
  replace HL := Lib.hid (HL.out.trans (hq.mono HL.out.size))
  replace H5 := Lib.hid (keep_block H5.out hq)
  replace H6 := Lib.hid (keep_block H6.out hq)
  replace H8 := Lib.hid (keep_block H8.out hq)
  clear hq
  clear lH50 lH51 lH52 lH53 lH54 lH55 lH56 lH57 lH58 lH80 lH81 lH82 lH83 lH84 lH85 lH86 lH87 lH88
  have hq : Below w6.heap.size w6 (w6.alloc (.cells #[.int .i64 1, .string (numS B), .string (denS B), .string { data := #[] }, .bool false, .int .i64 0, .int .i64 0, .int .i64 0, .slice none 0 0] 30)) := ((Below.refl _ _).alloc (Nat.le_refl _) _)
  replace HE := Lib.hid (HE.out.below hq)
  replace HL := Lib.hid (HL.out.trans (hq.mono HL.out.size))
  replace H5 := Lib.hid (keep_block H5.out hq)
  replace H6 := Lib.hid (keep_block H6.out hq)
  replace H8 := Lib.hid (keep_block H8.out hq)
  have H9 : Hid ((w6.alloc (.cells #[.int .i64 1, .string (numS B), .string (denS B), .string { data := #[] }, .bool false, .int .i64 0, .int .i64 0, .int .i64 0, .slice none 0 0] 30)).heap[w6.heap.size]? = some (.cells #[.int .i64 1, .string (numS B), .string (denS B), .string { data := #[] }, .bool false, .int .i64 0, .int .i64 0, .int .i64 0, .slice none 0 0] 30 (0, 0))) := Lib.hid (by
    have h := heap_alloc_new w6 (.cells #[.int .i64 1, .string (numS B), .string (denS B), .string { data := #[] }, .bool false, .int .i64 0, .int .i64 0, .int .i64 0, .slice none 0 0] 30)
    exact h)
  clear hq
  obtain ⟨WL4, hWL4⟩ : ∃ Z, (w6.alloc (.cells #[.int .i64 1, .string (numS B), .string (denS B), .string { data := #[] }, .bool false, .int .i64 0, .int .i64 0, .int .i64 0, .slice none 0 0] 30)) = Z := ⟨_, rfl⟩
  rw [hWL4] at HE HL H5 H6 H8 H9
  have EWL4 := Lib.hid hWL4
  clear hWL4
  go_wp2_with fail
  rw [EWL4.out]
  have hok : okB 6 (BklowKs6 m t u c D T B tw Wk Y Mo Da H Mi Se ze X Vk) = true := by kernel_rfl
  have hna := noAny_of (ks := (BklowKs6 m t u c D T B tw Wk Y Mo Da H Mi Se ze X Vk)) (by kernel_rfl)
  have hla := lasts_of hna
  refine wp_region_facts (row := none) (w := WL4) 6 (BklowKs6 m t u c D T B tw Wk Y Mo Da H Mi Se ze X Vk) [some 28, some 29, some 30, some 31, some 10, none] (by kernel_rfl) (by kernel_rfl) rfl [undef, undef, undef, undef, undef, undef] ?h00 (Fs.start rfl rfl) ?hs ?hd
  case h00 => simp only [putO, layT_some, layT_none, layT_nil, List.setIfInBounds_toArray, List.set_cons_zero, List.set_cons_succ]
  case hs =>
    rintro listed vs Wr hF i hi hun hpre
    obtain ⟨s0, s1, s2, s3, s4, s5, hvs⟩ := exl_of 6 vs (fun l => vs = l) hF.len rfl
    subst hvs
    have hge := Nat.zero_le i
    simp only [putO, layT_some, layT_none, layT_nil, List.setIfInBounds_toArray, List.set_cons_zero, List.set_cons_succ]
    rcases Nat.lt_or_ge i 3 with hlt | hgt
    · replace hi := hlt
      clear hlt
      rcases Nat.lt_or_ge i 1 with hlt | hgt
      · replace hi := hlt
        clear hlt
        have he : i = 0 := Nat.le_antisymm (Nat.le_of_lt_succ hi) hge
        subst he
        have hcc := (nine_at (keep_block H5.out (below_none hF.low))).1
        have cH50 := hcc.1
        have cH51 := hcc.2.1
        have cH52 := hcc.2.2.1
        have cH53 := hcc.2.2.2.1
        have cH54 := hcc.2.2.2.2.1
        have cH55 := hcc.2.2.2.2.2.1
        have cH56 := hcc.2.2.2.2.2.2.1
        have cH57 := hcc.2.2.2.2.2.2.2.1
        have cH58 := hcc.2.2.2.2.2.2.2.2
        clear hcc
        refine step_of ⟨some 28, _, _, _, _, _⟩ rfl (fun K' hK => ?_)
        go_simp
        refine hK.out _ _ ⟨_, hF.pure hok hla hpre rfl (Below.refl _ _), ?fr⟩
        case fr => simp only [putO, layT_some, layT_none, layT_nil, List.setIfInBounds_toArray, List.set_cons_zero, List.set_cons_succ]
      · replace hge : 1 ≤ i := hgt
        clear hgt
        rcases Nat.lt_or_ge i 2 with hlt | hgt
        · replace hi := hlt
          clear hlt
          have he : i = 1 := Nat.le_antisymm (Nat.le_of_lt_succ hi) hge
          subst he
          refine step_of ⟨some 29, _, _, _, _, _⟩ rfl (fun K' hK => ?_)
          go_simp
          go_at_call 11
          (with_reducible refine (Qttw.out _ (HE.out.below (below_none hF.low))).mono ?_)
          rintro e Wq ⟨rfl, hq⟩
          refine hK.out _ _ ⟨_, hF.pure hok hla hpre rfl hq, ?fr⟩
          case fr => simp only [putO, layT_some, layT_none, layT_nil, List.setIfInBounds_toArray, List.set_cons_zero, List.set_cons_succ]
        · replace hge : 2 ≤ i := hgt
          clear hgt
          have he : i = 2 := Nat.le_antisymm (Nat.le_of_lt_succ hi) hge
          subst he
          have p0 := hpre 0 (by kernel_rfl)
          have e0 : s0 = .agg #[.int .i64 1, .string (numS D), .string (denS D), .string { data := #[] }, .bool false, .int .i64 0, .int .i64 0, .int .i64 0, .slice none 0 0] := hF.get 0 _ rfl (.inr p0)
          subst e0
          have p1 := hpre 1 (by kernel_rfl)
          have e1 : s1 = .agg #[.int .i64 1, .string (numS tw), .string (denS tw), .string { data := #[] }, .bool false, .int .i64 0, .int .i64 0, .int .i64 0, .slice none 0 0] := hF.get 1 _ rfl (.inr p1)
          subst e1
          refine step_of ⟨some 30, _, _, _, _, _⟩ rfl (fun K' hK => ?_)
          go_simp
          refine hK.out _ _ ⟨_, hF.row hok hla hpre rfl, ?fr⟩
          case fr => simp only [putO, layT_some, layT_none, layT_nil, List.setIfInBounds_toArray, List.set_cons_zero, List.set_cons_succ]
    · replace hge : 3 ≤ i := hgt
      clear hgt
      rcases Nat.lt_or_ge i 4 with hlt | hgt
      · replace hi := hlt
        clear hlt
        have he : i = 3 := Nat.le_antisymm (Nat.le_of_lt_succ hi) hge
        subst he
        have p2 := hpre 2 (by kernel_rfl)
        obtain ⟨G, eG, _, hGB⟩ : ∃ G, s2 = .slice (some ⟨G, 0, none⟩) 2 2 ∧ _ ≤ G ∧ Wr.heap[G]? = some (.cells #[.int .i64 1, .string (numS D), .string (denS D), .string { data := #[] }, .bool false, .int .i64 0, .int .i64 0, .int .i64 0, .slice none 0 0, .int .i64 1, .string (numS tw), .string (denS tw), .string { data := #[] }, .bool false, .int .i64 0, .int .i64 0, .int .i64 0, .slice none 0 0] 30 (0, 0)) := hF.get 2 _ rfl (.inr p2)
        subst eG
        refine step_of ⟨some 31, _, _, _, _, _⟩ rfl (fun K' hK => ?_)
        go_simp
        go_at_call 20
        (with_reducible refine (Qr0.out _ _ hGB (HE.out.below (below_none hF.low))).mono ?_)
        rintro e Wq ⟨rfl, hq⟩
        refine hK.out _ _ ⟨_, hF.pure hok hla hpre rfl hq, ?fr⟩
        case fr => simp only [putO, layT_some, layT_none, layT_nil, List.setIfInBounds_toArray, List.set_cons_zero, List.set_cons_succ]
      · replace hge : 4 ≤ i := hgt
        clear hgt
        rcases Nat.lt_or_ge i 5 with hlt | hgt
        · replace hi := hlt
          clear hlt
          have he : i = 4 := Nat.le_antisymm (Nat.le_of_lt_succ hi) hge
          subst he
          refine step_of ⟨some 10, _, _, _, _, _⟩ rfl (fun K' hK => ?_)
          go_simp
          refine hK.out _ _ ⟨_, hF.box hok hla hpre hun rfl, ?fr⟩
          case fr => simp only [putO, layT_some, layT_none, layT_nil, List.setIfInBounds_toArray, List.set_cons_zero, List.set_cons_succ]
        · replace hge : 5 ≤ i := hgt
          clear hgt
          have he : i = 5 := Nat.le_antisymm (Nat.le_of_lt_succ hi) hge
          subst he
          have p4 := hpre 4 (by kernel_rfl)
          obtain ⟨G, eG, _, hGl, hGB⟩ : ∃ G, s4 = .pointer (some ⟨G, 0, none⟩) ∧ (∀ k, none = some k → G = k) ∧ WL4.heap.size ≤ G ∧ Wr.heap[G]? = some (.cells (if listed.getD 5 false = true then #[.int .i64 1, .string (numS Wk), .string (denS Wk), .string { data := #[] }, .bool false, .int .i64 0, .int .i64 0, .int .i64 0, .slice none 0 0] else #[.int .i64 0, .string { data := #[] }, .string { data := #[] }, .string { data := #[] }, .bool false, .int .i64 0, .int .i64 0, .int .i64 0, .slice none 0 0]) 30 (0, 0)) := hF.get 4 _ rfl (.inr p4)
          subst eG
          rw [if_neg (bit_off hun)] at hGB
          have HGB := Lib.hid hGB
          clear hGB
          have p3 := hpre 3 (by kernel_rfl)
          have e3 : s3 = .agg #[.int .i64 1, .string (numS Wk), .string (denS Wk), .string { data := #[] }, .bool false, .int .i64 0, .int .i64 0, .int .i64 0, .slice none 0 0] := hF.get 3 _ rfl (.inr p3)
          subst e3
          obtain ⟨⟨y0, y1, y2, y3, y4, y5, y6, y7, y8⟩, g0, g1, g2, g3, g4, g5, g6, g7, g8⟩ := nine_at HGB.out
          refine step_of ⟨none, _, _, _, _, _⟩ rfl (fun K' hK => ?_)
          go_simp
          refine hK.out _ _ ⟨undef, hF.put hok hna hpre hun rfl undef rfl (.inr p4) rfl (set9_at HGB.out (.int .i64 1) (.string (numS Wk)) (.string (denS Wk)) (.string { data := #[] }) (.bool false) (.int .i64 0) (.int .i64 0) (.int .i64 0) (.slice none 0 0)) (fun k hk => set9_other _ _ (.int .i64 1) (.string (numS Wk)) (.string (denS Wk)) (.string { data := #[] }) (.bool false) (.int .i64 0) (.int .i64 0) (.int .i64 0) (.slice none 0 0) hk) (put9_below hGl _ (.int .i64 1) (.string (numS Wk)) (.string (denS Wk)) (.string { data := #[] }) (.bool false) (.int .i64 0) (.int .i64 0) (.int .i64 0) (.slice none 0 0)), ?fr⟩
          case fr => simp only [putO, layT_some, layT_none, layT_nil, List.setIfInBounds_toArray, List.set_cons_zero, List.set_cons_succ]
  case hd =>
    rintro listed vs WB hF hall
    obtain ⟨s0, s1, s2, s3, s4, s5, hvs⟩ := exl_of 6 vs (fun l => vs = l) hF.len rfl
    subst hvs
    obtain ⟨b10, e4, _, _, k4⟩ : ∃ G, s4 = .pointer (some ⟨G, 0, none⟩) ∧ (∀ k, none = some k → G = k) ∧ _ ≤ G ∧ WB.heap[G]? = some (.cells (if listed.getD 5 false = true then #[.int .i64 1, .string (numS Wk), .string (denS Wk), .string { data := #[] }, .bool false, .int .i64 0, .int .i64 0, .int .i64 0, .slice none 0 0] else #[.int .i64 0, .string { data := #[] }, .string { data := #[] }, .string { data := #[] }, .bool false, .int .i64 0, .int .i64 0, .int .i64 0, .slice none 0 0]) 30 (0, 0)) := hF.get 4 _ rfl (.inr (hall 4 (by decide)))
    subst e4
    rw [if_pos (hall 5 (by decide))] at k4
    have H10 := Lib.hid k4
    clear k4
    have hq := below_none hF.low
    replace HE := Lib.hid (HE.out.below hq)
    replace HL := Lib.hid (HL.out.trans (hq.mono HL.out.size))
    replace H5 := Lib.hid (keep_block H5.out hq)
    replace H6 := Lib.hid (keep_block H6.out hq)
    replace H8 := Lib.hid (keep_block H8.out hq)
    replace H9 := Lib.hid (keep_block H9.out hq)
    clear hq
    clear hF hall hok hna hla
    simp only [putO, layT_some, layT_none, layT_nil, List.setIfInBounds_toArray, List.set_cons_zero, List.set_cons_succ]
    go_wp2_with fail
    have hok : okB 55 (BklowKs7 m t u c D T B tw Wk Y Mo Da H Mi Se ze X Vk) = true := by kernel_rfl
    have hna := noAny_of (ks := (BklowKs7 m t u c D T B tw Wk Y Mo Da H Mi Se ze X Vk)) (by kernel_rfl)
    have hla := lasts_of hna
    refine wp_region_facts (row := none) (w := WB) 55 (BklowKs7 m t u c D T B tw Wk Y Mo Da H Mi Se ze X Vk) [some 32, some 33, some 34, some 35, some 36, some 37, some 38, some 39, some 40, some 41, some 42, some 43, some 44, some 45, some 46, some 47, some 48, some 49, some 50, some 51, some 52, some 53, some 54, some 55, some 56, some 57, some 58, some 59, some 60, some 61, some 62, some 63, some 64, some 65, some 66, some 67, some 68, some 69, some 70, some 71, some 72, some 73, some 74, some 75, some 76, some 77, some 78, some 79, some 80, some 81, some 82, some 83, some 84, some 85, some 4] (by kernel_rfl) (by kernel_rfl) rfl [undef, undef, undef, undef, undef, undef, undef, undef, undef, undef, undef, undef, undef, undef, undef, undef, undef, undef, undef, undef, undef, undef, undef, undef, undef, undef, undef, undef, undef, undef, undef, undef, undef, undef, undef, undef, undef, undef, undef, undef, undef, undef, undef, undef, undef, undef, undef, undef, undef, undef, undef, undef, undef, undef, (.bool false)] ?h00 (Fs.start rfl rfl) ?hs ?hd
    case h00 => simp only [putO, layT_some, layT_none, layT_nil, List.setIfInBounds_toArray, List.set_cons_zero, List.set_cons_succ]
    case hs =>
      rintro listed vs Wr hF i hi hun hpre
      obtain ⟨s0, s1, s2, s3, s4, s5, s6, s7, s8, s9, s10, s11, s12, s13, s14, s15, s16, s17, s18, s19, s20, s21, s22, s23, s24, s25, s26, s27, s28, s29, s30, s31, s32, s33, s34, s35, s36, s37, s38, s39, s40, s41, s42, s43, s44, s45, s46, s47, s48, s49, s50, s51, s52, s53, s54, hvs⟩ := exl_of 55 vs (fun l => vs = l) hF.len rfl
      subst hvs
      have hge := Nat.zero_le i
      simp only [putO, layT_some, layT_none, layT_nil, List.setIfInBounds_toArray, List.set_cons_zero, List.set_cons_succ]
      rcases Nat.lt_or_ge i 27 with hlt | hgt
      · replace hi := hlt
        clear hlt
        rcases Nat.lt_or_ge i 13 with hlt | hgt
        · replace hi := hlt
          clear hlt
          rcases Nat.lt_or_ge i 6 with hlt | hgt
          · replace hi := hlt
            clear hlt
            rcases Nat.lt_or_ge i 3 with hlt | hgt
            · replace hi := hlt
              clear hlt
              rcases Nat.lt_or_ge i 1 with hlt | hgt
              · replace hi := hlt
                clear hlt
                have he : i = 0 := Nat.le_antisymm (Nat.le_of_lt_succ hi) hge
                subst he
                have hcc := (nine_at (keep_block H5.out (below_none hF.low))).1
                have cH50 := hcc.1
                have cH51 := hcc.2.1
                have cH52 := hcc.2.2.1
                have cH53 := hcc.2.2.2.1
                have cH54 := hcc.2.2.2.2.1
                have cH55 := hcc.2.2.2.2.2.1
                have cH56 := hcc.2.2.2.2.2.2.1
                have cH57 := hcc.2.2.2.2.2.2.2.1
                have cH58 := hcc.2.2.2.2.2.2.2.2
                clear hcc
                refine step_of ⟨some 32, _, _, _, _, _⟩ rfl (fun K' hK => ?_)
                go_simp
                refine hK.out _ _ ⟨_, hF.pure hok hla hpre rfl (Below.refl _ _), ?fr⟩
                case fr => simp only [putO, layT_some, layT_none, layT_nil, List.setIfInBounds_toArray, List.set_cons_zero, List.set_cons_succ]
              · replace hge : 1 ≤ i := hgt
                clear hgt
                rcases Nat.lt_or_ge i 2 with hlt | hgt
                · replace hi := hlt
                  clear hlt
                  have he : i = 1 := Nat.le_antisymm (Nat.le_of_lt_succ hi) hge
                  subst he
                  have p0 := hpre 0 (by kernel_rfl)
                  have e0 : s0 = .agg #[.int .i64 1, .string (numS D), .string (denS D), .string { data := #[] }, .bool false, .int .i64 0, .int .i64 0, .int .i64 0, .slice none 0 0] := hF.get 0 _ rfl (.inr p0)
                  subst e0
                  refine step_of ⟨some 33, _, _, _, _, _⟩ rfl (fun K' hK => ?_)
                  go_simp
                  refine hK.out _ _ ⟨_, hF.row hok hla hpre rfl, ?fr⟩
                  case fr => simp only [putO, layT_some, layT_none, layT_nil, List.setIfInBounds_toArray, List.set_cons_zero, List.set_cons_succ]
                · replace hge : 2 ≤ i := hgt
                  clear hgt
                  have he : i = 2 := Nat.le_antisymm (Nat.le_of_lt_succ hi) hge
                  subst he
                  have p1 := hpre 1 (by kernel_rfl)
                  obtain ⟨G, eG, _, hGB⟩ : ∃ G, s1 = .slice (some ⟨G, 0, none⟩) 1 1 ∧ _ ≤ G ∧ Wr.heap[G]? = some (.cells #[.int .i64 1, .string (numS D), .string (denS D), .string { data := #[] }, .bool false, .int .i64 0, .int .i64 0, .int .i64 0, .slice none 0 0] 30 (0, 0)) := hF.get 1 _ rfl (.inr p1)
                  subst eG
                  refine step_of ⟨some 34, _, _, _, _, _⟩ rfl (fun K' hK => ?_)
                  go_simp
                  go_at_call 20
                  (with_reducible refine (Qr1.out _ _ hGB (HE.out.below (below_none hF.low))).mono ?_)
                  rintro e Wq ⟨rfl, hq⟩
                  refine hK.out _ _ ⟨_, hF.pure hok hla hpre rfl hq, ?fr⟩
                  case fr => simp only [putO, layT_some, layT_none, layT_nil, List.setIfInBounds_toArray, List.set_cons_zero, List.set_cons_succ]
            · replace hge : 3 ≤ i := hgt
              clear hgt
              rcases Nat.lt_or_ge i 4 with hlt | hgt
              · replace hi := hlt
                clear hlt
                have he : i = 3 := Nat.le_antisymm (Nat.le_of_lt_succ hi) hge
                subst he
                have hcc := (nine_at (keep_block H5.out (below_none hF.low))).1
                have cH50 := hcc.1
                have cH51 := hcc.2.1
                have cH52 := hcc.2.2.1
                have cH53 := hcc.2.2.2.1
                have cH54 := hcc.2.2.2.2.1
                have cH55 := hcc.2.2.2.2.2.1
                have cH56 := hcc.2.2.2.2.2.2.1
                have cH57 := hcc.2.2.2.2.2.2.2.1
                have cH58 := hcc.2.2.2.2.2.2.2.2
                clear hcc
                refine step_of ⟨some 35, _, _, _, _, _⟩ rfl (fun K' hK => ?_)
                go_simp
                refine hK.out _ _ ⟨_, hF.pure hok hla hpre rfl (Below.refl _ _), ?fr⟩
                case fr => simp only [putO, layT_some, layT_none, layT_nil, List.setIfInBounds_toArray, List.set_cons_zero, List.set_cons_succ]
              · replace hge : 4 ≤ i := hgt
                clear hgt
                rcases Nat.lt_or_ge i 5 with hlt | hgt
                · replace hi := hlt
                  clear hlt
                  have he : i = 4 := Nat.le_antisymm (Nat.le_of_lt_succ hi) hge
                  subst he
                  have p3 := hpre 3 (by kernel_rfl)
                  have e3 : s3 = .agg #[.int .i64 1, .string (numS D), .string (denS D), .string { data := #[] }, .bool false, .int .i64 0, .int .i64 0, .int .i64 0, .slice none 0 0] := hF.get 3 _ rfl (.inr p3)
                  subst e3
                  refine step_of ⟨some 36, _, _, _, _, _⟩ rfl (fun K' hK => ?_)
                  go_simp
                  refine hK.out _ _ ⟨_, hF.row hok hla hpre rfl, ?fr⟩
                  case fr => simp only [putO, layT_some, layT_none, layT_nil, List.setIfInBounds_toArray, List.set_cons_zero, List.set_cons_succ]
                · replace hge : 5 ≤ i := hgt
                  clear hgt
                  have he : i = 5 := Nat.le_antisymm (Nat.le_of_lt_succ hi) hge
                  subst he
                  have p4 := hpre 4 (by kernel_rfl)
                  obtain ⟨G, eG, _, hGB⟩ : ∃ G, s4 = .slice (some ⟨G, 0, none⟩) 1 1 ∧ _ ≤ G ∧ Wr.heap[G]? = some (.cells #[.int .i64 1, .string (numS D), .string (denS D), .string { data := #[] }, .bool false, .int .i64 0, .int .i64 0, .int .i64 0, .slice none 0 0] 30 (0, 0)) := hF.get 4 _ rfl (.inr p4)
                  subst eG
                  refine step_of ⟨some 37, _, _, _, _, _⟩ rfl (fun K' hK => ?_)
                  go_simp
                  go_at_call 20
                  (with_reducible refine (Qr2.out _ _ hGB (HE.out.below (below_none hF.low))).mono ?_)
                  rintro e Wq ⟨rfl, hq⟩
                  refine hK.out _ _ ⟨_, hF.pure hok hla hpre rfl hq, ?fr⟩
                  case fr => simp only [putO, layT_some, layT_none, layT_nil, List.setIfInBounds_toArray, List.set_cons_zero, List.set_cons_succ]
          · replace hge : 6 ≤ i := hgt
            clear hgt
            rcases Nat.lt_or_ge i 9 with hlt | hgt
            · replace hi := hlt
              clear hlt
              rcases Nat.lt_or_ge i 7 with hlt | hgt
              · replace hi := hlt
                clear hlt
                have he : i = 6 := Nat.le_antisymm (Nat.le_of_lt_succ hi) hge
                subst he
                have hcc := (nine_at (keep_block H5.out (below_none hF.low))).1
                have cH50 := hcc.1
                have cH51 := hcc.2.1
                have cH52 := hcc.2.2.1
                have cH53 := hcc.2.2.2.1
                have cH54 := hcc.2.2.2.2.1
                have cH55 := hcc.2.2.2.2.2.1
                have cH56 := hcc.2.2.2.2.2.2.1
                have cH57 := hcc.2.2.2.2.2.2.2.1
                have cH58 := hcc.2.2.2.2.2.2.2.2
                clear hcc
                refine step_of ⟨some 38, _, _, _, _, _⟩ rfl (fun K' hK => ?_)
                go_simp
                refine hK.out _ _ ⟨_, hF.pure hok hla hpre rfl (Below.refl _ _), ?fr⟩
                case fr => simp only [putO, layT_some, layT_none, layT_nil, List.setIfInBounds_toArray, List.set_cons_zero, List.set_cons_succ]
              · replace hge : 7 ≤ i := hgt
                clear hgt
                rcases Nat.lt_or_ge i 8 with hlt | hgt
                · replace hi := hlt
                  clear hlt
                  have he : i = 7 := Nat.le_antisymm (Nat.le_of_lt_succ hi) hge
                  subst he
                  have p6 := hpre 6 (by kernel_rfl)
                  have e6 : s6 = .agg #[.int .i64 1, .string (numS D), .string (denS D), .string { data := #[] }, .bool false, .int .i64 0, .int .i64 0, .int .i64 0, .slice none 0 0] := hF.get 6 _ rfl (.inr p6)
                  subst e6
                  refine step_of ⟨some 39, _, _, _, _, _⟩ rfl (fun K' hK => ?_)
                  go_simp
                  refine hK.out _ _ ⟨_, hF.row hok hla hpre rfl, ?fr⟩
                  case fr => simp only [putO, layT_some, layT_none, layT_nil, List.setIfInBounds_toArray, List.set_cons_zero, List.set_cons_succ]
                · replace hge : 8 ≤ i := hgt
                  clear hgt
                  have he : i = 8 := Nat.le_antisymm (Nat.le_of_lt_succ hi) hge
                  subst he
                  have p7 := hpre 7 (by kernel_rfl)
                  obtain ⟨G, eG, _, hGB⟩ : ∃ G, s7 = .slice (some ⟨G, 0, none⟩) 1 1 ∧ _ ≤ G ∧ Wr.heap[G]? = some (.cells #[.int .i64 1, .string (numS D), .string (denS D), .string { data := #[] }, .bool false, .int .i64 0, .int .i64 0, .int .i64 0, .slice none 0 0] 30 (0, 0)) := hF.get 7 _ rfl (.inr p7)
                  subst eG
                  refine step_of ⟨some 40, _, _, _, _, _⟩ rfl (fun K' hK => ?_)
                  go_simp
                  go_at_call 20
                  (with_reducible refine (Qr3.out _ _ hGB (HE.out.below (below_none hF.low))).mono ?_)
                  rintro e Wq ⟨rfl, hq⟩
                  refine hK.out _ _ ⟨_, hF.pure hok hla hpre rfl hq, ?fr⟩
                  case fr => simp only [putO, layT_some, layT_none, layT_nil, List.setIfInBounds_toArray, List.set_cons_zero, List.set_cons_succ]
            · replace hge : 9 ≤ i := hgt
              clear hgt
              rcases Nat.lt_or_ge i 11 with hlt | hgt
              · replace hi := hlt
                clear hlt
                rcases Nat.lt_or_ge i 10 with hlt | hgt
                · replace hi := hlt
                  clear hlt
                  have he : i = 9 := Nat.le_antisymm (Nat.le_of_lt_succ hi) hge
                  subst he
                  have p2 := hpre 2 (by kernel_rfl)
                  have e2 : s2 = .agg #[.int .i64 1, .string (numS Y), .string (denS Y), .string { data := #[] }, .bool false, .int .i64 0, .int .i64 0, .int .i64 0, .slice none 0 0] := hF.get 2 _ rfl (.inr p2)
                  subst e2
                  have p5 := hpre 5 (by kernel_rfl)
                  have e5 : s5 = .agg #[.int .i64 1, .string (numS Mo), .string (denS Mo), .string { data := #[] }, .bool false, .int .i64 0, .int .i64 0, .int .i64 0, .slice none 0 0] := hF.get 5 _ rfl (.inr p5)
                  subst e5
                  have p8 := hpre 8 (by kernel_rfl)
                  have e8 : s8 = .agg #[.int .i64 1, .string (numS Da), .string (denS Da), .string { data := #[] }, .bool false, .int .i64 0, .int .i64 0, .int .i64 0, .slice none 0 0] := hF.get 8 _ rfl (.inr p8)
                  subst e8
                  refine step_of ⟨some 41, _, _, _, _, _⟩ rfl (fun K' hK => ?_)
                  go_simp
                  refine hK.out _ _ ⟨_, hF.row hok hla hpre rfl, ?fr⟩
                  case fr => simp only [putO, layT_some, layT_none, layT_nil, List.setIfInBounds_toArray, List.set_cons_zero, List.set_cons_succ]
                · replace hge : 10 ≤ i := hgt
                  clear hgt
                  have he : i = 10 := Nat.le_antisymm (Nat.le_of_lt_succ hi) hge
                  subst he
                  have p9 := hpre 9 (by kernel_rfl)
                  obtain ⟨G, eG, _, hGB⟩ : ∃ G, s9 = .slice (some ⟨G, 0, none⟩) 3 3 ∧ _ ≤ G ∧ Wr.heap[G]? = some (.cells #[.int .i64 1, .string (numS Y), .string (denS Y), .string { data := #[] }, .bool false, .int .i64 0, .int .i64 0, .int .i64 0, .slice none 0 0, .int .i64 1, .string (numS Mo), .string (denS Mo), .string { data := #[] }, .bool false, .int .i64 0, .int .i64 0, .int .i64 0, .slice none 0 0, .int .i64 1, .string (numS Da), .string (denS Da), .string { data := #[] }, .bool false, .int .i64 0, .int .i64 0, .int .i64 0, .slice none 0 0] 30 (0, 0)) := hF.get 9 _ rfl (.inr p9)
                  subst eG
                  refine step_of ⟨some 42, _, _, _, _, _⟩ rfl (fun K' hK => ?_)
                  go_simp
                  go_at_call 20
                  (with_reducible refine (Qr4.out _ _ hGB (HE.out.below (below_none hF.low))).mono ?_)
                  rintro e Wq ⟨rfl, hq⟩
                  refine hK.out _ _ ⟨_, hF.pure hok hla hpre rfl hq, ?fr⟩
                  case fr => simp only [putO, layT_some, layT_none, layT_nil, List.setIfInBounds_toArray, List.set_cons_zero, List.set_cons_succ]
              · replace hge : 11 ≤ i := hgt
                clear hgt
                rcases Nat.lt_or_ge i 12 with hlt | hgt
                · replace hi := hlt
                  clear hlt
                  have he : i = 11 := Nat.le_antisymm (Nat.le_of_lt_succ hi) hge
                  subst he
                  have hcc := (nine_at (keep_block H5.out (below_none hF.low))).1
                  have cH50 := hcc.1
                  have cH51 := hcc.2.1
                  have cH52 := hcc.2.2.1
                  have cH53 := hcc.2.2.2.1
                  have cH54 := hcc.2.2.2.2.1
                  have cH55 := hcc.2.2.2.2.2.1
                  have cH56 := hcc.2.2.2.2.2.2.1
                  have cH57 := hcc.2.2.2.2.2.2.2.1
                  have cH58 := hcc.2.2.2.2.2.2.2.2
                  clear hcc
                  refine step_of ⟨some 43, _, _, _, _, _⟩ rfl (fun K' hK => ?_)
                  go_simp
                  refine hK.out _ _ ⟨_, hF.pure hok hla hpre rfl (Below.refl _ _), ?fr⟩
                  case fr => simp only [putO, layT_some, layT_none, layT_nil, List.setIfInBounds_toArray, List.set_cons_zero, List.set_cons_succ]
                · replace hge : 12 ≤ i := hgt
                  clear hgt
                  have he : i = 12 := Nat.le_antisymm (Nat.le_of_lt_succ hi) hge
                  subst he
                  have p10 := hpre 10 (by kernel_rfl)
                  have e10 : s10 = .agg #[.int .i64 1, .string (numS D), .string (denS D), .string { data := #[] }, .bool false, .int .i64 0, .int .i64 0, .int .i64 0, .slice none 0 0] := hF.get 10 _ rfl (.inr p10)
                  subst e10
                  have p11 := hpre 11 (by kernel_rfl)
                  have e11 : s11 = .agg #[.int .i64 1, .string (numS D), .string (denS D), .string { data := #[] }, .bool false, .int .i64 0, .int .i64 0, .int .i64 0, .slice none 0 0] := hF.get 11 _ rfl (.inr p11)
                  subst e11
                  refine step_of ⟨some 44, _, _, _, _, _⟩ rfl (fun K' hK => ?_)
                  go_simp
                  go_at_call 14
                  (with_reducible refine (RS.out D _).mono ?_)
                  rintro e Wq ⟨rfl, hq⟩
                  refine hK.out _ _ ⟨_, hF.pure hok hla hpre rfl hq, ?fr⟩
                  case fr => simp only [putO, layT_some, layT_none, layT_nil, List.setIfInBounds_toArray, List.set_cons_zero, List.set_cons_succ]
        · replace hge : 13 ≤ i := hgt
          clear hgt
          rcases Nat.lt_or_ge i 20 with hlt | hgt
          · replace hi := hlt
            clear hlt
            rcases Nat.lt_or_ge i 16 with hlt | hgt
            · replace hi := hlt
              clear hlt
              rcases Nat.lt_or_ge i 14 with hlt | hgt
              · replace hi := hlt
                clear hlt
                have he : i = 13 := Nat.le_antisymm (Nat.le_of_lt_succ hi) hge
                subst he
                have p12 := hpre 12 (by kernel_rfl)
                have e12 : s12 = .bool true := hF.get 12 _ rfl (.inr p12)
                subst e12
                refine step_of ⟨some 45, _, _, _, _, _⟩ rfl (fun K' hK => ?_)
                go_simp
                refine hK.out _ _ ⟨_, hF.pure hok hla hpre rfl (Below.refl _ _), ?fr⟩
                case fr => simp only [putO, layT_some, layT_none, layT_nil, List.setIfInBounds_toArray, List.set_cons_zero, List.set_cons_succ]
              · replace hge : 14 ≤ i := hgt
                clear hgt
                rcases Nat.lt_or_ge i 15 with hlt | hgt
                · replace hi := hlt
                  clear hlt
                  have he : i = 14 := Nat.le_antisymm (Nat.le_of_lt_succ hi) hge
                  subst he
                  have p13 := hpre 13 (by kernel_rfl)
                  have e13 : s13 = .bool true := hF.get 13 _ rfl (.inr p13)
                  subst e13
                  have hcc := (nine_at (keep_block H9.out (below_none hF.low))).1
                  have cH90 := hcc.1
                  have cH91 := hcc.2.1
                  have cH92 := hcc.2.2.1
                  have cH93 := hcc.2.2.2.1
                  have cH94 := hcc.2.2.2.2.1
                  have cH95 := hcc.2.2.2.2.2.1
                  have cH96 := hcc.2.2.2.2.2.2.1
                  have cH97 := hcc.2.2.2.2.2.2.2.1
                  have cH98 := hcc.2.2.2.2.2.2.2.2
                  clear hcc
                  refine step_of ⟨some 46, _, _, _, _, _⟩ rfl (fun K' hK => ?_)
                  rw [if_pos (by rfl)]
                  go_simp
                  refine hK.out _ _ ⟨_, hF.pure hok hla hpre rfl (Below.refl _ _), ?fr⟩
                  case fr => simp only [putO, layT_some, layT_none, layT_nil, List.setIfInBounds_toArray, List.set_cons_zero, List.set_cons_succ]
                · replace hge : 15 ≤ i := hgt
                  clear hgt
                  have he : i = 15 := Nat.le_antisymm (Nat.le_of_lt_succ hi) hge
                  subst he
                  have p14 := hpre 14 (by kernel_rfl)
                  have e14 : s14 = .agg #[.int .i64 1, .string (numS B), .string (denS B), .string { data := #[] }, .bool false, .int .i64 0, .int .i64 0, .int .i64 0, .slice none 0 0] := hF.get 14 _ rfl (.inr p14)
                  subst e14
                  have p13 := hpre 13 (by kernel_rfl)
                  have e13 : s13 = .bool true := hF.get 13 _ rfl (.inr p13)
                  subst e13
                  refine step_of ⟨some 47, _, _, _, _, _⟩ rfl (fun K' hK => ?_)
                  rw [if_pos (by rfl)]
                  go_simp
                  refine hK.out _ _ ⟨_, hF.row hok hla hpre rfl, ?fr⟩
                  case fr => simp only [putO, layT_some, layT_none, layT_nil, List.setIfInBounds_toArray, List.set_cons_zero, List.set_cons_succ]
            · replace hge : 16 ≤ i := hgt
              clear hgt
              rcases Nat.lt_or_ge i 18 with hlt | hgt
              · replace hi := hlt
                clear hlt
                rcases Nat.lt_or_ge i 17 with hlt | hgt
                · replace hi := hlt
                  clear hlt
                  have he : i = 16 := Nat.le_antisymm (Nat.le_of_lt_succ hi) hge
                  subst he
                  have p15 := hpre 15 (by kernel_rfl)
                  obtain ⟨G, eG, _, hGB⟩ : ∃ G, s15 = .slice (some ⟨G, 0, none⟩) 1 1 ∧ _ ≤ G ∧ Wr.heap[G]? = some (.cells #[.int .i64 1, .string (numS B), .string (denS B), .string { data := #[] }, .bool false, .int .i64 0, .int .i64 0, .int .i64 0, .slice none 0 0] 30 (0, 0)) := hF.get 15 _ rfl (.inr p15)
                  subst eG
                  have p13 := hpre 13 (by kernel_rfl)
                  have e13 : s13 = .bool true := hF.get 13 _ rfl (.inr p13)
                  subst e13
                  refine step_of ⟨some 48, _, _, _, _, _⟩ rfl (fun K' hK => ?_)
                  rw [if_pos (by rfl)]
                  go_simp
                  go_at_call 20
                  (with_reducible refine (Qr5.out _ _ hGB (HE.out.below (below_none hF.low))).mono ?_)
                  rintro e Wq ⟨rfl, hq⟩
                  refine hK.out _ _ ⟨_, hF.pure hok hla hpre rfl hq, ?fr⟩
                  case fr => simp only [putO, layT_some, layT_none, layT_nil, List.setIfInBounds_toArray, List.set_cons_zero, List.set_cons_succ]
                · replace hge : 17 ≤ i := hgt
                  clear hgt
                  have he : i = 17 := Nat.le_antisymm (Nat.le_of_lt_succ hi) hge
                  subst he
                  have p13 := hpre 13 (by kernel_rfl)
                  have e13 : s13 = .bool true := hF.get 13 _ rfl (.inr p13)
                  subst e13
                  have hcc := (nine_at (keep_block H9.out (below_none hF.low))).1
                  have cH90 := hcc.1
                  have cH91 := hcc.2.1
                  have cH92 := hcc.2.2.1
                  have cH93 := hcc.2.2.2.1
                  have cH94 := hcc.2.2.2.2.1
                  have cH95 := hcc.2.2.2.2.2.1
                  have cH96 := hcc.2.2.2.2.2.2.1
                  have cH97 := hcc.2.2.2.2.2.2.2.1
                  have cH98 := hcc.2.2.2.2.2.2.2.2
                  clear hcc
                  refine step_of ⟨some 49, _, _, _, _, _⟩ rfl (fun K' hK => ?_)
                  rw [if_pos (by rfl)]
                  go_simp
                  refine hK.out _ _ ⟨_, hF.pure hok hla hpre rfl (Below.refl _ _), ?fr⟩
                  case fr => simp only [putO, layT_some, layT_none, layT_nil, List.setIfInBounds_toArray, List.set_cons_zero, List.set_cons_succ]
              · replace hge : 18 ≤ i := hgt
                clear hgt
                rcases Nat.lt_or_ge i 19 with hlt | hgt
                · replace hi := hlt
                  clear hlt
                  have he : i = 18 := Nat.le_antisymm (Nat.le_of_lt_succ hi) hge
                  subst he
                  have p17 := hpre 17 (by kernel_rfl)
                  have e17 : s17 = .agg #[.int .i64 1, .string (numS B), .string (denS B), .string { data := #[] }, .bool false, .int .i64 0, .int .i64 0, .int .i64 0, .slice none 0 0] := hF.get 17 _ rfl (.inr p17)
                  subst e17
                  have p13 := hpre 13 (by kernel_rfl)
                  have e13 : s13 = .bool true := hF.get 13 _ rfl (.inr p13)
                  subst e13
                  refine step_of ⟨some 50, _, _, _, _, _⟩ rfl (fun K' hK => ?_)
                  rw [if_pos (by rfl)]
                  go_simp
                  refine hK.out _ _ ⟨_, hF.row hok hla hpre rfl, ?fr⟩
                  case fr => simp only [putO, layT_some, layT_none, layT_nil, List.setIfInBounds_toArray, List.set_cons_zero, List.set_cons_succ]
                · replace hge : 19 ≤ i := hgt
                  clear hgt
                  have he : i = 19 := Nat.le_antisymm (Nat.le_of_lt_succ hi) hge
                  subst he
                  have p18 := hpre 18 (by kernel_rfl)
                  obtain ⟨G, eG, _, hGB⟩ : ∃ G, s18 = .slice (some ⟨G, 0, none⟩) 1 1 ∧ _ ≤ G ∧ Wr.heap[G]? = some (.cells #[.int .i64 1, .string (numS B), .string (denS B), .string { data := #[] }, .bool false, .int .i64 0, .int .i64 0, .int .i64 0, .slice none 0 0] 30 (0, 0)) := hF.get 18 _ rfl (.inr p18)
                  subst eG
                  have p13 := hpre 13 (by kernel_rfl)
                  have e13 : s13 = .bool true := hF.get 13 _ rfl (.inr p13)
                  subst e13
                  refine step_of ⟨some 51, _, _, _, _, _⟩ rfl (fun K' hK => ?_)
                  rw [if_pos (by rfl)]
                  go_simp
                  go_at_call 20
                  (with_reducible refine (Qr6.out _ _ hGB (HE.out.below (below_none hF.low))).mono ?_)
                  rintro e Wq ⟨rfl, hq⟩
                  refine hK.out _ _ ⟨_, hF.pure hok hla hpre rfl hq, ?fr⟩
                  case fr => simp only [putO, layT_some, layT_none, layT_nil, List.setIfInBounds_toArray, List.set_cons_zero, List.set_cons_succ]
          · replace hge : 20 ≤ i := hgt
            clear hgt
            rcases Nat.lt_or_ge i 23 with hlt | hgt
            · replace hi := hlt
              clear hlt
              rcases Nat.lt_or_ge i 21 with hlt | hgt
              · replace hi := hlt
                clear hlt
                have he : i = 20 := Nat.le_antisymm (Nat.le_of_lt_succ hi) hge
                subst he
                have p13 := hpre 13 (by kernel_rfl)
                have e13 : s13 = .bool true := hF.get 13 _ rfl (.inr p13)
                subst e13
                have hcc := (nine_at (keep_block H9.out (below_none hF.low))).1
                have cH90 := hcc.1
                have cH91 := hcc.2.1
                have cH92 := hcc.2.2.1
                have cH93 := hcc.2.2.2.1
                have cH94 := hcc.2.2.2.2.1
                have cH95 := hcc.2.2.2.2.2.1
                have cH96 := hcc.2.2.2.2.2.2.1
                have cH97 := hcc.2.2.2.2.2.2.2.1
                have cH98 := hcc.2.2.2.2.2.2.2.2
                clear hcc
                refine step_of ⟨some 52, _, _, _, _, _⟩ rfl (fun K' hK => ?_)
                rw [if_pos (by rfl)]
                go_simp
                refine hK.out _ _ ⟨_, hF.pure hok hla hpre rfl (Below.refl _ _), ?fr⟩
                case fr => simp only [putO, layT_some, layT_none, layT_nil, List.setIfInBounds_toArray, List.set_cons_zero, List.set_cons_succ]
              · replace hge : 21 ≤ i := hgt
                clear hgt
                rcases Nat.lt_or_ge i 22 with hlt | hgt
                · replace hi := hlt
                  clear hlt
                  have he : i = 21 := Nat.le_antisymm (Nat.le_of_lt_succ hi) hge
                  subst he
                  have p20 := hpre 20 (by kernel_rfl)
                  have e20 : s20 = .agg #[.int .i64 1, .string (numS B), .string (denS B), .string { data := #[] }, .bool false, .int .i64 0, .int .i64 0, .int .i64 0, .slice none 0 0] := hF.get 20 _ rfl (.inr p20)
                  subst e20
                  have p13 := hpre 13 (by kernel_rfl)
                  have e13 : s13 = .bool true := hF.get 13 _ rfl (.inr p13)
                  subst e13
                  refine step_of ⟨some 53, _, _, _, _, _⟩ rfl (fun K' hK => ?_)
                  rw [if_pos (by rfl)]
                  go_simp
                  refine hK.out _ _ ⟨_, hF.row hok hla hpre rfl, ?fr⟩
                  case fr => simp only [putO, layT_some, layT_none, layT_nil, List.setIfInBounds_toArray, List.set_cons_zero, List.set_cons_succ]
                · replace hge : 22 ≤ i := hgt
                  clear hgt
                  have he : i = 22 := Nat.le_antisymm (Nat.le_of_lt_succ hi) hge
                  subst he
                  have p21 := hpre 21 (by kernel_rfl)
                  obtain ⟨G, eG, _, hGB⟩ : ∃ G, s21 = .slice (some ⟨G, 0, none⟩) 1 1 ∧ _ ≤ G ∧ Wr.heap[G]? = some (.cells #[.int .i64 1, .string (numS B), .string (denS B), .string { data := #[] }, .bool false, .int .i64 0, .int .i64 0, .int .i64 0, .slice none 0 0] 30 (0, 0)) := hF.get 21 _ rfl (.inr p21)
                  subst eG
                  have p13 := hpre 13 (by kernel_rfl)
                  have e13 : s13 = .bool true := hF.get 13 _ rfl (.inr p13)
                  subst e13
                  refine step_of ⟨some 54, _, _, _, _, _⟩ rfl (fun K' hK => ?_)
                  rw [if_pos (by rfl)]
                  go_simp
                  go_at_call 20
                  (with_reducible refine (Qr7.out _ _ hGB (HE.out.below (below_none hF.low))).mono ?_)
                  rintro e Wq ⟨rfl, hq⟩
                  refine hK.out _ _ ⟨_, hF.pure hok hla hpre rfl hq, ?fr⟩
                  case fr => simp only [putO, layT_some, layT_none, layT_nil, List.setIfInBounds_toArray, List.set_cons_zero, List.set_cons_succ]
            · replace hge : 23 ≤ i := hgt
              clear hgt
              rcases Nat.lt_or_ge i 25 with hlt | hgt
              · replace hi := hlt
                clear hlt
                rcases Nat.lt_or_ge i 24 with hlt | hgt
                · replace hi := hlt
                  clear hlt
                  have he : i = 23 := Nat.le_antisymm (Nat.le_of_lt_succ hi) hge
                  subst he
                  have p16 := hpre 16 (by kernel_rfl)
                  have e16 : s16 = .agg #[.int .i64 1, .string (numS H), .string (denS H), .string { data := #[] }, .bool false, .int .i64 0, .int .i64 0, .int .i64 0, .slice none 0 0] := hF.get 16 _ rfl (.inr p16)
                  subst e16
                  have p19 := hpre 19 (by kernel_rfl)
                  have e19 : s19 = .agg #[.int .i64 1, .string (numS Mi), .string (denS Mi), .string { data := #[] }, .bool false, .int .i64 0, .int .i64 0, .int .i64 0, .slice none 0 0] := hF.get 19 _ rfl (.inr p19)
                  subst e19
                  have p22 := hpre 22 (by kernel_rfl)
                  have e22 : s22 = .agg #[.int .i64 1, .string (numS Se), .string (denS Se), .string { data := #[] }, .bool false, .int .i64 0, .int .i64 0, .int .i64 0, .slice none 0 0] := hF.get 22 _ rfl (.inr p22)
                  subst e22
                  have p13 := hpre 13 (by kernel_rfl)
                  have e13 : s13 = .bool true := hF.get 13 _ rfl (.inr p13)
                  subst e13
                  refine step_of ⟨some 55, _, _, _, _, _⟩ rfl (fun K' hK => ?_)
                  rw [if_pos (by rfl)]
                  go_simp
                  refine hK.out _ _ ⟨_, hF.row hok hla hpre rfl, ?fr⟩
                  case fr => simp only [putO, layT_some, layT_none, layT_nil, List.setIfInBounds_toArray, List.set_cons_zero, List.set_cons_succ]
                · replace hge : 24 ≤ i := hgt
                  clear hgt
                  have he : i = 24 := Nat.le_antisymm (Nat.le_of_lt_succ hi) hge
                  subst he
                  have p23 := hpre 23 (by kernel_rfl)
                  obtain ⟨G, eG, _, hGB⟩ : ∃ G, s23 = .slice (some ⟨G, 0, none⟩) 3 3 ∧ _ ≤ G ∧ Wr.heap[G]? = some (.cells #[.int .i64 1, .string (numS H), .string (denS H), .string { data := #[] }, .bool false, .int .i64 0, .int .i64 0, .int .i64 0, .slice none 0 0, .int .i64 1, .string (numS Mi), .string (denS Mi), .string { data := #[] }, .bool false, .int .i64 0, .int .i64 0, .int .i64 0, .slice none 0 0, .int .i64 1, .string (numS Se), .string (denS Se), .string { data := #[] }, .bool false, .int .i64 0, .int .i64 0, .int .i64 0, .slice none 0 0] 30 (0, 0)) := hF.get 23 _ rfl (.inr p23)
                  subst eG
                  have p13 := hpre 13 (by kernel_rfl)
                  have e13 : s13 = .bool true := hF.get 13 _ rfl (.inr p13)
                  subst e13
                  refine step_of ⟨some 56, _, _, _, _, _⟩ rfl (fun K' hK => ?_)
                  rw [if_pos (by rfl)]
                  go_simp
                  go_at_call 20
                  (with_reducible refine (Qr8.out _ _ hGB (HE.out.below (below_none hF.low))).mono ?_)
                  rintro e Wq ⟨rfl, hq⟩
                  refine hK.out _ _ ⟨_, hF.pure hok hla hpre rfl hq, ?fr⟩
                  case fr => simp only [putO, layT_some, layT_none, layT_nil, List.setIfInBounds_toArray, List.set_cons_zero, List.set_cons_succ]
              · replace hge : 25 ≤ i := hgt
                clear hgt
                rcases Nat.lt_or_ge i 26 with hlt | hgt
                · replace hi := hlt
                  clear hlt
                  have he : i = 25 := Nat.le_antisymm (Nat.le_of_lt_succ hi) hge
                  subst he
                  have p13 := hpre 13 (by kernel_rfl)
                  have e13 : s13 = .bool true := hF.get 13 _ rfl (.inr p13)
                  subst e13
                  have hcc := (nine_at (keep_block H8.out (below_none hF.low))).1
                  have cH80 := hcc.1
                  have cH81 := hcc.2.1
                  have cH82 := hcc.2.2.1
                  have cH83 := hcc.2.2.2.1
                  have cH84 := hcc.2.2.2.2.1
                  have cH85 := hcc.2.2.2.2.2.1
                  have cH86 := hcc.2.2.2.2.2.2.1
                  have cH87 := hcc.2.2.2.2.2.2.2.1
                  have cH88 := hcc.2.2.2.2.2.2.2.2
                  clear hcc
                  refine step_of ⟨some 57, _, _, _, _, _⟩ rfl (fun K' hK => ?_)
                  rw [if_pos (by rfl)]
                  go_simp
                  refine hK.out _ _ ⟨_, hF.pure hok hla hpre rfl (Below.refl _ _), ?fr⟩
                  case fr => simp only [putO, layT_some, layT_none, layT_nil, List.setIfInBounds_toArray, List.set_cons_zero, List.set_cons_succ]
                · replace hge : 26 ≤ i := hgt
                  clear hgt
                  have he : i = 26 := Nat.le_antisymm (Nat.le_of_lt_succ hi) hge
                  subst he
                  have p24 := hpre 24 (by kernel_rfl)
                  have e24 : s24 = .agg #[.int .i64 1, .string (numS T), .string (denS T), .string { data := #[] }, .bool false, .int .i64 0, .int .i64 0, .int .i64 0, .slice none 0 0] := hF.get 24 _ rfl (.inr p24)
                  subst e24
                  have p25 := hpre 25 (by kernel_rfl)
                  have e25 : s25 = .agg #[.int .i64 1, .string (numS T), .string (denS T), .string { data := #[] }, .bool false, .int .i64 0, .int .i64 0, .int .i64 0, .slice none 0 0] := hF.get 25 _ rfl (.inr p25)
                  subst e25
                  have p13 := hpre 13 (by kernel_rfl)
                  have e13 : s13 = .bool true := hF.get 13 _ rfl (.inr p13)
                  subst e13
                  refine step_of ⟨some 58, _, _, _, _, _⟩ rfl (fun K' hK => ?_)
                  rw [if_pos (by rfl)]
                  go_simp
                  go_at_call 14
                  (with_reducible refine (RS.out T _).mono ?_)
                  rintro e Wq ⟨rfl, hq⟩
                  refine hK.out _ _ ⟨_, hF.pure hok hla hpre rfl hq, ?fr⟩
                  case fr => simp only [putO, layT_some, layT_none, layT_nil, List.setIfInBounds_toArray, List.set_cons_zero, List.set_cons_succ]
      · replace hge : 27 ≤ i := hgt
        clear hgt
        rcases Nat.lt_or_ge i 41 with hlt | hgt
        · replace hi := hlt
          clear hlt
          rcases Nat.lt_or_ge i 34 with hlt | hgt
          · replace hi := hlt
            clear hlt
            rcases Nat.lt_or_ge i 30 with hlt | hgt
            · replace hi := hlt
              clear hlt
              rcases Nat.lt_or_ge i 28 with hlt | hgt
              · replace hi := hlt
                clear hlt
                have he : i = 27 := Nat.le_antisymm (Nat.le_of_lt_succ hi) hge
                subst he
                have p13 := hpre 13 (by kernel_rfl)
                have e13 : s13 = .bool true := hF.get 13 _ rfl (.inr p13)
                subst e13
                have p26 := hpre 26 (by kernel_rfl)
                have e26 : s26 = .bool true := hF.get 26 _ rfl (.inr p26)
                subst e26
                refine step_of ⟨some 59, _, _, _, _, _⟩ rfl (fun K' hK => ?_)
                go_simp
                refine hK.out _ _ ⟨_, hF.pure hok hla hpre rfl (Below.refl _ _), ?fr⟩
                case fr => simp only [putO, layT_some, layT_none, layT_nil, List.setIfInBounds_toArray, List.set_cons_zero, List.set_cons_succ]
              · replace hge : 28 ≤ i := hgt
                clear hgt
                rcases Nat.lt_or_ge i 29 with hlt | hgt
                · replace hi := hlt
                  clear hlt
                  have he : i = 28 := Nat.le_antisymm (Nat.le_of_lt_succ hi) hge
                  subst he
                  have p27 := hpre 27 (by kernel_rfl)
                  have e27 : s27 = .bool true := hF.get 27 _ rfl (.inr p27)
                  subst e27
                  refine step_of ⟨some 60, _, _, _, _, _⟩ rfl (fun K' hK => ?_)
                  go_simp
                  refine hK.out _ _ ⟨_, hF.pure hok hla hpre rfl (Below.refl _ _), ?fr⟩
                  case fr => simp only [putO, layT_some, layT_none, layT_nil, List.setIfInBounds_toArray, List.set_cons_zero, List.set_cons_succ]
                · replace hge : 29 ≤ i := hgt
                  clear hgt
                  have he : i = 29 := Nat.le_antisymm (Nat.le_of_lt_succ hi) hge
                  subst he
                  have p28 := hpre 28 (by kernel_rfl)
                  have e28 : s28 = .bool true := hF.get 28 _ rfl (.inr p28)
                  subst e28
                  have hcc := (nine_at (keep_block H9.out (below_none hF.low))).1
                  have cH90 := hcc.1
                  have cH91 := hcc.2.1
                  have cH92 := hcc.2.2.1
                  have cH93 := hcc.2.2.2.1
                  have cH94 := hcc.2.2.2.2.1
                  have cH95 := hcc.2.2.2.2.2.1
                  have cH96 := hcc.2.2.2.2.2.2.1
                  have cH97 := hcc.2.2.2.2.2.2.2.1
                  have cH98 := hcc.2.2.2.2.2.2.2.2
                  clear hcc
                  refine step_of ⟨some 61, _, _, _, _, _⟩ rfl (fun K' hK => ?_)
                  rw [if_pos (by rfl)]
                  go_simp
                  refine hK.out _ _ ⟨_, hF.pure hok hla hpre rfl (Below.refl _ _), ?fr⟩
                  case fr => simp only [putO, layT_some, layT_none, layT_nil, List.setIfInBounds_toArray, List.set_cons_zero, List.set_cons_succ]
            · replace hge : 30 ≤ i := hgt
              clear hgt
              rcases Nat.lt_or_ge i 32 with hlt | hgt
              · replace hi := hlt
                clear hlt
                rcases Nat.lt_or_ge i 31 with hlt | hgt
                · replace hi := hlt
                  clear hlt
                  have he : i = 30 := Nat.le_antisymm (Nat.le_of_lt_succ hi) hge
                  subst he
                  have p28 := hpre 28 (by kernel_rfl)
                  have e28 : s28 = .bool true := hF.get 28 _ rfl (.inr p28)
                  subst e28
                  have hcc := (nine_at (keep_block H5.out (below_none hF.low))).1
                  have cH50 := hcc.1
                  have cH51 := hcc.2.1
                  have cH52 := hcc.2.2.1
                  have cH53 := hcc.2.2.2.1
                  have cH54 := hcc.2.2.2.2.1
                  have cH55 := hcc.2.2.2.2.2.1
                  have cH56 := hcc.2.2.2.2.2.2.1
                  have cH57 := hcc.2.2.2.2.2.2.2.1
                  have cH58 := hcc.2.2.2.2.2.2.2.2
                  clear hcc
                  refine step_of ⟨some 62, _, _, _, _, _⟩ rfl (fun K' hK => ?_)
                  rw [if_pos (by rfl)]
                  go_simp
                  refine hK.out _ _ ⟨_, hF.pure hok hla hpre rfl (Below.refl _ _), ?fr⟩
                  case fr => simp only [putO, layT_some, layT_none, layT_nil, List.setIfInBounds_toArray, List.set_cons_zero, List.set_cons_succ]
                · replace hge : 31 ≤ i := hgt
                  clear hgt
                  have he : i = 31 := Nat.le_antisymm (Nat.le_of_lt_succ hi) hge
                  subst he
                  have p29 := hpre 29 (by kernel_rfl)
                  have e29 : s29 = .agg #[.int .i64 1, .string (numS B), .string (denS B), .string { data := #[] }, .bool false, .int .i64 0, .int .i64 0, .int .i64 0, .slice none 0 0] := hF.get 29 _ rfl (.inr p29)
                  subst e29
                  have p30 := hpre 30 (by kernel_rfl)
                  have e30 : s30 = .agg #[.int .i64 1, .string (numS D), .string (denS D), .string { data := #[] }, .bool false, .int .i64 0, .int .i64 0, .int .i64 0, .slice none 0 0] := hF.get 30 _ rfl (.inr p30)
                  subst e30
                  have p28 := hpre 28 (by kernel_rfl)
                  have e28 : s28 = .bool true := hF.get 28 _ rfl (.inr p28)
                  subst e28
                  refine step_of ⟨some 63, _, _, _, _, _⟩ rfl (fun K' hK => ?_)
                  rw [if_pos (by rfl)]
                  go_simp
                  refine hK.out _ _ ⟨_, hF.row hok hla hpre rfl, ?fr⟩
                  case fr => simp only [putO, layT_some, layT_none, layT_nil, List.setIfInBounds_toArray, List.set_cons_zero, List.set_cons_succ]
              · replace hge : 32 ≤ i := hgt
                clear hgt
                rcases Nat.lt_or_ge i 33 with hlt | hgt
                · replace hi := hlt
                  clear hlt
                  have he : i = 32 := Nat.le_antisymm (Nat.le_of_lt_succ hi) hge
                  subst he
                  have p31 := hpre 31 (by kernel_rfl)
                  obtain ⟨G, eG, _, hGB⟩ : ∃ G, s31 = .slice (some ⟨G, 0, none⟩) 2 2 ∧ _ ≤ G ∧ Wr.heap[G]? = some (.cells #[.int .i64 1, .string (numS B), .string (denS B), .string { data := #[] }, .bool false, .int .i64 0, .int .i64 0, .int .i64 0, .slice none 0 0, .int .i64 1, .string (numS D), .string (denS D), .string { data := #[] }, .bool false, .int .i64 0, .int .i64 0, .int .i64 0, .slice none 0 0] 30 (0, 0)) := hF.get 31 _ rfl (.inr p31)
                  subst eG
                  have p28 := hpre 28 (by kernel_rfl)
                  have e28 : s28 = .bool true := hF.get 28 _ rfl (.inr p28)
                  subst e28
                  refine step_of ⟨some 64, _, _, _, _, _⟩ rfl (fun K' hK => ?_)
                  rw [if_pos (by rfl)]
                  go_simp
                  go_at_call 20
                  (with_reducible refine (Qr9.out _ _ hGB (HE.out.below (below_none hF.low))).mono ?_)
                  rintro e Wq ⟨rfl, hq⟩
                  refine hK.out _ _ ⟨_, hF.pure hok hla hpre rfl hq, ?fr⟩
                  case fr => simp only [putO, layT_some, layT_none, layT_nil, List.setIfInBounds_toArray, List.set_cons_zero, List.set_cons_succ]
                · replace hge : 33 ≤ i := hgt
                  clear hgt
                  have he : i = 33 := Nat.le_antisymm (Nat.le_of_lt_succ hi) hge
                  subst he
                  have p28 := hpre 28 (by kernel_rfl)
                  have e28 : s28 = .bool true := hF.get 28 _ rfl (.inr p28)
                  subst e28
                  refine step_of ⟨some 65, _, _, _, _, _⟩ rfl (fun K' hK => ?_)
                  rw [if_pos (by rfl)]
                  go_simp
                  go_at_call 11
                  (with_reducible refine (Qtze.out _ (HE.out.below (below_none hF.low))).mono ?_)
                  rintro e Wq ⟨rfl, hq⟩
                  refine hK.out _ _ ⟨_, hF.pure hok hla hpre rfl hq, ?fr⟩
                  case fr => simp only [putO, layT_some, layT_none, layT_nil, List.setIfInBounds_toArray, List.set_cons_zero, List.set_cons_succ]
          · replace hge : 34 ≤ i := hgt
            clear hgt
            rcases Nat.lt_or_ge i 37 with hlt | hgt
            · replace hi := hlt
              clear hlt
              rcases Nat.lt_or_ge i 35 with hlt | hgt
              · replace hi := hlt
                clear hlt
                have he : i = 34 := Nat.le_antisymm (Nat.le_of_lt_succ hi) hge
                subst he
                have p32 := hpre 32 (by kernel_rfl)
                have e32 : s32 = .agg #[.int .i64 1, .string (numS ze), .string (denS ze), .string { data := #[] }, .bool false, .int .i64 0, .int .i64 0, .int .i64 0, .slice none 0 0] := hF.get 32 _ rfl (.inr p32)
                subst e32
                have p33 := hpre 33 (by kernel_rfl)
                have e33 : s33 = .agg #[.int .i64 1, .string (numS ze), .string (denS ze), .string { data := #[] }, .bool false, .int .i64 0, .int .i64 0, .int .i64 0, .slice none 0 0] := hF.get 33 _ rfl (.inr p33)
                subst e33
                have p28 := hpre 28 (by kernel_rfl)
                have e28 : s28 = .bool true := hF.get 28 _ rfl (.inr p28)
                subst e28
                refine step_of ⟨some 66, _, _, _, _, _⟩ rfl (fun K' hK => ?_)
                rw [if_pos (by rfl)]
                go_simp
                go_at_call 14
                (with_reducible refine (RS.out ze _).mono ?_)
                rintro e Wq ⟨rfl, hq⟩
                refine hK.out _ _ ⟨_, hF.pure hok hla hpre rfl hq, ?fr⟩
                case fr => simp only [putO, layT_some, layT_none, layT_nil, List.setIfInBounds_toArray, List.set_cons_zero, List.set_cons_succ]
              · replace hge : 35 ≤ i := hgt
                clear hgt
                rcases Nat.lt_or_ge i 36 with hlt | hgt
                · replace hi := hlt
                  clear hlt
                  have he : i = 35 := Nat.le_antisymm (Nat.le_of_lt_succ hi) hge
                  subst he
                  have p28 := hpre 28 (by kernel_rfl)
                  have e28 : s28 = .bool true := hF.get 28 _ rfl (.inr p28)
                  subst e28
                  have p34 := hpre 34 (by kernel_rfl)
                  have e34 : s34 = .bool true := hF.get 34 _ rfl (.inr p34)
                  subst e34
                  refine step_of ⟨some 67, _, _, _, _, _⟩ rfl (fun K' hK => ?_)
                  go_simp
                  refine hK.out _ _ ⟨_, hF.pure hok hla hpre rfl (Below.refl _ _), ?fr⟩
                  case fr => simp only [putO, layT_some, layT_none, layT_nil, List.setIfInBounds_toArray, List.set_cons_zero, List.set_cons_succ]
                · replace hge : 36 ≤ i := hgt
                  clear hgt
                  have he : i = 36 := Nat.le_antisymm (Nat.le_of_lt_succ hi) hge
                  subst he
                  have p35 := hpre 35 (by kernel_rfl)
                  have e35 : s35 = .bool true := hF.get 35 _ rfl (.inr p35)
                  subst e35
                  refine step_of ⟨some 68, _, _, _, _, _⟩ rfl (fun K' hK => ?_)
                  go_simp
                  refine hK.out _ _ ⟨_, hF.pure hok hla hpre rfl (Below.refl _ _), ?fr⟩
                  case fr => simp only [putO, layT_some, layT_none, layT_nil, List.setIfInBounds_toArray, List.set_cons_zero, List.set_cons_succ]
            · replace hge : 37 ≤ i := hgt
              clear hgt
              rcases Nat.lt_or_ge i 39 with hlt | hgt
              · replace hi := hlt
                clear hlt
                rcases Nat.lt_or_ge i 38 with hlt | hgt
                · replace hi := hlt
                  clear hlt
                  have he : i = 37 := Nat.le_antisymm (Nat.le_of_lt_succ hi) hge
                  subst he
                  have p36 := hpre 36 (by kernel_rfl)
                  have e36 : s36 = .bool true := hF.get 36 _ rfl (.inr p36)
                  subst e36
                  refine step_of ⟨some 69, _, _, _, _, _⟩ rfl (fun K' hK => ?_)
                  rw [if_pos (by rfl)]
                  go_simp
                  refine hK.out _ _ ⟨_, hF.pure hok hla hpre rfl (Below.refl _ _), ?fr⟩
                  case fr => simp only [putO, layT_some, layT_none, layT_nil, List.setIfInBounds_toArray, List.set_cons_zero, List.set_cons_succ]
                · replace hge : 38 ≤ i := hgt
                  clear hgt
                  have he : i = 38 := Nat.le_antisymm (Nat.le_of_lt_succ hi) hge
                  subst he
                  have p37 := hpre 37 (by kernel_rfl)
                  have e37 : s37 = .int .i64 (1 + m) := hF.get 37 _ rfl (.inr p37)
                  subst e37
                  have p36 := hpre 36 (by kernel_rfl)
                  have e36 : s36 = .bool true := hF.get 36 _ rfl (.inr p36)
                  subst e36
                  refine step_of ⟨some 70, _, _, _, _, _⟩ rfl (fun K' hK => ?_)
                  rw [if_pos (by rfl)]
                  go_simp
                  refine hK.out _ _ ⟨_, hF.pure hok hla hpre rfl (Below.refl _ _), ?fr⟩
                  case fr => simp only [putO, layT_some, layT_none, layT_nil, List.setIfInBounds_toArray, List.set_cons_zero, List.set_cons_succ]
              · replace hge : 39 ≤ i := hgt
                clear hgt
                rcases Nat.lt_or_ge i 40 with hlt | hgt
                · replace hi := hlt
                  clear hlt
                  have he : i = 39 := Nat.le_antisymm (Nat.le_of_lt_succ hi) hge
                  subst he
                  have p38 := hpre 38 (by kernel_rfl)
                  have e38 : s38 = .int .i64 (1 + m - 7) := hF.get 38 _ rfl (.inr p38)
                  subst e38
                  have p36 := hpre 36 (by kernel_rfl)
                  have e36 : s36 = .bool true := hF.get 36 _ rfl (.inr p36)
                  subst e36
                  refine step_of ⟨some 71, _, _, _, _, _⟩ rfl (fun K' hK => ?_)
                  rw [if_pos (by rfl)]
                  go_simp
                  refine hK.out _ _ ⟨_, hF.pure hok hla hpre rfl (Below.refl _ _), ?fr⟩
                  case fr => simp only [putO, layT_some, layT_none, layT_nil, List.setIfInBounds_toArray, List.set_cons_zero, List.set_cons_succ]
                · replace hge : 40 ≤ i := hgt
                  clear hgt
                  have he : i = 40 := Nat.le_antisymm (Nat.le_of_lt_succ hi) hge
                  subst he
                  have p39 := hpre 39 (by kernel_rfl)
                  have e39 : s39 = .int .i64 u := hF.get 39 _ rfl (.inr p39)
                  subst e39
                  have p36 := hpre 36 (by kernel_rfl)
                  have e36 : s36 = .bool true := hF.get 36 _ rfl (.inr p36)
                  subst e36
                  refine step_of ⟨some 72, _, _, _, _, _⟩ rfl (fun K' hK => ?_)
                  rw [if_pos (by rfl)]
                  go_simp
                  go_at_call 11
                  (with_reducible refine (QtX.out _ (HE.out.below (below_none hF.low))).mono ?_)
                  rintro e Wq ⟨rfl, hq⟩
                  refine hK.out _ _ ⟨_, hF.pure hok hla hpre rfl hq, ?fr⟩
                  case fr => simp only [putO, layT_some, layT_none, layT_nil, List.setIfInBounds_toArray, List.set_cons_zero, List.set_cons_succ]
        · replace hge : 41 ≤ i := hgt
          clear hgt
          rcases Nat.lt_or_ge i 48 with hlt | hgt
          · replace hi := hlt
            clear hlt
            rcases Nat.lt_or_ge i 44 with hlt | hgt
            · replace hi := hlt
              clear hlt
              rcases Nat.lt_or_ge i 42 with hlt | hgt
              · replace hi := hlt
                clear hlt
                have he : i = 41 := Nat.le_antisymm (Nat.le_of_lt_succ hi) hge
                subst he
                have p36 := hpre 36 (by kernel_rfl)
                have e36 : s36 = .bool true := hF.get 36 _ rfl (.inr p36)
                subst e36
                refine step_of ⟨some 73, _, _, _, _, _⟩ rfl (fun K' hK => ?_)
                rw [if_pos (by rfl)]
                go_simp
                go_at_call 11
                (with_reducible refine (Qttw.out _ (HE.out.below (below_none hF.low))).mono ?_)
                rintro e Wq ⟨rfl, hq⟩
                refine hK.out _ _ ⟨_, hF.pure hok hla hpre rfl hq, ?fr⟩
                case fr => simp only [putO, layT_some, layT_none, layT_nil, List.setIfInBounds_toArray, List.set_cons_zero, List.set_cons_succ]
              · replace hge : 42 ≤ i := hgt
                clear hgt
                rcases Nat.lt_or_ge i 43 with hlt | hgt
                · replace hi := hlt
                  clear hlt
                  have he : i = 42 := Nat.le_antisymm (Nat.le_of_lt_succ hi) hge
                  subst he
                  have p40 := hpre 40 (by kernel_rfl)
                  have e40 : s40 = .agg #[.int .i64 1, .string (numS X), .string (denS X), .string { data := #[] }, .bool false, .int .i64 0, .int .i64 0, .int .i64 0, .slice none 0 0] := hF.get 40 _ rfl (.inr p40)
                  subst e40
                  have p41 := hpre 41 (by kernel_rfl)
                  have e41 : s41 = .agg #[.int .i64 1, .string (numS tw), .string (denS tw), .string { data := #[] }, .bool false, .int .i64 0, .int .i64 0, .int .i64 0, .slice none 0 0] := hF.get 41 _ rfl (.inr p41)
                  subst e41
                  have p36 := hpre 36 (by kernel_rfl)
                  have e36 : s36 = .bool true := hF.get 36 _ rfl (.inr p36)
                  subst e36
                  refine step_of ⟨some 74, _, _, _, _, _⟩ rfl (fun K' hK => ?_)
                  rw [if_pos (by rfl)]
                  go_simp
                  refine hK.out _ _ ⟨_, hF.row hok hla hpre rfl, ?fr⟩
                  case fr => simp only [putO, layT_some, layT_none, layT_nil, List.setIfInBounds_toArray, List.set_cons_zero, List.set_cons_succ]
                · replace hge : 43 ≤ i := hgt
                  clear hgt
                  have he : i = 43 := Nat.le_antisymm (Nat.le_of_lt_succ hi) hge
                  subst he
                  have p42 := hpre 42 (by kernel_rfl)
                  obtain ⟨G, eG, _, hGB⟩ : ∃ G, s42 = .slice (some ⟨G, 0, none⟩) 2 2 ∧ _ ≤ G ∧ Wr.heap[G]? = some (.cells #[.int .i64 1, .string (numS X), .string (denS X), .string { data := #[] }, .bool false, .int .i64 0, .int .i64 0, .int .i64 0, .slice none 0 0, .int .i64 1, .string (numS tw), .string (denS tw), .string { data := #[] }, .bool false, .int .i64 0, .int .i64 0, .int .i64 0, .slice none 0 0] 30 (0, 0)) := hF.get 42 _ rfl (.inr p42)
                  subst eG
                  have p36 := hpre 36 (by kernel_rfl)
                  have e36 : s36 = .bool true := hF.get 36 _ rfl (.inr p36)
                  subst e36
                  refine step_of ⟨some 75, _, _, _, _, _⟩ rfl (fun K' hK => ?_)
                  rw [if_pos (by rfl)]
                  go_simp
                  go_at_call 20
                  (with_reducible refine (Qr10.out _ _ hGB (HE.out.below (below_none hF.low))).mono ?_)
                  rintro e Wq ⟨rfl, hq⟩
                  refine hK.out _ _ ⟨_, hF.pure hok hla hpre rfl hq, ?fr⟩
                  case fr => simp only [putO, layT_some, layT_none, layT_nil, List.setIfInBounds_toArray, List.set_cons_zero, List.set_cons_succ]
            · replace hge : 44 ≤ i := hgt
              clear hgt
              rcases Nat.lt_or_ge i 46 with hlt | hgt
              · replace hi := hlt
                clear hlt
                rcases Nat.lt_or_ge i 45 with hlt | hgt
                · replace hi := hlt
                  clear hlt
                  have he : i = 44 := Nat.le_antisymm (Nat.le_of_lt_succ hi) hge
                  subst he
                  have p36 := hpre 36 (by kernel_rfl)
                  have e36 : s36 = .bool true := hF.get 36 _ rfl (.inr p36)
                  subst e36
                  have hcc := (nine_at (keep_block H10.out (below_none hF.low))).1
                  have cH100 := hcc.1
                  have cH101 := hcc.2.1
                  have cH102 := hcc.2.2.1
                  have cH103 := hcc.2.2.2.1
                  have cH104 := hcc.2.2.2.2.1
                  have cH105 := hcc.2.2.2.2.2.1
                  have cH106 := hcc.2.2.2.2.2.2.1
                  have cH107 := hcc.2.2.2.2.2.2.2.1
                  have cH108 := hcc.2.2.2.2.2.2.2.2
                  clear hcc
                  refine step_of ⟨some 76, _, _, _, _, _⟩ rfl (fun K' hK => ?_)
                  rw [if_pos (by rfl)]
                  go_simp
                  refine hK.out _ _ ⟨_, hF.pure hok hla hpre rfl (Below.refl _ _), ?fr⟩
                  case fr => simp only [putO, layT_some, layT_none, layT_nil, List.setIfInBounds_toArray, List.set_cons_zero, List.set_cons_succ]
                · replace hge : 45 ≤ i := hgt
                  clear hgt
                  have he : i = 45 := Nat.le_antisymm (Nat.le_of_lt_succ hi) hge
                  subst he
                  have p43 := hpre 43 (by kernel_rfl)
                  have e43 : s43 = .agg #[.int .i64 1, .string (numS Vk), .string (denS Vk), .string { data := #[] }, .bool false, .int .i64 0, .int .i64 0, .int .i64 0, .slice none 0 0] := hF.get 43 _ rfl (.inr p43)
                  subst e43
                  have p44 := hpre 44 (by kernel_rfl)
                  have e44 : s44 = .agg #[.int .i64 1, .string (numS Wk), .string (denS Wk), .string { data := #[] }, .bool false, .int .i64 0, .int .i64 0, .int .i64 0, .slice none 0 0] := hF.get 44 _ rfl (.inr p44)
                  subst e44
                  have p36 := hpre 36 (by kernel_rfl)
                  have e36 : s36 = .bool true := hF.get 36 _ rfl (.inr p36)
                  subst e36
                  refine step_of ⟨some 77, _, _, _, _, _⟩ rfl (fun K' hK => ?_)
                  rw [if_pos (by rfl)]
                  go_simp
                  go_at_call 14
                  (with_reducible refine (QtS.out _ (HE.out.below (below_none hF.low))).mono ?_)
                  rintro e Wq ⟨rfl, hq⟩
                  refine hK.out _ _ ⟨_, hF.pure hok hla hpre rfl hq, ?fr⟩
                  case fr => simp only [putO, layT_some, layT_none, layT_nil, List.setIfInBounds_toArray, List.set_cons_zero, List.set_cons_succ]
              · replace hge : 46 ≤ i := hgt
                clear hgt
                rcases Nat.lt_or_ge i 47 with hlt | hgt
                · replace hi := hlt
                  clear hlt
                  have he : i = 46 := Nat.le_antisymm (Nat.le_of_lt_succ hi) hge
                  subst he
                  have p36 := hpre 36 (by kernel_rfl)
                  have e36 : s36 = .bool true := hF.get 36 _ rfl (.inr p36)
                  subst e36
                  refine step_of ⟨some 78, _, _, _, _, _⟩ rfl (fun K' hK => ?_)
                  rw [if_pos (by rfl)]
                  go_simp
                  refine hK.out _ _ ⟨_, hF.pure hok hla hpre rfl (Below.refl _ _), ?fr⟩
                  case fr => simp only [putO, layT_some, layT_none, layT_nil, List.setIfInBounds_toArray, List.set_cons_zero, List.set_cons_succ]
                · replace hge : 47 ≤ i := hgt
                  clear hgt
                  have he : i = 47 := Nat.le_antisymm (Nat.le_of_lt_succ hi) hge
                  subst he
                  have p46 := hpre 46 (by kernel_rfl)
                  have e46 : s46 = .int .i64 (1 + m) := hF.get 46 _ rfl (.inr p46)
                  subst e46
                  have p36 := hpre 36 (by kernel_rfl)
                  have e36 : s36 = .bool true := hF.get 36 _ rfl (.inr p36)
                  subst e36
                  refine step_of ⟨some 79, _, _, _, _, _⟩ rfl (fun K' hK => ?_)
                  rw [if_pos (by rfl)]
                  go_simp
                  refine hK.out _ _ ⟨_, hF.pure hok hla hpre rfl (Below.refl _ _), ?fr⟩
                  case fr => simp only [putO, layT_some, layT_none, layT_nil, List.setIfInBounds_toArray, List.set_cons_zero, List.set_cons_succ]
          · replace hge : 48 ≤ i := hgt
            clear hgt
            rcases Nat.lt_or_ge i 51 with hlt | hgt
            · replace hi := hlt
              clear hlt
              rcases Nat.lt_or_ge i 49 with hlt | hgt
              · replace hi := hlt
                clear hlt
                have he : i = 48 := Nat.le_antisymm (Nat.le_of_lt_succ hi) hge
                subst he
                have p47 := hpre 47 (by kernel_rfl)
                have e47 : s47 = .bool false := hF.get 47 _ rfl (.inr p47)
                subst e47
                have p36 := hpre 36 (by kernel_rfl)
                have e36 : s36 = .bool true := hF.get 36 _ rfl (.inr p36)
                subst e36
                refine step_of ⟨some 80, _, _, _, _, _⟩ rfl (fun K' hK => ?_)
                rw [if_pos (by rfl)]
                go_simp
                refine hK.out _ _ ⟨_, hF.pure hok hla hpre rfl (Below.refl _ _), ?fr⟩
                case fr => simp only [putO, layT_some, layT_none, layT_nil, List.setIfInBounds_toArray, List.set_cons_zero, List.set_cons_succ]
              · replace hge : 49 ≤ i := hgt
                clear hgt
                rcases Nat.lt_or_ge i 50 with hlt | hgt
                · replace hi := hlt
                  clear hlt
                  have he : i = 49 := Nat.le_antisymm (Nat.le_of_lt_succ hi) hge
                  subst he
                  have p48 := hpre 48 (by kernel_rfl)
                  have e48 : s48 = .bool false := hF.get 48 _ rfl (.inr p48)
                  subst e48
                  refine step_of ⟨some 81, _, _, _, _, _⟩ rfl (fun K' hK => ?_)
                  rw [if_pos (by rfl)]
                  go_simp
                  refine hK.out _ _ ⟨_, hF.pure hok hla hpre rfl (Below.refl _ _), ?fr⟩
                  case fr => simp only [putO, layT_some, layT_none, layT_nil, List.setIfInBounds_toArray, List.set_cons_zero, List.set_cons_succ]
                · replace hge : 50 ≤ i := hgt
                  clear hgt
                  have he : i = 50 := Nat.le_antisymm (Nat.le_of_lt_succ hi) hge
                  subst he
                  have p49 := hpre 49 (by kernel_rfl)
                  have e49 : s49 = .int .i64 (1 + m) := hF.get 49 _ rfl (.inr p49)
                  subst e49
                  have p48 := hpre 48 (by kernel_rfl)
                  have e48 : s48 = .bool false := hF.get 48 _ rfl (.inr p48)
                  subst e48
                  refine step_of ⟨some 82, _, _, _, _, _⟩ rfl (fun K' hK => ?_)
                  rw [if_pos (by rfl)]
                  go_simp
                  refine hK.out _ _ ⟨_, hF.pure hok hla hpre rfl (Below.refl _ _), ?fr⟩
                  case fr => simp only [putO, layT_some, layT_none, layT_nil, List.setIfInBounds_toArray, List.set_cons_zero, List.set_cons_succ]
            · replace hge : 51 ≤ i := hgt
              clear hgt
              rcases Nat.lt_or_ge i 53 with hlt | hgt
              · replace hi := hlt
                clear hlt
                rcases Nat.lt_or_ge i 52 with hlt | hgt
                · replace hi := hlt
                  clear hlt
                  have he : i = 51 := Nat.le_antisymm (Nat.le_of_lt_succ hi) hge
                  subst he
                  have p48 := hpre 48 (by kernel_rfl)
                  have e48 : s48 = .bool false := hF.get 48 _ rfl (.inr p48)
                  subst e48
                  have p50 := hpre 50 (by kernel_rfl)
                  have e50 : s50 = .bool c := hF.get 50 _ rfl (.inr p50)
                  subst e50
                  have p36 := hpre 36 (by kernel_rfl)
                  have e36 : s36 = .bool true := hF.get 36 _ rfl (.inr p36)
                  subst e36
                  refine step_of ⟨some 83, _, _, _, _, _⟩ rfl (fun K' hK => ?_)
                  rw [if_pos (by rfl)]
                  go_simp
                  refine hK.out _ _ ⟨_, hF.pure hok hla hpre rfl (Below.refl _ _), ?fr⟩
                  case fr => simp only [putO, layT_some, layT_none, layT_nil, List.setIfInBounds_toArray, List.set_cons_zero, List.set_cons_succ]
                · replace hge : 52 ≤ i := hgt
                  clear hgt
                  have he : i = 52 := Nat.le_antisymm (Nat.le_of_lt_succ hi) hge
                  subst he
                  have p45 := hpre 45 (by kernel_rfl)
                  have e45 : s45 = .bool c := hF.get 45 _ rfl (.inr p45)
                  subst e45
                  have p51 := hpre 51 (by kernel_rfl)
                  have e51 : s51 = .bool c := hF.get 51 _ rfl (.inr p51)
                  subst e51
                  have p36 := hpre 36 (by kernel_rfl)
                  have e36 : s36 = .bool true := hF.get 36 _ rfl (.inr p36)
                  subst e36
                  refine step_of ⟨some 84, _, _, _, _, _⟩ rfl (fun K' hK => ?_)
                  rw [if_pos (by rfl)]
                  go_simp
                  refine hK.out _ _ ⟨_, hF.pure hok hla hpre rfl (Below.refl _ _), ?fr⟩
                  case fr => simp only [putO, layT_some, layT_none, layT_nil, List.setIfInBounds_toArray, List.set_cons_zero, List.set_cons_succ]
              · replace hge : 53 ≤ i := hgt
                clear hgt
                rcases Nat.lt_or_ge i 54 with hlt | hgt
                · replace hi := hlt
                  clear hlt
                  have he : i = 53 := Nat.le_antisymm (Nat.le_of_lt_succ hi) hge
                  subst he
                  have p36 := hpre 36 (by kernel_rfl)
                  have e36 : s36 = .bool true := hF.get 36 _ rfl (.inr p36)
                  subst e36
                  have p52 := hpre 52 (by kernel_rfl)
                  have e52 : s52 = .bool true := hF.get 52 _ rfl (.inr p52)
                  subst e52
                  refine step_of ⟨some 85, _, _, _, _, _⟩ rfl (fun K' hK => ?_)
                  go_simp
                  refine hK.out _ _ ⟨_, hF.pure hok hla hpre rfl (Below.refl _ _), ?fr⟩
                  case fr => simp only [putO, layT_some, layT_none, layT_nil, List.setIfInBounds_toArray, List.set_cons_zero, List.set_cons_succ]
                · replace hge : 54 ≤ i := hgt
                  clear hgt
                  have he : i = 54 := Nat.le_antisymm (Nat.le_of_lt_succ hi) hge
                  subst he
                  have p53 := hpre 53 (by kernel_rfl)
                  have e53 : s53 = .bool true := hF.get 53 _ rfl (.inr p53)
                  subst e53
                  refine step_of ⟨some 4, _, _, _, _, _⟩ rfl (fun K' hK => ?_)
                  go_simp
                  refine hK.out _ _ ⟨_, hF.pure hok hla hpre rfl (Below.refl _ _), ?fr⟩
                  case fr => simp only [putO, layT_some, layT_none, layT_nil, List.setIfInBounds_toArray, List.set_cons_zero, List.set_cons_succ]
    case hd =>
      rintro listed vs WC hF hall
      obtain ⟨s0, s1, s2, s3, s4, s5, s6, s7, s8, s9, s10, s11, s12, s13, s14, s15, s16, s17, s18, s19, s20, s21, s22, s23, s24, s25, s26, s27, s28, s29, s30, s31, s32, s33, s34, s35, s36, s37, s38, s39, s40, s41, s42, s43, s44, s45, s46, s47, s48, s49, s50, s51, s52, s53, s54, hvs⟩ := exl_of 55 vs (fun l => vs = l) hF.len rfl
      subst hvs
      have e53 : s53 = .bool true := hF.get 53 _ rfl (.inr (hall 53 (by decide)))
      subst e53
      have e54 : s54 = .bool true := hF.get 54 _ rfl (.inr (hall 54 (by decide)))
      subst e54
      have hq := below_none hF.low
      replace HE := Lib.hid (HE.out.below hq)
      replace HL := Lib.hid (HL.out.trans (hq.mono HL.out.size))
      replace H5 := Lib.hid (keep_block H5.out hq)
      replace H6 := Lib.hid (keep_block H6.out hq)
      replace H8 := Lib.hid (keep_block H8.out hq)
      replace H9 := Lib.hid (keep_block H9.out hq)
      replace H10 := Lib.hid (keep_block H10.out hq)
      clear hq
      clear hF hall hok hna hla
      simp only [putO, layT_some, layT_none, layT_nil, List.setIfInBounds_toArray, List.set_cons_zero, List.set_cons_succ]
      go_wp2
      go_ret
      exact ⟨rfl, HL.out⟩

end Go.Proofs.YtphfefmlappidaaGreatDoor.Num.Fd
