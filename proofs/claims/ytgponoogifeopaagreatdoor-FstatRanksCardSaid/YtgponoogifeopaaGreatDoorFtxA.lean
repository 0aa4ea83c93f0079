/- Numbers as texts of digits, fractions, values and the functions of fmath: contracts of the program's functions, joined from smaller texts. Conditions stand at each theorem. -/
import Derived.Test.YtgponoogifeopaaGreatDoorFttA
import Derived.Test.YtgponoogifeopaaGreatDoorFtbA
import Derived.Deep.DeepCutAuto

/- The law FstatRanks' own walk. Conditions: what the functions give; the tables lie as they are laid. -/
namespace Go.Proofs.YtgponoogifeopaaGreatDoor.Num.Ft
open Go.RowKit Go.Lib Num
attribute [local irreducible] wpOp
set_option linter.unusedVariables false in
/-- what the operations of region 3 yield -/
def RkKs3 (ln k g cap B5 : Nat) (c : Int) (a kq jq rk lo mx one zr two md cn : Rat) : List RK :=
  [.pure (.agg #[.int .i64 5, .string { data := #[] }, .string { data := #[] }, .string { data := #[] }, .bool false, .int .i64 0, .int .i64 (ln : Int), .int .i64 1, .slice (some ⟨g, 0, none⟩) ln cap]),
   .pure (.int .i64 (k : Int)),
   .pure (.agg #[.int .i64 1, .string (numS kq), .string (denS kq), .string { data := #[] }, .bool false, .int .i64 0, .int .i64 0, .int .i64 0, .slice none 0 0]),
   .row #[.int .i64 5, .string { data := #[] }, .string { data := #[] }, .string { data := #[] }, .bool false, .int .i64 0, .int .i64 (ln : Int), .int .i64 1, .slice (some ⟨g, 0, none⟩) ln cap, .int .i64 1, .string (numS kq), .string (denS kq), .string { data := #[] }, .bool false, .int .i64 0, .int .i64 0, .int .i64 0, .slice none 0 0] 27 2,
   .pure (.agg #[.int .i64 1, .string (numS a), .string (denS a), .string { data := #[] }, .bool false, .int .i64 0, .int .i64 0, .int .i64 0, .slice none 0 0]),
   .pure (.agg #[.int .i64 5, .string { data := #[] }, .string { data := #[] }, .string { data := #[] }, .bool false, .int .i64 0, .int .i64 (ln : Int), .int .i64 1, .slice (some ⟨g, 0, none⟩) ln cap]),
   .pure (.pointer (some ⟨B5, 6, none⟩)),
   .pure (.int .i64 (ln : Int)),
   .pure (.int .i64 ((ln : Int) + 1)),
   .pure (.int .i64 (k : Int)),
   .pure (.int .i64 ((ln : Int) + 1 - (k : Int))),
   .pure (.agg #[.int .i64 1, .string (numS jq), .string (denS jq), .string { data := #[] }, .bool false, .int .i64 0, .int .i64 0, .int .i64 0, .slice none 0 0]),
   .row #[.int .i64 5, .string { data := #[] }, .string { data := #[] }, .string { data := #[] }, .bool false, .int .i64 0, .int .i64 (ln : Int), .int .i64 1, .slice (some ⟨g, 0, none⟩) ln cap, .int .i64 1, .string (numS jq), .string (denS jq), .string { data := #[] }, .bool false, .int .i64 0, .int .i64 0, .int .i64 0, .slice none 0 0] 27 2,
   .pure (.agg #[.int .i64 1, .string (numS a), .string (denS a), .string { data := #[] }, .bool false, .int .i64 0, .int .i64 0, .int .i64 0, .slice none 0 0]),
   .box none #[.int .i64 0, .string { data := #[] }, .string { data := #[] }, .string { data := #[] }, .bool false, .int .i64 0, .int .i64 0, .int .i64 0, .slice none 0 0] #[.int .i64 1, .string (numS a), .string (denS a), .string { data := #[] }, .bool false, .int .i64 0, .int .i64 0, .int .i64 0, .slice none 0 0] 27 16,
   .box none #[.int .i64 0, .string { data := #[] }, .string { data := #[] }, .string { data := #[] }, .bool false, .int .i64 0, .int .i64 0, .int .i64 0, .slice none 0 0] #[.int .i64 1, .string (numS a), .string (denS a), .string { data := #[] }, .bool false, .int .i64 0, .int .i64 0, .int .i64 0, .slice none 0 0] 27 17,
   .put 14,
   .put 15]
set_option linter.unusedVariables false in
/-- what the operations of region 5 yield -/
def RkKs5 (ln k g cap B5 b7 b8 : Nat) (c : Int) (a kq jq rk lo mx one zr two md cn : Rat) (w2 : World) : List RK :=
  [.pure (.agg #[.int .i64 1, .string (numS rk), .string (denS rk), .string { data := #[] }, .bool false, .int .i64 0, .int .i64 0, .int .i64 0, .slice none 0 0]),
   .pure (.int .i64 (k : Int)),
   .pure (.agg #[.int .i64 1, .string (numS kq), .string (denS kq), .string { data := #[] }, .bool false, .int .i64 0, .int .i64 0, .int .i64 0, .slice none 0 0]),
   .pure (.tuple #[.int .i64 c, .int .i64 0]),
   .pure (.tuple #[.int .i64 c, .int .i64 0]),
   .pure (.int .i64 c),
   .pure (.int .i64 0),
   .pure (.int .i64 c),
   .pure (.int .i64 0)]
set_option linter.unusedVariables false in
/-- what the operations of region 6 yield -/
def RkKs6 (ln k g cap B5 b7 b8 : Nat) (c : Int) (a kq jq rk lo mx one zr two md cn : Rat) (w2 : World) : List RK :=
  [.pure (.agg #[.int .i64 5, .string { data := #[] }, .string { data := #[] }, .string { data := #[] }, .bool false, .int .i64 0, .int .i64 (ln : Int), .int .i64 1, .slice (some ⟨g, 0, none⟩) ln cap]),
   .row #[.int .i64 5, .string { data := #[] }, .string { data := #[] }, .string { data := #[] }, .bool false, .int .i64 0, .int .i64 (ln : Int), .int .i64 1, .slice (some ⟨g, 0, none⟩) ln cap] 27 1,
   .pure (.agg #[.int .i64 1, .string (numS lo), .string (denS lo), .string { data := #[] }, .bool false, .int .i64 0, .int .i64 0, .int .i64 0, .slice none 0 0]),
   .pure (.agg #[.int .i64 5, .string { data := #[] }, .string { data := #[] }, .string { data := #[] }, .bool false, .int .i64 0, .int .i64 (ln : Int), .int .i64 1, .slice (some ⟨g, 0, none⟩) ln cap]),
   .row #[.int .i64 5, .string { data := #[] }, .string { data := #[] }, .string { data := #[] }, .bool false, .int .i64 0, .int .i64 (ln : Int), .int .i64 1, .slice (some ⟨g, 0, none⟩) ln cap] 27 1,
   .pure (.agg #[.int .i64 1, .string (numS mx), .string (denS mx), .string { data := #[] }, .bool false, .int .i64 0, .int .i64 0, .int .i64 0, .slice none 0 0]),
   .box none #[.int .i64 0, .string { data := #[] }, .string { data := #[] }, .string { data := #[] }, .bool false, .int .i64 0, .int .i64 0, .int .i64 0, .slice none 0 0] #[.int .i64 1, .string (numS lo), .string (denS lo), .string { data := #[] }, .bool false, .int .i64 0, .int .i64 0, .int .i64 0, .slice none 0 0] 27 8,
   .box none #[.int .i64 0, .string { data := #[] }, .string { data := #[] }, .string { data := #[] }, .bool false, .int .i64 0, .int .i64 0, .int .i64 0, .slice none 0 0] #[.int .i64 1, .string (numS mx), .string (denS mx), .string { data := #[] }, .bool false, .int .i64 0, .int .i64 0, .int .i64 0, .slice none 0 0] 27 9,
   .put 6,
   .put 7]
set_option linter.unusedVariables false in
/-- what the operations of region 11 yield -/
def RkKs11 (ln k g cap g2 cap2 B15 B5 b12 b13 b7 b8 : Nat) (c : Int) (a kq jq rk lo mx one zr two md cn : Rat) (w2 w4 : World) : List RK :=
  [.pure (.agg #[.int .i64 1, .string (numS a), .string (denS a), .string { data := #[] }, .bool false, .int .i64 0, .int .i64 0, .int .i64 0, .slice none 0 0]),
   .pure (.agg #[.int .i64 1, .string (numS a), .string (denS a), .string { data := #[] }, .bool false, .int .i64 0, .int .i64 0, .int .i64 0, .slice none 0 0]),
   .pure (.bool true),
   .pure (.bool true),
   .pure (.int .i64 c),
   .pure (.bool true),
   .pure (.bool true),
   .pure (.bool true),
   .pure (.agg #[.int .i64 5, .string { data := #[] }, .string { data := #[] }, .string { data := #[] }, .bool false, .int .i64 0, .int .i64 (ln : Int), .int .i64 1, .slice (some ⟨g, 0, none⟩) ln cap]),
   .pure (.agg #[.int .i64 1, .string (numS zr), .string (denS zr), .string { data := #[] }, .bool false, .int .i64 0, .int .i64 0, .int .i64 0, .slice none 0 0]),
   .row #[.int .i64 5, .string { data := #[] }, .string { data := #[] }, .string { data := #[] }, .bool false, .int .i64 0, .int .i64 (ln : Int), .int .i64 1, .slice (some ⟨g, 0, none⟩) ln cap, .int .i64 1, .string (numS zr), .string (denS zr), .string { data := #[] }, .bool false, .int .i64 0, .int .i64 0, .int .i64 0, .slice none 0 0] 27 2,
   .pure (.agg #[.int .i64 1, .string (numS lo), .string (denS lo), .string { data := #[] }, .bool false, .int .i64 0, .int .i64 0, .int .i64 0, .slice none 0 0]),
   .pure (.agg #[.int .i64 1, .string (numS lo), .string (denS lo), .string { data := #[] }, .bool false, .int .i64 0, .int .i64 0, .int .i64 0, .slice none 0 0]),
   .pure (.bool true),
   .pure (.bool true),
   .pure (.bool true),
   .pure (.agg #[.int .i64 5, .string { data := #[] }, .string { data := #[] }, .string { data := #[] }, .bool false, .int .i64 0, .int .i64 (ln : Int), .int .i64 1, .slice (some ⟨g, 0, none⟩) ln cap]),
   .pure (.agg #[.int .i64 1, .string (numS one), .string (denS one), .string { data := #[] }, .bool false, .int .i64 0, .int .i64 0, .int .i64 0, .slice none 0 0]),
   .row #[.int .i64 5, .string { data := #[] }, .string { data := #[] }, .string { data := #[] }, .bool false, .int .i64 0, .int .i64 (ln : Int), .int .i64 1, .slice (some ⟨g, 0, none⟩) ln cap, .int .i64 1, .string (numS one), .string (denS one), .string { data := #[] }, .bool false, .int .i64 0, .int .i64 0, .int .i64 0, .slice none 0 0] 27 2,
   .pure (.agg #[.int .i64 1, .string (numS mx), .string (denS mx), .string { data := #[] }, .bool false, .int .i64 0, .int .i64 0, .int .i64 0, .slice none 0 0]),
   .pure (.agg #[.int .i64 1, .string (numS mx), .string (denS mx), .string { data := #[] }, .bool false, .int .i64 0, .int .i64 0, .int .i64 0, .slice none 0 0]),
   .pure (.bool true),
   .pure (.bool true),
   .pure (.bool true),
   .pure (.agg #[.int .i64 5, .string { data := #[] }, .string { data := #[] }, .string { data := #[] }, .bool false, .int .i64 0, .int .i64 (ln : Int), .int .i64 1, .slice (some ⟨g, 0, none⟩) ln cap]),
   .pure (.agg #[.int .i64 1, .string (numS two), .string (denS two), .string { data := #[] }, .bool false, .int .i64 0, .int .i64 0, .int .i64 0, .slice none 0 0]),
   .row #[.int .i64 5, .string { data := #[] }, .string { data := #[] }, .string { data := #[] }, .bool false, .int .i64 0, .int .i64 (ln : Int), .int .i64 1, .slice (some ⟨g, 0, none⟩) ln cap, .int .i64 1, .string (numS two), .string (denS two), .string { data := #[] }, .bool false, .int .i64 0, .int .i64 0, .int .i64 0, .slice none 0 0] 27 2,
   .pure (.agg #[.int .i64 1, .string (numS md), .string (denS md), .string { data := #[] }, .bool false, .int .i64 0, .int .i64 0, .int .i64 0, .slice none 0 0]),
   .pure (.agg #[.int .i64 5, .string { data := #[] }, .string { data := #[] }, .string { data := #[] }, .bool false, .int .i64 0, .int .i64 (ln : Int), .int .i64 1, .slice (some ⟨g, 0, none⟩) ln cap]),
   .row #[.int .i64 5, .string { data := #[] }, .string { data := #[] }, .string { data := #[] }, .bool false, .int .i64 0, .int .i64 (ln : Int), .int .i64 1, .slice (some ⟨g, 0, none⟩) ln cap] 27 1,
   .pure (.agg #[.int .i64 1, .string (numS md), .string (denS md), .string { data := #[] }, .bool false, .int .i64 0, .int .i64 0, .int .i64 0, .slice none 0 0]),
   .pure (.bool true),
   .pure (.bool true),
   .pure (.bool true),
   .pure (.agg #[.int .i64 5, .string { data := #[] }, .string { data := #[] }, .string { data := #[] }, .bool false, .int .i64 0, .int .i64 2, .int .i64 1, .slice (some ⟨g2, 0, none⟩) 2 cap2]),
   .row #[.int .i64 5, .string { data := #[] }, .string { data := #[] }, .string { data := #[] }, .bool false, .int .i64 0, .int .i64 2, .int .i64 1, .slice (some ⟨g2, 0, none⟩) 2 cap2] 27 1,
   .pure (.agg #[.int .i64 1, .string (numS cn), .string (denS cn), .string { data := #[] }, .bool false, .int .i64 0, .int .i64 0, .int .i64 0, .slice none 0 0]),
   .pure (.pointer (some ⟨B5, 6, none⟩)),
   .pure (.int .i64 (ln : Int)),
   .pure (.agg #[.int .i64 1, .string (numS cn), .string (denS cn), .string { data := #[] }, .bool false, .int .i64 0, .int .i64 0, .int .i64 0, .slice none 0 0]),
   .pure (.bool true),
   .pure (.bool true),
   .pure (.bool true),
   .pure (.agg #[.int .i64 5, .string { data := #[] }, .string { data := #[] }, .string { data := #[] }, .bool false, .int .i64 0, .int .i64 (ln : Int), .int .i64 1, .slice (some ⟨g, 0, none⟩) ln cap]),
   .row #[.int .i64 5, .string { data := #[] }, .string { data := #[] }, .string { data := #[] }, .bool false, .int .i64 0, .int .i64 (ln : Int), .int .i64 1, .slice (some ⟨g, 0, none⟩) ln cap] 27 1,
   .pure (.agg #[.int .i64 1, .string (numS cn), .string (denS cn), .string { data := #[] }, .bool false, .int .i64 0, .int .i64 0, .int .i64 0, .slice none 0 0]),
   .pure (.pointer (some ⟨B5, 6, none⟩)),
   .pure (.int .i64 (ln : Int)),
   .pure (.agg #[.int .i64 1, .string (numS cn), .string (denS cn), .string { data := #[] }, .bool false, .int .i64 0, .int .i64 0, .int .i64 0, .slice none 0 0]),
   .pure (.bool true),
   .pure (.bool true),
   .pure (.bool true)]
set_option linter.unusedSimpArgs false in
set_option linter.unusedVariables false in
set_option maxHeartbeats 16000000 in
set_option maxRecDepth 100000 in
theorem ranks_walk (A : Option Addr) (L C ln k : Nat) (z c : Int) (qs its : List Rat) (a kq jq rk lo mx one zr two md cn : Rat) (w : World) (hE : EnvK w)
    (hT : TbC w (.slice A L C) ln qs)
    (hl1 : 1 ≤ ln)
    (hl9 : ln ≤ 30)
    (hk1 : 1 ≤ k)
    (hk9 : k ≤ ln)
    (hc : c ≤ 0)
    (hc9 : -9 ≤ c)
    (tMo : ∀ W, Calls Tryz.prog 5 #[.int .i64 z, .int .i64 (ln : Int)] W fun e w' => e = .returned (.int .i64 ((k : Int) - 1)) ∧ w' = W)
    (tK : Fun1 6 (.int .i64 (k : Int)) (.agg #[.int .i64 1, .string (numS kq), .string (denS kq), .string { data := #[] }, .bool false, .int .i64 0, .int .i64 0, .int .i64 0, .slice none 0 0]))
    (tJ : Fun1 6 (.int .i64 ((ln : Int) + 1 - (k : Int))) (.agg #[.int .i64 1, .string (numS jq), .string (denS jq), .string { data := #[] }, .bool false, .int .i64 0, .int .i64 0, .int .i64 0, .slice none 0 0]))
    (rL : S2 { data := #[76, 65, 82, 71, 69] } ln kq qs (.agg #[.int .i64 1, .string (numS a), .string (denS a), .string { data := #[] }, .bool false, .int .i64 0, .int .i64 0, .int .i64 0, .slice none 0 0]))
    (rS : S2 { data := #[83, 77, 65, 76, 76] } ln jq qs (.agg #[.int .i64 1, .string (numS a), .string (denS a), .string { data := #[] }, .bool false, .int .i64 0, .int .i64 0, .int .i64 0, .slice none 0 0]))
    (rR : S3 { data := #[82, 65, 78, 75] } ln a qs (.agg #[.int .i64 1, .string (numS rk), .string (denS rk), .string { data := #[] }, .bool false, .int .i64 0, .int .i64 0, .int .i64 0, .slice none 0 0]))
    (tC : Fun2 11 (.agg #[.int .i64 1, .string (numS rk), .string (denS rk), .string { data := #[] }, .bool false, .int .i64 0, .int .i64 0, .int .i64 0, .slice none 0 0]) (.agg #[.int .i64 1, .string (numS kq), .string (denS kq), .string { data := #[] }, .bool false, .int .i64 0, .int .i64 0, .int .i64 0, .slice none 0 0]) (.tuple #[.int .i64 c, .int .i64 0]))
    (rMn : S1 { data := #[77, 73, 78] } ln qs (.agg #[.int .i64 1, .string (numS lo), .string (denS lo), .string { data := #[] }, .bool false, .int .i64 0, .int .i64 0, .int .i64 0, .slice none 0 0]))
    (rMx : S1 { data := #[77, 65, 88] } ln qs (.agg #[.int .i64 1, .string (numS mx), .string (denS mx), .string { data := #[] }, .bool false, .int .i64 0, .int .i64 0, .int .i64 0, .slice none 0 0]))
    (tO : Fun1 13 (.int .i64 1) (.agg #[.string (numS one), .string (denS one)]))
    (tN : Fun1 12 (.agg #[.string (numS one), .string (denS one)]) (.agg #[.int .i64 1, .string (numS one), .string (denS one), .string { data := #[] }, .bool false, .int .i64 0, .int .i64 0, .int .i64 0, .slice none 0 0]))
    (rF : FqC ln a qs its)
    (t0 : Fun1 6 (.int .i64 0) (.agg #[.int .i64 1, .string (numS zr), .string (denS zr), .string { data := #[] }, .bool false, .int .i64 0, .int .i64 0, .int .i64 0, .slice none 0 0]))
    (rP0 : S2 { data := #[80, 69, 82, 67, 69, 78, 84, 73, 76, 69] } ln zr qs (.agg #[.int .i64 1, .string (numS lo), .string (denS lo), .string { data := #[] }, .bool false, .int .i64 0, .int .i64 0, .int .i64 0, .slice none 0 0]))
    (rP1 : S2 { data := #[80, 69, 82, 67, 69, 78, 84, 73, 76, 69] } ln one qs (.agg #[.int .i64 1, .string (numS mx), .string (denS mx), .string { data := #[] }, .bool false, .int .i64 0, .int .i64 0, .int .i64 0, .slice none 0 0]))
    (t2 : Fun1 6 (.int .i64 2) (.agg #[.int .i64 1, .string (numS two), .string (denS two), .string { data := #[] }, .bool false, .int .i64 0, .int .i64 0, .int .i64 0, .slice none 0 0]))
    (rQ : S2 { data := #[81, 85, 65, 82, 84, 73, 76, 69] } ln two qs (.agg #[.int .i64 1, .string (numS md), .string (denS md), .string { data := #[] }, .bool false, .int .i64 0, .int .i64 0, .int .i64 0, .slice none 0 0]))
    (rMd : S1 { data := #[77, 69, 68, 73, 65, 78] } ln qs (.agg #[.int .i64 1, .string (numS md), .string (denS md), .string { data := #[] }, .bool false, .int .i64 0, .int .i64 0, .int .i64 0, .slice none 0 0]))
    (pS : M1 { data := #[83, 85, 77] } its (.agg #[.int .i64 1, .string (numS cn), .string (denS cn), .string { data := #[] }, .bool false, .int .i64 0, .int .i64 0, .int .i64 0, .slice none 0 0]))
    (tL : Fun1 6 (.int .i64 (ln : Int)) (.agg #[.int .i64 1, .string (numS cn), .string (denS cn), .string { data := #[] }, .bool false, .int .i64 0, .int .i64 0, .int .i64 0, .slice none 0 0]))
    (rCt : S1 { data := #[67, 79, 85, 78, 84] } ln qs (.agg #[.int .i64 1, .string (numS cn), .string (denS cn), .string { data := #[] }, .bool false, .int .i64 0, .int .i64 0, .int .i64 0, .slice none 0 0])) :
    Calls Tryz.prog 4 #[.slice A L C, .int .i64 z] w fun e w' => e = .returned (.bool true) ∧ Below w.heap.size w w' := by
  have QhT := Lib.hid hT
  have QtMo := Lib.hid tMo
  have QtK := Lib.hid tK
  have QtJ := Lib.hid tJ
  have QrL := Lib.hid rL
  have QrS := Lib.hid rS
  have QrR := Lib.hid rR
  have QtC := Lib.hid tC
  have QrMn := Lib.hid rMn
  have QrMx := Lib.hid rMx
  have QtO := Lib.hid tO
  have QtN := Lib.hid tN
  have QrF := Lib.hid rF
  have Qt0 := Lib.hid t0
  have QrP0 := Lib.hid rP0
  have QrP1 := Lib.hid rP1
  have Qt2 := Lib.hid t2
  have QrQ := Lib.hid rQ
  have QrMd := Lib.hid rMd
  have QpS := Lib.hid pS
  have QtL := Lib.hid tL
  have QrCt := Lib.hid rCt
  unfold TbC at QhT
  unfold FqC at QrF
  unfold Fun1 at QtK QtJ QtO QtN Qt0 Qt2 QtL
  unfold Fun2 at QtC
  have HW := Lib.hid hE
  have hwk : IntKind.i64.wrap (1 + ((k : Int) - 1)) = (k : Int) := by rw [show (1 : Int) + ((k : Int) - 1) = (k : Int) by omega]; exact IntWalk.i64_in _ (by omega)
  have hwl : IntKind.i64.wrap ((ln : Int) + 1) = (ln : Int) + 1 := IntWalk.i64_in _ (by omega)
  have hwj : IntKind.i64.wrap ((ln : Int) + 1 - (k : Int)) = (ln : Int) + 1 - (k : Int) := IntWalk.i64_in _ (by omega)
  have hcd : decide (c ≤ 0) = true := decide_eq_true hc
  have HE := Lib.hid hE
  have HL := Lib.hid (Below.refl w.heap.size w)
  clear hE hT tMo tK tJ rL rS rR tC rMn rMx tO tN rF t0 rP0 rP1 t2 rQ rMd pS tL rCt
  go_enter Tryz.func4, Tryz.ntmps4
  go_wp2_with fail
  refine (QhT.out _ (Below.refl _ _) HE.out).mono ?_
  rintro e w1 ⟨g, cap, rfl, hva, hge, hq⟩
  have hb : Below w1.heap.size w1 (w1.alloc (.cells #[.int .i64 5, .string { data := #[] }, .string { data := #[] }, .string { data := #[] }, .bool false, .int .i64 0, .int .i64 (ln : Int), .int .i64 1, .slice (some ⟨g, 0, none⟩) ln cap] 27)) := (Below.refl _ _).alloc (Nat.le_refl _) _
  have H5 := Lib.hid (heap_alloc_new w1 (.cells #[.int .i64 5, .string { data := #[] }, .string { data := #[] }, .string { data := #[] }, .bool false, .int .i64 0, .int .i64 (ln : Int), .int .i64 1, .slice (some ⟨g, 0, none⟩) ln cap] 27))
  have HE := Lib.hid (HW.out.below (hq.trans (hb.mono hq.size)))
  have HL := Lib.hid (hq.trans (hb.mono hq.size))
  have HV := Lib.hid (hva.below hb)
  obtain ⟨B5, hB⟩ : ∃ B5, w1.heap.size = B5 := ⟨_, rfl⟩
  obtain ⟨W1, hW⟩ : ∃ Z, w1.alloc (.cells #[.int .i64 5, .string { data := #[] }, .string { data := #[] }, .string { data := #[] }, .bool false, .int .i64 0, .int .i64 (ln : Int), .int .i64 1, .slice (some ⟨g, 0, none⟩) ln cap] 27) = Z := ⟨_, rfl⟩
  rw [hW] at H5 HE HL HV
  rw [hB] at H5
  have EW := Lib.hid hW
  have EB := Lib.hid hB
  clear hb hva hge hq hW hB
  go_upto_region 2 with fail
  rw [EW.out, EB.out]
  obtain ⟨⟨lH50, lH51, lH52, lH53, lH54, lH55, lH56, lH57, lH58⟩, _⟩ := nine_at H5.out
  go_wp2_with fail
  refine (QtMo.out _).mono ?_
  rintro e w1 ⟨rfl, hws⟩
  replace hws := hws.symm
  subst hws
  clear lH50 lH51 lH52 lH53 lH54 lH55 lH56 lH57 lH58
  go_wp2_with fail
  have hok : okB 18 (RkKs3 ln k g cap B5 c a kq jq rk lo mx one zr two md cn) = true := by kernel_rfl
  have hna := noAny_of (ks := (RkKs3 ln k g cap B5 c a kq jq rk lo mx one zr two md cn)) (by kernel_rfl)
  have hla := lasts_of hna
  refine wp_region_facts (row := none) (w := W1) 18 (RkKs3 ln k g cap B5 c a kq jq rk lo mx one zr two md cn) [some 23, some 24, some 25, some 26, some 27, some 28, some 29, some 30, some 31, some 32, some 33, some 34, some 35, some 36, some 7, some 8, none, none] (by kernel_rfl) (by kernel_rfl) rfl [undef, undef, undef, undef, undef, undef, undef, undef, undef, undef, undef, undef, undef, undef, undef, undef, undef, undef] ?h00 (Fs.start rfl rfl) ?hs ?hd
  case h00 => simp only [putO, layL]
  case hs =>
    rintro listed vs Wr hF i hi hun hpre
    obtain ⟨s0, s1, s2, s3, s4, s5, s6, s7, s8, s9, s10, s11, s12, s13, s14, s15, s16, s17, hvs⟩ := exl_of 18 vs (fun l => vs = l) hF.len rfl
    subst hvs
    have hge := Nat.zero_le i
    simp only [putO, layL]
    rcases Nat.lt_or_ge i 9 with hlt | hgt
    · replace hi := hlt
      clear hlt
      rcases Nat.lt_or_ge i 4 with hlt | hgt
      · replace hi := hlt
        clear hlt
        rcases Nat.lt_or_ge i 2 with hlt | hgt
        · replace hi := hlt
          clear hlt
          rcases Nat.lt_or_ge i 1 with hlt | hgt
          · replace hi := hlt
            clear hlt
            obtain rfl := eqi hi hge
            have hcc := (nine_at (keep_block H5.out (below_none hF.low))).1
            have cH50 := hcc.1
            have cH51 := hcc.2.1
            have cH52 := hcc.2.2.1
            have cH53 := hcc.2.2.2.1
            have cH54 := hcc.2.2.2.2.1
            have cH55 := hcc.2.2.2.2.2.1
            have cH56 := hcc.2.2.2.2.2.2.1
            have cH57 := hcc.2.2.2.2.2.2.2.1
            have cH58 := hcc.2.2.2.2.2.2.2.2
            clear hcc
            refine step_of ⟨some 23, _, _, _, _, _⟩ rfl (fun K' hK => ?_)
            go_simp
            refine hK.out _ _ ⟨_, hF.pure hok hla hpre rfl (Below.refl _ _), ?fr⟩
            case fr => simp only [putO, layL]
          · replace hge : 1 ≤ i := hgt
            clear hgt
            obtain rfl := eqi hi hge
            refine step_of ⟨some 24, _, _, _, _, _⟩ rfl (fun K' hK => ?_)
            go_simp
            refine hK.out _ _ ⟨_, hF.pure hok hla hpre rfl (Below.refl _ _), ?fr⟩
            case fr => simp only [putO, layL]
        · replace hge : 2 ≤ i := hgt
          clear hgt
          rcases Nat.lt_or_ge i 3 with hlt | hgt
          · replace hi := hlt
            clear hlt
            obtain rfl := eqi hi hge
            have p1 := hpre 1 (by kernel_rfl)
            have e1 : s1 = .int .i64 (k : Int) := hF.get 1 _ rfl (.inr p1)
            subst e1
            refine step_of ⟨some 25, _, _, _, _, _⟩ rfl (fun K' hK => ?_)
            go_simp
            go_at_call 6
            (with_reducible refine (QtK.out _ ((HE.out.below (below_none hF.low))).env).mono ?_)
            rintro e Wq ⟨rfl, hq⟩
            refine hK.out _ _ ⟨_, hF.pure hok hla hpre rfl hq, ?fr⟩
            case fr => simp only [putO, layL]
          · replace hge : 3 ≤ i := hgt
            clear hgt
            obtain rfl := eqi hi hge
            have p0 := hpre 0 (by kernel_rfl)
            have e0 : s0 = .agg #[.int .i64 5, .string { data := #[] }, .string { data := #[] }, .string { data := #[] }, .bool false, .int .i64 0, .int .i64 (ln : Int), .int .i64 1, .slice (some ⟨g, 0, none⟩) ln cap] := hF.get 0 _ rfl (.inr p0)
            subst e0
            have p2 := hpre 2 (by kernel_rfl)
            have e2 : s2 = .agg #[.int .i64 1, .string (numS kq), .string (denS kq), .string { data := #[] }, .bool false, .int .i64 0, .int .i64 0, .int .i64 0, .slice none 0 0] := hF.get 2 _ rfl (.inr p2)
            subst e2
            refine step_of ⟨some 26, _, _, _, _, _⟩ rfl (fun K' hK => ?_)
            go_simp
            refine hK.out _ _ ⟨_, hF.row hok hla hpre rfl, ?fr⟩
            case fr => simp only [putO, layL]
      · replace hge : 4 ≤ i := hgt
        clear hgt
        rcases Nat.lt_or_ge i 6 with hlt | hgt
        · replace hi := hlt
          clear hlt
          rcases Nat.lt_or_ge i 5 with hlt | hgt
          · replace hi := hlt
            clear hlt
            obtain rfl := eqi hi hge
            have p3 := hpre 3 (by kernel_rfl)
            obtain ⟨G, eG, _, hGB⟩ : ∃ G, s3 = .slice (some ⟨G, 0, none⟩) 2 2 ∧ _ ≤ G ∧ Wr.heap[G]? = some (.cells #[.int .i64 5, .string { data := #[] }, .string { data := #[] }, .string { data := #[] }, .bool false, .int .i64 0, .int .i64 (ln : Int), .int .i64 1, .slice (some ⟨g, 0, none⟩) ln cap, .int .i64 1, .string (numS kq), .string (denS kq), .string { data := #[] }, .bool false, .int .i64 0, .int .i64 0, .int .i64 0, .slice none 0 0] 27 (0, 0)) := hF.get 3 _ rfl (.inr p3)
            subst eG
            refine step_of ⟨some 27, _, _, _, _, _⟩ rfl (fun K' hK => ?_)
            go_simp
            go_at_call 10
            (with_reducible refine (S2.on QrL.out _ _ _ _ hGB (HV.out.below (below_none hF.low)) (HE.out.below (below_none hF.low))).mono ?_)
            rintro e Wq ⟨rfl, hq⟩
            refine hK.out _ _ ⟨_, hF.pure hok hla hpre rfl hq, ?fr⟩
            case fr => simp only [putO, layL]
          · replace hge : 5 ≤ i := hgt
            clear hgt
            obtain rfl := eqi hi hge
            have hcc := (nine_at (keep_block H5.out (below_none hF.low))).1
            have cH50 := hcc.1
            have cH51 := hcc.2.1
            have cH52 := hcc.2.2.1
            have cH53 := hcc.2.2.2.1
            have cH54 := hcc.2.2.2.2.1
            have cH55 := hcc.2.2.2.2.2.1
            have cH56 := hcc.2.2.2.2.2.2.1
            have cH57 := hcc.2.2.2.2.2.2.2.1
            have cH58 := hcc.2.2.2.2.2.2.2.2
            clear hcc
            refine step_of ⟨some 28, _, _, _, _, _⟩ rfl (fun K' hK => ?_)
            go_simp
            refine hK.out _ _ ⟨_, hF.pure hok hla hpre rfl (Below.refl _ _), ?fr⟩
            case fr => simp only [putO, layL]
        · replace hge : 6 ≤ i := hgt
          clear hgt
          rcases Nat.lt_or_ge i 7 with hlt | hgt
          · replace hi := hlt
            clear hlt
            obtain rfl := eqi hi hge
            refine step_of ⟨some 29, _, _, _, _, _⟩ rfl (fun K' hK => ?_)
            go_simp
            refine hK.out _ _ ⟨_, hF.pure hok hla hpre rfl (Below.refl _ _), ?fr⟩
            case fr => simp only [putO, layL]
          · replace hge : 7 ≤ i := hgt
            clear hgt
            rcases Nat.lt_or_ge i 8 with hlt | hgt
            · replace hi := hlt
              clear hlt
              obtain rfl := eqi hi hge
              have p6 := hpre 6 (by kernel_rfl)
              have e6 : s6 = .pointer (some ⟨B5, 6, none⟩) := hF.get 6 _ rfl (.inr p6)
              subst e6
              have hcc := (nine_at (keep_block H5.out (below_none hF.low))).1
              have cH50 := hcc.1
              have cH51 := hcc.2.1
              have cH52 := hcc.2.2.1
              have cH53 := hcc.2.2.2.1
              have cH54 := hcc.2.2.2.2.1
              have cH55 := hcc.2.2.2.2.2.1
              have cH56 := hcc.2.2.2.2.2.2.1
              have cH57 := hcc.2.2.2.2.2.2.2.1
              have cH58 := hcc.2.2.2.2.2.2.2.2
              clear hcc
              refine step_of ⟨some 30, _, _, _, _, _⟩ rfl (fun K' hK => ?_)
              go_simp
              refine hK.out _ _ ⟨_, hF.pure hok hla hpre rfl (Below.refl _ _), ?fr⟩
              case fr => simp only [putO, layL]
            · replace hge : 8 ≤ i := hgt
              clear hgt
              obtain rfl := eqi hi hge
              have p7 := hpre 7 (by kernel_rfl)
              have e7 : s7 = .int .i64 (ln : Int) := hF.get 7 _ rfl (.inr p7)
              subst e7
              refine step_of ⟨some 31, _, _, _, _, _⟩ rfl (fun K' hK => ?_)
              go_simp
              refine hK.out _ _ ⟨_, hF.pure hok hla hpre rfl (Below.refl _ _), ?fr⟩
              case fr => simp only [putO, layL]
    · replace hge : 9 ≤ i := hgt
      clear hgt
      rcases Nat.lt_or_ge i 13 with hlt | hgt
      · replace hi := hlt
        clear hlt
        rcases Nat.lt_or_ge i 11 with hlt | hgt
        · replace hi := hlt
          clear hlt
          rcases Nat.lt_or_ge i 10 with hlt | hgt
          · replace hi := hlt
            clear hlt
            obtain rfl := eqi hi hge
            refine step_of ⟨some 32, _, _, _, _, _⟩ rfl (fun K' hK => ?_)
            go_simp
            refine hK.out _ _ ⟨_, hF.pure hok hla hpre rfl (Below.refl _ _), ?fr⟩
            case fr => simp only [putO, layL]
          · replace hge : 10 ≤ i := hgt
            clear hgt
            obtain rfl := eqi hi hge
            have p8 := hpre 8 (by kernel_rfl)
            have e8 : s8 = .int .i64 ((ln : Int) + 1) := hF.get 8 _ rfl (.inr p8)
            subst e8
            have p9 := hpre 9 (by kernel_rfl)
            have e9 : s9 = .int .i64 (k : Int) := hF.get 9 _ rfl (.inr p9)
            subst e9
            refine step_of ⟨some 33, _, _, _, _, _⟩ rfl (fun K' hK => ?_)
            go_simp
            refine hK.out _ _ ⟨_, hF.pure hok hla hpre rfl (Below.refl _ _), ?fr⟩
            case fr => simp only [putO, layL]
        · replace hge : 11 ≤ i := hgt
          clear hgt
          rcases Nat.lt_or_ge i 12 with hlt | hgt
          · replace hi := hlt
            clear hlt
            obtain rfl := eqi hi hge
            have p10 := hpre 10 (by kernel_rfl)
            have e10 : s10 = .int .i64 ((ln : Int) + 1 - (k : Int)) := hF.get 10 _ rfl (.inr p10)
            subst e10
            refine step_of ⟨some 34, _, _, _, _, _⟩ rfl (fun K' hK => ?_)
            go_simp
            go_at_call 6
            (with_reducible refine (QtJ.out _ ((HE.out.below (below_none hF.low))).env).mono ?_)
            rintro e Wq ⟨rfl, hq⟩
            refine hK.out _ _ ⟨_, hF.pure hok hla hpre rfl hq, ?fr⟩
            case fr => simp only [putO, layL]
          · replace hge : 12 ≤ i := hgt
            clear hgt
            obtain rfl := eqi hi hge
            have p5 := hpre 5 (by kernel_rfl)
            have e5 : s5 = .agg #[.int .i64 5, .string { data := #[] }, .string { data := #[] }, .string { data := #[] }, .bool false, .int .i64 0, .int .i64 (ln : Int), .int .i64 1, .slice (some ⟨g, 0, none⟩) ln cap] := hF.get 5 _ rfl (.inr p5)
            subst e5
            have p11 := hpre 11 (by kernel_rfl)
            have e11 : s11 = .agg #[.int .i64 1, .string (numS jq), .string (denS jq), .string { data := #[] }, .bool false, .int .i64 0, .int .i64 0, .int .i64 0, .slice none 0 0] := hF.get 11 _ rfl (.inr p11)
            subst e11
            refine step_of ⟨some 35, _, _, _, _, _⟩ rfl (fun K' hK => ?_)
            go_simp
            refine hK.out _ _ ⟨_, hF.row hok hla hpre rfl, ?fr⟩
            case fr => simp only [putO, layL]
      · replace hge : 13 ≤ i := hgt
        clear hgt
        rcases Nat.lt_or_ge i 15 with hlt | hgt
        · replace hi := hlt
          clear hlt
          rcases Nat.lt_or_ge i 14 with hlt | hgt
          · replace hi := hlt
            clear hlt
            obtain rfl := eqi hi hge
            have p12 := hpre 12 (by kernel_rfl)
            obtain ⟨G, eG, _, hGB⟩ : ∃ G, s12 = .slice (some ⟨G, 0, none⟩) 2 2 ∧ _ ≤ G ∧ Wr.heap[G]? = some (.cells #[.int .i64 5, .string { data := #[] }, .string { data := #[] }, .string { data := #[] }, .bool false, .int .i64 0, .int .i64 (ln : Int), .int .i64 1, .slice (some ⟨g, 0, none⟩) ln cap, .int .i64 1, .string (numS jq), .string (denS jq), .string { data := #[] }, .bool false, .int .i64 0, .int .i64 0, .int .i64 0, .slice none 0 0] 27 (0, 0)) := hF.get 12 _ rfl (.inr p12)
            subst eG
            refine step_of ⟨some 36, _, _, _, _, _⟩ rfl (fun K' hK => ?_)
            go_simp
            go_at_call 10
            (with_reducible refine (S2.on QrS.out _ _ _ _ hGB (HV.out.below (below_none hF.low)) (HE.out.below (below_none hF.low))).mono ?_)
            rintro e Wq ⟨rfl, hq⟩
            refine hK.out _ _ ⟨_, hF.pure hok hla hpre rfl hq, ?fr⟩
            case fr => simp only [putO, layL]
          · replace hge : 14 ≤ i := hgt
            clear hgt
            obtain rfl := eqi hi hge
            refine step_of ⟨some 7, _, _, _, _, _⟩ rfl (fun K' hK => ?_)
            go_simp
            refine hK.out _ _ ⟨_, hF.box hok hla hpre hun rfl, ?fr⟩
            case fr => simp only [putO, layL]
        · replace hge : 15 ≤ i := hgt
          clear hgt
          rcases Nat.lt_or_ge i 16 with hlt | hgt
          · replace hi := hlt
            clear hlt
            obtain rfl := eqi hi hge
            refine step_of ⟨some 8, _, _, _, _, _⟩ rfl (fun K' hK => ?_)
            go_simp
            refine hK.out _ _ ⟨_, hF.box hok hla hpre hun rfl, ?fr⟩
            case fr => simp only [putO, layL]
          · replace hge : 16 ≤ i := hgt
            clear hgt
            rcases Nat.lt_or_ge i 17 with hlt | hgt
            · replace hi := hlt
              clear hlt
              obtain rfl := eqi hi hge
              have p14 := hpre 14 (by kernel_rfl)
              obtain ⟨G, eG, _, hGl, hGB⟩ : ∃ G, s14 = .pointer (some ⟨G, 0, none⟩) ∧ (∀ k, none = some k → G = k) ∧ W1.heap.size ≤ G ∧ Wr.heap[G]? = some (.cells (if listed.getD 16 false = true then #[.int .i64 1, .string (numS a), .string (denS a), .string { data := #[] }, .bool false, .int .i64 0, .int .i64 0, .int .i64 0, .slice none 0 0] else #[.int .i64 0, .string { data := #[] }, .string { data := #[] }, .string { data := #[] }, .bool false, .int .i64 0, .int .i64 0, .int .i64 0, .slice none 0 0]) 27 (0, 0)) := hF.get 14 _ rfl (.inr p14)
              subst eG
              rw [if_neg (bit_off hun)] at hGB
              have HGB := Lib.hid hGB
              clear hGB
              have p4 := hpre 4 (by kernel_rfl)
              have e4 : s4 = .agg #[.int .i64 1, .string (numS a), .string (denS a), .string { data := #[] }, .bool false, .int .i64 0, .int .i64 0, .int .i64 0, .slice none 0 0] := hF.get 4 _ rfl (.inr p4)
              subst e4
              obtain ⟨⟨y0, y1, y2, y3, y4, y5, y6, y7, y8⟩, g0, g1, g2, g3, g4, g5, g6, g7, g8⟩ := nine_at HGB.out
              refine step_of ⟨none, _, _, _, _, _⟩ rfl (fun K' hK => ?_)
              go_simp
              refine hK.out _ _ ⟨undef, hF.put hok hna hpre hun rfl undef rfl (.inr p14) rfl (set9_at HGB.out (.int .i64 1) (.string (numS a)) (.string (denS a)) (.string { data := #[] }) (.bool false) (.int .i64 0) (.int .i64 0) (.int .i64 0) (.slice none 0 0)) (fun k hk => set9_other _ _ (.int .i64 1) (.string (numS a)) (.string (denS a)) (.string { data := #[] }) (.bool false) (.int .i64 0) (.int .i64 0) (.int .i64 0) (.slice none 0 0) hk) (put9_below hGl _ (.int .i64 1) (.string (numS a)) (.string (denS a)) (.string { data := #[] }) (.bool false) (.int .i64 0) (.int .i64 0) (.int .i64 0) (.slice none 0 0)), ?fr⟩
              case fr => simp only [putO, layL]
            · replace hge : 17 ≤ i := hgt
              clear hgt
              obtain rfl := eqi hi hge
              have p15 := hpre 15 (by kernel_rfl)
              obtain ⟨G, eG, _, hGl, hGB⟩ : ∃ G, s15 = .pointer (some ⟨G, 0, none⟩) ∧ (∀ k, none = some k → G = k) ∧ W1.heap.size ≤ G ∧ Wr.heap[G]? = some (.cells (if listed.getD 17 false = true then #[.int .i64 1, .string (numS a), .string (denS a), .string { data := #[] }, .bool false, .int .i64 0, .int .i64 0, .int .i64 0, .slice none 0 0] else #[.int .i64 0, .string { data := #[] }, .string { data := #[] }, .string { data := #[] }, .bool false, .int .i64 0, .int .i64 0, .int .i64 0, .slice none 0 0]) 27 (0, 0)) := hF.get 15 _ rfl (.inr p15)
              subst eG
              rw [if_neg (bit_off hun)] at hGB
              have HGB := Lib.hid hGB
              clear hGB
              have p13 := hpre 13 (by kernel_rfl)
              have e13 : s13 = .agg #[.int .i64 1, .string (numS a), .string (denS a), .string { data := #[] }, .bool false, .int .i64 0, .int .i64 0, .int .i64 0, .slice none 0 0] := hF.get 13 _ rfl (.inr p13)
              subst e13
              obtain ⟨⟨y0, y1, y2, y3, y4, y5, y6, y7, y8⟩, g0, g1, g2, g3, g4, g5, g6, g7, g8⟩ := nine_at HGB.out
              refine step_of ⟨none, _, _, _, _, _⟩ rfl (fun K' hK => ?_)
              go_simp
              refine hK.out _ _ ⟨undef, hF.put hok hna hpre hun rfl undef rfl (.inr p15) rfl (set9_at HGB.out (.int .i64 1) (.string (numS a)) (.string (denS a)) (.string { data := #[] }) (.bool false) (.int .i64 0) (.int .i64 0) (.int .i64 0) (.slice none 0 0)) (fun k hk => set9_other _ _ (.int .i64 1) (.string (numS a)) (.string (denS a)) (.string { data := #[] }) (.bool false) (.int .i64 0) (.int .i64 0) (.int .i64 0) (.slice none 0 0) hk) (put9_below hGl _ (.int .i64 1) (.string (numS a)) (.string (denS a)) (.string { data := #[] }) (.bool false) (.int .i64 0) (.int .i64 0) (.int .i64 0) (.slice none 0 0)), ?fr⟩
              case fr => simp only [putO, layL]
  case hd =>
    rintro listed vs WA hF hall
    obtain ⟨s0, s1, s2, s3, s4, s5, s6, s7, s8, s9, s10, s11, s12, s13, s14, s15, s16, s17, hvs⟩ := exl_of 18 vs (fun l => vs = l) hF.len rfl
    subst hvs
    obtain ⟨b7, e14, _, gq, k14⟩ : ∃ G, s14 = .pointer (some ⟨G, 0, none⟩) ∧ (∀ k, none = some k → G = k) ∧ _ ≤ G ∧ WA.heap[G]? = some (.cells (if listed.getD 16 false = true then #[.int .i64 1, .string (numS a), .string (denS a), .string { data := #[] }, .bool false, .int .i64 0, .int .i64 0, .int .i64 0, .slice none 0 0] else #[.int .i64 0, .string { data := #[] }, .string { data := #[] }, .string { data := #[] }, .bool false, .int .i64 0, .int .i64 0, .int .i64 0, .slice none 0 0]) 27 (0, 0)) := hF.get 14 _ rfl (.inr (hall 14 (by decide)))
    subst e14
    rw [if_pos (hall 16 (by decide))] at k14
    have H7 := Lib.hid k14
    clear k14 gq
    obtain ⟨b8, e15, _, gq, k15⟩ : ∃ G, s15 = .pointer (some ⟨G, 0, none⟩) ∧ (∀ k, none = some k → G = k) ∧ _ ≤ G ∧ WA.heap[G]? = some (.cells (if listed.getD 17 false = true then #[.int .i64 1, .string (numS a), .string (denS a), .string { data := #[] }, .bool false, .int .i64 0, .int .i64 0, .int .i64 0, .slice none 0 0] else #[.int .i64 0, .string { data := #[] }, .string { data := #[] }, .string { data := #[] }, .bool false, .int .i64 0, .int .i64 0, .int .i64 0, .slice none 0 0]) 27 (0, 0)) := hF.get 15 _ rfl (.inr (hall 15 (by decide)))
    subst e15
    rw [if_pos (hall 17 (by decide))] at k15
    have H8 := Lib.hid k15
    clear k15 gq
    have hq := below_none hF.low
    replace HE := Lib.hid (HE.out.below hq)
    replace HL := Lib.hid (HL.out.trans (hq.mono HL.out.size))
    replace H5 := Lib.hid (keep_block H5.out hq)
    replace HV := Lib.hid (HV.out.below hq)
    clear hq
    clear hF hall hok hna hla
    simp only [putO, layL]
    obtain ⟨⟨lH70, lH71, lH72, lH73, lH74, lH75, lH76, lH77, lH78⟩, _⟩ := nine_at H7.out
    obtain ⟨⟨lH50, lH51, lH52, lH53, lH54, lH55, lH56, lH57, lH58⟩, _⟩ := nine_at H5.out
    go_wp2_with fail
    (with_reducible refine (S3.at QrR.out _ _ _ HV.out HE.out).mono ?_)
    rintro e w2 ⟨rfl, hq⟩
    replace HE := Lib.hid (HE.out.below hq)
    replace HL := Lib.hid (HL.out.trans (hq.mono HL.out.size))
    replace H5 := Lib.hid (keep_block H5.out hq)
    replace H7 := Lib.hid (keep_block H7.out hq)
    replace H8 := Lib.hid (keep_block H8.out hq)
    replace HV := Lib.hid (HV.out.below hq)
    clear hq
    clear lH70 lH71 lH72 lH73 lH74 lH75 lH76 lH77 lH78 lH50 lH51 lH52 lH53 lH54 lH55 lH56 lH57 lH58
    have hq : Below w2.heap.size w2 (w2.alloc (.cells #[.int .i64 1, .string (numS rk), .string (denS rk), .string { data := #[] }, .bool false, .int .i64 0, .int .i64 0, .int .i64 0, .slice none 0 0] 27)) := ((Below.refl _ _).alloc (Nat.le_refl _) _)
    replace HE := Lib.hid (HE.out.below hq)
    replace HL := Lib.hid (HL.out.trans (hq.mono HL.out.size))
    replace H5 := Lib.hid (keep_block H5.out hq)
    replace H7 := Lib.hid (keep_block H7.out hq)
    replace H8 := Lib.hid (keep_block H8.out hq)
    replace HV := Lib.hid (HV.out.below hq)
    have H9 : Hid ((w2.alloc (.cells #[.int .i64 1, .string (numS rk), .string (denS rk), .string { data := #[] }, .bool false, .int .i64 0, .int .i64 0, .int .i64 0, .slice none 0 0] 27)).heap[w2.heap.size]? = some (.cells #[.int .i64 1, .string (numS rk), .string (denS rk), .string { data := #[] }, .bool false, .int .i64 0, .int .i64 0, .int .i64 0, .slice none 0 0] 27 (0, 0))) := Lib.hid (by
      have h := heap_alloc_new w2 (.cells #[.int .i64 1, .string (numS rk), .string (denS rk), .string { data := #[] }, .bool false, .int .i64 0, .int .i64 0, .int .i64 0, .slice none 0 0] 27)
      exact h)
    clear hq
    obtain ⟨WL2, hWL2⟩ : ∃ Z, (w2.alloc (.cells #[.int .i64 1, .string (numS rk), .string (denS rk), .string { data := #[] }, .bool false, .int .i64 0, .int .i64 0, .int .i64 0, .slice none 0 0] 27)) = Z := ⟨_, rfl⟩
    rw [hWL2] at HE HL H5 H7 H8 H9 HV
    have EWL2 := Lib.hid hWL2
    clear hWL2
    have SWL2 : Hid (w2.heap.size + 1 = WL2.heap.size) := Lib.hid (by rw [← EWL2.out]; simp only [World.size_alloc])
    go_wp2_with fail
    rw [EWL2.out]
    have hok : okB 9 (RkKs5 ln k g cap B5 b7 b8 c a kq jq rk lo mx one zr two md cn w2) = true := by kernel_rfl
    have hna := noAny_of (ks := (RkKs5 ln k g cap B5 b7 b8 c a kq jq rk lo mx one zr two md cn w2)) (by kernel_rfl)
    have hla := lasts_of hna
    refine wp_region_facts (row := none) (w := WL2) 9 (RkKs5 ln k g cap B5 b7 b8 c a kq jq rk lo mx one zr two md cn w2) [some 42, some 43, some 44, some 45, some 41, some 46, some 47, some 10, some 11] (by kernel_rfl) (by kernel_rfl) rfl [undef, undef, undef, undef, undef, undef, undef, undef, undef] ?h00 (Fs.start rfl rfl) ?hs ?hd
    case h00 => simp only [putO, layL]
    case hs =>
      rintro listed vs Wr hF i hi hun hpre
      obtain ⟨s0, s1, s2, s3, s4, s5, s6, s7, s8, hvs⟩ := exl_of 9 vs (fun l => vs = l) hF.len rfl
      subst hvs
      have hge := Nat.zero_le i
      simp only [putO, layL]
      rcases Nat.lt_or_ge i 4 with hlt | hgt
      · replace hi := hlt
        clear hlt
        rcases Nat.lt_or_ge i 2 with hlt | hgt
        · replace hi := hlt
          clear hlt
          rcases Nat.lt_or_ge i 1 with hlt | hgt
          · replace hi := hlt
            clear hlt
            obtain rfl := eqi hi hge
            have hcc := (nine_at (keep_block H9.out (below_none hF.low))).1
            have cH90 := hcc.1
            have cH91 := hcc.2.1
            have cH92 := hcc.2.2.1
            have cH93 := hcc.2.2.2.1
            have cH94 := hcc.2.2.2.2.1
            have cH95 := hcc.2.2.2.2.2.1
            have cH96 := hcc.2.2.2.2.2.2.1
            have cH97 := hcc.2.2.2.2.2.2.2.1
            have cH98 := hcc.2.2.2.2.2.2.2.2
            clear hcc
            refine step_of ⟨some 42, _, _, _, _, _⟩ rfl (fun K' hK => ?_)
            go_simp
            refine hK.out _ _ ⟨_, hF.pure hok hla hpre rfl (Below.refl _ _), ?fr⟩
            case fr => simp only [putO, layL]
          · replace hge : 1 ≤ i := hgt
            clear hgt
            obtain rfl := eqi hi hge
            refine step_of ⟨some 43, _, _, _, _, _⟩ rfl (fun K' hK => ?_)
            go_simp
            refine hK.out _ _ ⟨_, hF.pure hok hla hpre rfl (Below.refl _ _), ?fr⟩
            case fr => simp only [putO, layL]
        · replace hge : 2 ≤ i := hgt
          clear hgt
          rcases Nat.lt_or_ge i 3 with hlt | hgt
          · replace hi := hlt
            clear hlt
            obtain rfl := eqi hi hge
            have p1 := hpre 1 (by kernel_rfl)
            have e1 : s1 = .int .i64 (k : Int) := hF.get 1 _ rfl (.inr p1)
            subst e1
            refine step_of ⟨some 44, _, _, _, _, _⟩ rfl (fun K' hK => ?_)
            go_simp
            go_at_call 6
            (with_reducible refine (QtK.out _ ((HE.out.below (below_none hF.low))).env).mono ?_)
            rintro e Wq ⟨rfl, hq⟩
            refine hK.out _ _ ⟨_, hF.pure hok hla hpre rfl hq, ?fr⟩
            case fr => simp only [putO, layL]
          · replace hge : 3 ≤ i := hgt
            clear hgt
            obtain rfl := eqi hi hge
            have p0 := hpre 0 (by kernel_rfl)
            have e0 : s0 = .agg #[.int .i64 1, .string (numS rk), .string (denS rk), .string { data := #[] }, .bool false, .int .i64 0, .int .i64 0, .int .i64 0, .slice none 0 0] := hF.get 0 _ rfl (.inr p0)
            subst e0
            have p2 := hpre 2 (by kernel_rfl)
            have e2 : s2 = .agg #[.int .i64 1, .string (numS kq), .string (denS kq), .string { data := #[] }, .bool false, .int .i64 0, .int .i64 0, .int .i64 0, .slice none 0 0] := hF.get 2 _ rfl (.inr p2)
            subst e2
            refine step_of ⟨some 45, _, _, _, _, _⟩ rfl (fun K' hK => ?_)
            go_simp
            go_at_call 11
            (with_reducible refine (QtC.out _ ((HE.out.below (below_none hF.low))).env).mono ?_)
            rintro e Wq ⟨rfl, hq⟩
            refine hK.out _ _ ⟨_, hF.pure hok hla hpre rfl hq, ?fr⟩
            case fr => simp only [putO, layL]
      · replace hge : 4 ≤ i := hgt
        clear hgt
        rcases Nat.lt_or_ge i 6 with hlt | hgt
        · replace hi := hlt
          clear hlt
          rcases Nat.lt_or_ge i 5 with hlt | hgt
          · replace hi := hlt
            clear hlt
            obtain rfl := eqi hi hge
            have p3 := hpre 3 (by kernel_rfl)
            have e3 : s3 = .tuple #[.int .i64 c, .int .i64 0] := hF.get 3 _ rfl (.inr p3)
            subst e3
            refine step_of ⟨some 41, _, _, _, _, _⟩ rfl (fun K' hK => ?_)
            go_simp
            refine hK.out _ _ ⟨_, hF.pure hok hla hpre rfl (Below.refl _ _), ?fr⟩
            case fr => simp only [putO, layL]
          · replace hge : 5 ≤ i := hgt
            clear hgt
            obtain rfl := eqi hi hge
            have p4 := hpre 4 (by kernel_rfl)
            have e4 : s4 = .tuple #[.int .i64 c, .int .i64 0] := hF.get 4 _ rfl (.inr p4)
            subst e4
            refine step_of ⟨some 46, _, _, _, _, _⟩ rfl (fun K' hK => ?_)
            go_simp
            refine hK.out _ _ ⟨_, hF.pure hok hla hpre rfl (Below.refl _ _), ?fr⟩
            case fr => simp only [putO, layL]
        · replace hge : 6 ≤ i := hgt
          clear hgt
          rcases Nat.lt_or_ge i 7 with hlt | hgt
          · replace hi := hlt
            clear hlt
            obtain rfl := eqi hi hge
            have p4 := hpre 4 (by kernel_rfl)
            have e4 : s4 = .tuple #[.int .i64 c, .int .i64 0] := hF.get 4 _ rfl (.inr p4)
            subst e4
            refine step_of ⟨some 47, _, _, _, _, _⟩ rfl (fun K' hK => ?_)
            go_simp
            refine hK.out _ _ ⟨_, hF.pure hok hla hpre rfl (Below.refl _ _), ?fr⟩
            case fr => simp only [putO, layL]
          · replace hge : 7 ≤ i := hgt
            clear hgt
            rcases Nat.lt_or_ge i 8 with hlt | hgt
            · replace hi := hlt
              clear hlt
              obtain rfl := eqi hi hge
              have p5 := hpre 5 (by kernel_rfl)
              have e5 : s5 = .int .i64 c := hF.get 5 _ rfl (.inr p5)
              subst e5
              refine step_of ⟨some 10, _, _, _, _, _⟩ rfl (fun K' hK => ?_)
              go_simp
              refine hK.out _ _ ⟨_, hF.pure hok hla hpre rfl (Below.refl _ _), ?fr⟩
              case fr => simp only [putO, layL]
            · replace hge : 8 ≤ i := hgt
              clear hgt
              obtain rfl := eqi hi hge
              have p6 := hpre 6 (by kernel_rfl)
              have e6 : s6 = .int .i64 0 := hF.get 6 _ rfl (.inr p6)
              subst e6
              refine step_of ⟨some 11, _, _, _, _, _⟩ rfl (fun K' hK => ?_)
              go_simp
              refine hK.out _ _ ⟨_, hF.pure hok hla hpre rfl (Below.refl _ _), ?fr⟩
              case fr => simp only [putO, layL]
    case hd =>
      rintro listed vs WB hF hall
      obtain ⟨s0, s1, s2, s3, s4, s5, s6, s7, s8, hvs⟩ := exl_of 9 vs (fun l => vs = l) hF.len rfl
      subst hvs
      have e3 : s3 = .tuple #[.int .i64 c, .int .i64 0] := hF.get 3 _ rfl (.inr (hall 3 (by decide)))
      subst e3
      have e7 : s7 = .int .i64 c := hF.get 7 _ rfl (.inr (hall 7 (by decide)))
      subst e7
      have hq := below_none hF.low
      replace HE := Lib.hid (HE.out.below hq)
      replace HL := Lib.hid (HL.out.trans (hq.mono HL.out.size))
      replace H5 := Lib.hid (keep_block H5.out hq)
      replace H7 := Lib.hid (keep_block H7.out hq)
      replace H8 := Lib.hid (keep_block H8.out hq)
      replace H9 := Lib.hid (keep_block H9.out hq)
      replace HV := Lib.hid (HV.out.below hq)
      clear hq
      clear hF hall hok hna hla
      simp only [putO, layL]
      go_wp2_with fail
      have hok : okB 10 (RkKs6 ln k g cap B5 b7 b8 c a kq jq rk lo mx one zr two md cn w2) = true := by kernel_rfl
      have hna := noAny_of (ks := (RkKs6 ln k g cap B5 b7 b8 c a kq jq rk lo mx one zr two md cn w2)) (by kernel_rfl)
      have hla := lasts_of hna
      refine wp_region_facts (row := none) (w := WB) 10 (RkKs6 ln k g cap B5 b7 b8 c a kq jq rk lo mx one zr two md cn w2) [some 48, some 49, some 50, some 51, some 52, some 53, some 12, some 13, none, none] (by kernel_rfl) (by kernel_rfl) rfl [undef, undef, undef, undef, undef, undef, undef, undef, undef, undef] ?h00 (Fs.start rfl rfl) ?hs ?hd
      case h00 => simp only [putO, layL]
      case hs =>
        rintro listed vs Wr hF i hi hun hpre
        obtain ⟨s0, s1, s2, s3, s4, s5, s6, s7, s8, s9, hvs⟩ := exl_of 10 vs (fun l => vs = l) hF.len rfl
        subst hvs
        have hge := Nat.zero_le i
        simp only [putO, layL]
        rcases Nat.lt_or_ge i 5 with hlt | hgt
        · replace hi := hlt
          clear hlt
          rcases Nat.lt_or_ge i 2 with hlt | hgt
          · replace hi := hlt
            clear hlt
            rcases Nat.lt_or_ge i 1 with hlt | hgt
            · replace hi := hlt
              clear hlt
              obtain rfl := eqi hi hge
              have hcc := (nine_at (keep_block H5.out (below_none hF.low))).1
              have cH50 := hcc.1
              have cH51 := hcc.2.1
              have cH52 := hcc.2.2.1
              have cH53 := hcc.2.2.2.1
              have cH54 := hcc.2.2.2.2.1
              have cH55 := hcc.2.2.2.2.2.1
              have cH56 := hcc.2.2.2.2.2.2.1
              have cH57 := hcc.2.2.2.2.2.2.2.1
              have cH58 := hcc.2.2.2.2.2.2.2.2
              clear hcc
              refine step_of ⟨some 48, _, _, _, _, _⟩ rfl (fun K' hK => ?_)
              go_simp
              refine hK.out _ _ ⟨_, hF.pure hok hla hpre rfl (Below.refl _ _), ?fr⟩
              case fr => simp only [putO, layL]
            · replace hge : 1 ≤ i := hgt
              clear hgt
              obtain rfl := eqi hi hge
              have p0 := hpre 0 (by kernel_rfl)
              have e0 : s0 = .agg #[.int .i64 5, .string { data := #[] }, .string { data := #[] }, .string { data := #[] }, .bool false, .int .i64 0, .int .i64 (ln : Int), .int .i64 1, .slice (some ⟨g, 0, none⟩) ln cap] := hF.get 0 _ rfl (.inr p0)
              subst e0
              refine step_of ⟨some 49, _, _, _, _, _⟩ rfl (fun K' hK => ?_)
              go_simp
              refine hK.out _ _ ⟨_, hF.row hok hla hpre rfl, ?fr⟩
              case fr => simp only [putO, layL]
          · replace hge : 2 ≤ i := hgt
            clear hgt
            rcases Nat.lt_or_ge i 3 with hlt | hgt
            · replace hi := hlt
              clear hlt
              obtain rfl := eqi hi hge
              have p1 := hpre 1 (by kernel_rfl)
              obtain ⟨G, eG, _, hGB⟩ : ∃ G, s1 = .slice (some ⟨G, 0, none⟩) 1 1 ∧ _ ≤ G ∧ Wr.heap[G]? = some (.cells #[.int .i64 5, .string { data := #[] }, .string { data := #[] }, .string { data := #[] }, .bool false, .int .i64 0, .int .i64 (ln : Int), .int .i64 1, .slice (some ⟨g, 0, none⟩) ln cap] 27 (0, 0)) := hF.get 1 _ rfl (.inr p1)
              subst eG
              refine step_of ⟨some 50, _, _, _, _, _⟩ rfl (fun K' hK => ?_)
              go_simp
              go_at_call 10
              (with_reducible refine (S1.on QrMn.out _ _ _ _ hGB (HV.out.below (below_none hF.low)) (HE.out.below (below_none hF.low))).mono ?_)
              rintro e Wq ⟨rfl, hq⟩
              refine hK.out _ _ ⟨_, hF.pure hok hla hpre rfl hq, ?fr⟩
              case fr => simp only [putO, layL]
            · replace hge : 3 ≤ i := hgt
              clear hgt
              rcases Nat.lt_or_ge i 4 with hlt | hgt
              · replace hi := hlt
                clear hlt
                obtain rfl := eqi hi hge
                have hcc := (nine_at (keep_block H5.out (below_none hF.low))).1
                have cH50 := hcc.1
                have cH51 := hcc.2.1
                have cH52 := hcc.2.2.1
                have cH53 := hcc.2.2.2.1
                have cH54 := hcc.2.2.2.2.1
                have cH55 := hcc.2.2.2.2.2.1
                have cH56 := hcc.2.2.2.2.2.2.1
                have cH57 := hcc.2.2.2.2.2.2.2.1
                have cH58 := hcc.2.2.2.2.2.2.2.2
                clear hcc
                refine step_of ⟨some 51, _, _, _, _, _⟩ rfl (fun K' hK => ?_)
                go_simp
                refine hK.out _ _ ⟨_, hF.pure hok hla hpre rfl (Below.refl _ _), ?fr⟩
                case fr => simp only [putO, layL]
              · replace hge : 4 ≤ i := hgt
                clear hgt
                obtain rfl := eqi hi hge
                have p3 := hpre 3 (by kernel_rfl)
                have e3 : s3 = .agg #[.int .i64 5, .string { data := #[] }, .string { data := #[] }, .string { data := #[] }, .bool false, .int .i64 0, .int .i64 (ln : Int), .int .i64 1, .slice (some ⟨g, 0, none⟩) ln cap] := hF.get 3 _ rfl (.inr p3)
                subst e3
                refine step_of ⟨some 52, _, _, _, _, _⟩ rfl (fun K' hK => ?_)
                go_simp
                refine hK.out _ _ ⟨_, hF.row hok hla hpre rfl, ?fr⟩
                case fr => simp only [putO, layL]
        · replace hge : 5 ≤ i := hgt
          clear hgt
          rcases Nat.lt_or_ge i 7 with hlt | hgt
          · replace hi := hlt
            clear hlt
            rcases Nat.lt_or_ge i 6 with hlt | hgt
            · replace hi := hlt
              clear hlt
              obtain rfl := eqi hi hge
              have p4 := hpre 4 (by kernel_rfl)
              obtain ⟨G, eG, _, hGB⟩ : ∃ G, s4 = .slice (some ⟨G, 0, none⟩) 1 1 ∧ _ ≤ G ∧ Wr.heap[G]? = some (.cells #[.int .i64 5, .string { data := #[] }, .string { data := #[] }, .string { data := #[] }, .bool false, .int .i64 0, .int .i64 (ln : Int), .int .i64 1, .slice (some ⟨g, 0, none⟩) ln cap] 27 (0, 0)) := hF.get 4 _ rfl (.inr p4)
              subst eG
              refine step_of ⟨some 53, _, _, _, _, _⟩ rfl (fun K' hK => ?_)
              go_simp
              go_at_call 10
              (with_reducible refine (S1.on QrMx.out _ _ _ _ hGB (HV.out.below (below_none hF.low)) (HE.out.below (below_none hF.low))).mono ?_)
              rintro e Wq ⟨rfl, hq⟩
              refine hK.out _ _ ⟨_, hF.pure hok hla hpre rfl hq, ?fr⟩
              case fr => simp only [putO, layL]
            · replace hge : 6 ≤ i := hgt
              clear hgt
              obtain rfl := eqi hi hge
              refine step_of ⟨some 12, _, _, _, _, _⟩ rfl (fun K' hK => ?_)
              go_simp
              refine hK.out _ _ ⟨_, hF.box hok hla hpre hun rfl, ?fr⟩
              case fr => simp only [putO, layL]
          · replace hge : 7 ≤ i := hgt
            clear hgt
            rcases Nat.lt_or_ge i 8 with hlt | hgt
            · replace hi := hlt
              clear hlt
              obtain rfl := eqi hi hge
              refine step_of ⟨some 13, _, _, _, _, _⟩ rfl (fun K' hK => ?_)
              go_simp
              refine hK.out _ _ ⟨_, hF.box hok hla hpre hun rfl, ?fr⟩
              case fr => simp only [putO, layL]
            · replace hge : 8 ≤ i := hgt
              clear hgt
              rcases Nat.lt_or_ge i 9 with hlt | hgt
              · replace hi := hlt
                clear hlt
                obtain rfl := eqi hi hge
                have p6 := hpre 6 (by kernel_rfl)
                obtain ⟨G, eG, _, hGl, hGB⟩ : ∃ G, s6 = .pointer (some ⟨G, 0, none⟩) ∧ (∀ k, none = some k → G = k) ∧ WB.heap.size ≤ G ∧ Wr.heap[G]? = some (.cells (if listed.getD 8 false = true then #[.int .i64 1, .string (numS lo), .string (denS lo), .string { data := #[] }, .bool false, .int .i64 0, .int .i64 0, .int .i64 0, .slice none 0 0] else #[.int .i64 0, .string { data := #[] }, .string { data := #[] }, .string { data := #[] }, .bool false, .int .i64 0, .int .i64 0, .int .i64 0, .slice none 0 0]) 27 (0, 0)) := hF.get 6 _ rfl (.inr p6)
                subst eG
                rw [if_neg (bit_off hun)] at hGB
                have HGB := Lib.hid hGB
                clear hGB
                have p2 := hpre 2 (by kernel_rfl)
                have e2 : s2 = .agg #[.int .i64 1, .string (numS lo), .string (denS lo), .string { data := #[] }, .bool false, .int .i64 0, .int .i64 0, .int .i64 0, .slice none 0 0] := hF.get 2 _ rfl (.inr p2)
                subst e2
                obtain ⟨⟨y0, y1, y2, y3, y4, y5, y6, y7, y8⟩, g0, g1, g2, g3, g4, g5, g6, g7, g8⟩ := nine_at HGB.out
                refine step_of ⟨none, _, _, _, _, _⟩ rfl (fun K' hK => ?_)
                go_simp
                refine hK.out _ _ ⟨undef, hF.put hok hna hpre hun rfl undef rfl (.inr p6) rfl (set9_at HGB.out (.int .i64 1) (.string (numS lo)) (.string (denS lo)) (.string { data := #[] }) (.bool false) (.int .i64 0) (.int .i64 0) (.int .i64 0) (.slice none 0 0)) (fun k hk => set9_other _ _ (.int .i64 1) (.string (numS lo)) (.string (denS lo)) (.string { data := #[] }) (.bool false) (.int .i64 0) (.int .i64 0) (.int .i64 0) (.slice none 0 0) hk) (put9_below hGl _ (.int .i64 1) (.string (numS lo)) (.string (denS lo)) (.string { data := #[] }) (.bool false) (.int .i64 0) (.int .i64 0) (.int .i64 0) (.slice none 0 0)), ?fr⟩
                case fr => simp only [putO, layL]
              · replace hge : 9 ≤ i := hgt
                clear hgt
                obtain rfl := eqi hi hge
                have p7 := hpre 7 (by kernel_rfl)
                obtain ⟨G, eG, _, hGl, hGB⟩ : ∃ G, s7 = .pointer (some ⟨G, 0, none⟩) ∧ (∀ k, none = some k → G = k) ∧ WB.heap.size ≤ G ∧ Wr.heap[G]? = some (.cells (if listed.getD 9 false = true then #[.int .i64 1, .string (numS mx), .string (denS mx), .string { data := #[] }, .bool false, .int .i64 0, .int .i64 0, .int .i64 0, .slice none 0 0] else #[.int .i64 0, .string { data := #[] }, .string { data := #[] }, .string { data := #[] }, .bool false, .int .i64 0, .int .i64 0, .int .i64 0, .slice none 0 0]) 27 (0, 0)) := hF.get 7 _ rfl (.inr p7)
                subst eG
                rw [if_neg (bit_off hun)] at hGB
                have HGB := Lib.hid hGB
                clear hGB
                have p5 := hpre 5 (by kernel_rfl)
                have e5 : s5 = .agg #[.int .i64 1, .string (numS mx), .string (denS mx), .string { data := #[] }, .bool false, .int .i64 0, .int .i64 0, .int .i64 0, .slice none 0 0] := hF.get 5 _ rfl (.inr p5)
                subst e5
                obtain ⟨⟨y0, y1, y2, y3, y4, y5, y6, y7, y8⟩, g0, g1, g2, g3, g4, g5, g6, g7, g8⟩ := nine_at HGB.out
                refine step_of ⟨none, _, _, _, _, _⟩ rfl (fun K' hK => ?_)
                go_simp
                refine hK.out _ _ ⟨undef, hF.put hok hna hpre hun rfl undef rfl (.inr p7) rfl (set9_at HGB.out (.int .i64 1) (.string (numS mx)) (.string (denS mx)) (.string { data := #[] }) (.bool false) (.int .i64 0) (.int .i64 0) (.int .i64 0) (.slice none 0 0)) (fun k hk => set9_other _ _ (.int .i64 1) (.string (numS mx)) (.string (denS mx)) (.string { data := #[] }) (.bool false) (.int .i64 0) (.int .i64 0) (.int .i64 0) (.slice none 0 0) hk) (put9_below hGl _ (.int .i64 1) (.string (numS mx)) (.string (denS mx)) (.string { data := #[] }) (.bool false) (.int .i64 0) (.int .i64 0) (.int .i64 0) (.slice none 0 0)), ?fr⟩
                case fr => simp only [putO, layL]
      case hd =>
        rintro listed vs WC hF hall
        obtain ⟨s0, s1, s2, s3, s4, s5, s6, s7, s8, s9, hvs⟩ := exl_of 10 vs (fun l => vs = l) hF.len rfl
        subst hvs
        obtain ⟨b12, e6, _, gq, k6⟩ : ∃ G, s6 = .pointer (some ⟨G, 0, none⟩) ∧ (∀ k, none = some k → G = k) ∧ _ ≤ G ∧ WC.heap[G]? = some (.cells (if listed.getD 8 false = true then #[.int .i64 1, .string (numS lo), .string (denS lo), .string { data := #[] }, .bool false, .int .i64 0, .int .i64 0, .int .i64 0, .slice none 0 0] else #[.int .i64 0, .string { data := #[] }, .string { data := #[] }, .string { data := #[] }, .bool false, .int .i64 0, .int .i64 0, .int .i64 0, .slice none 0 0]) 27 (0, 0)) := hF.get 6 _ rfl (.inr (hall 6 (by decide)))
        subst e6
        rw [if_pos (hall 8 (by decide))] at k6
        have H12 := Lib.hid k6
        clear k6 gq
        obtain ⟨b13, e7, _, gq, k7⟩ : ∃ G, s7 = .pointer (some ⟨G, 0, none⟩) ∧ (∀ k, none = some k → G = k) ∧ _ ≤ G ∧ WC.heap[G]? = some (.cells (if listed.getD 9 false = true then #[.int .i64 1, .string (numS mx), .string (denS mx), .string { data := #[] }, .bool false, .int .i64 0, .int .i64 0, .int .i64 0, .slice none 0 0] else #[.int .i64 0, .string { data := #[] }, .string { data := #[] }, .string { data := #[] }, .bool false, .int .i64 0, .int .i64 0, .int .i64 0, .slice none 0 0]) 27 (0, 0)) := hF.get 7 _ rfl (.inr (hall 7 (by decide)))
        subst e7
        rw [if_pos (hall 9 (by decide))] at k7
        have H13 := Lib.hid k7
        clear k7 gq
        have hq := below_none hF.low
        replace HE := Lib.hid (HE.out.below hq)
        replace HL := Lib.hid (HL.out.trans (hq.mono HL.out.size))
        replace H5 := Lib.hid (keep_block H5.out hq)
        replace H7 := Lib.hid (keep_block H7.out hq)
        replace H8 := Lib.hid (keep_block H8.out hq)
        replace H9 := Lib.hid (keep_block H9.out hq)
        replace HV := Lib.hid (HV.out.below hq)
        clear hq
        clear hF hall hok hna hla
        simp only [putO, layL]
        go_wp2_with fail
        (with_reducible refine (QtO.out _ (HE.out).env).mono ?_)
        rintro e w3 ⟨rfl, hq⟩
        replace HE := Lib.hid (HE.out.below hq)
        replace HL := Lib.hid (HL.out.trans (hq.mono HL.out.size))
        replace H5 := Lib.hid (keep_block H5.out hq)
        replace H7 := Lib.hid (keep_block H7.out hq)
        replace H8 := Lib.hid (keep_block H8.out hq)
        replace H9 := Lib.hid (keep_block H9.out hq)
        replace H12 := Lib.hid (keep_block H12.out hq)
        replace H13 := Lib.hid (keep_block H13.out hq)
        replace HV := Lib.hid (HV.out.below hq)
        clear hq
        go_wp2_with fail
        (with_reducible refine (QtN.out _ (HE.out).env).mono ?_)
        rintro e w4 ⟨rfl, hq⟩
        replace HE := Lib.hid (HE.out.below hq)
        replace HL := Lib.hid (HL.out.trans (hq.mono HL.out.size))
        replace H5 := Lib.hid (keep_block H5.out hq)
        replace H7 := Lib.hid (keep_block H7.out hq)
        replace H8 := Lib.hid (keep_block H8.out hq)
        replace H9 := Lib.hid (keep_block H9.out hq)
        replace H12 := Lib.hid (keep_block H12.out hq)
        replace H13 := Lib.hid (keep_block H13.out hq)
        replace HV := Lib.hid (HV.out.below hq)
        clear hq
        have hq : Below w4.heap.size w4 (w4.alloc (.cells #[.int .i64 1, .string (numS one), .string (denS one), .string { data := #[] }, .bool false, .int .i64 0, .int .i64 0, .int .i64 0, .slice none 0 0] 27)) := ((Below.refl _ _).alloc (Nat.le_refl _) _)
        replace HE := Lib.hid (HE.out.below hq)
        replace HL := Lib.hid (HL.out.trans (hq.mono HL.out.size))
        replace H5 := Lib.hid (keep_block H5.out hq)
        replace H7 := Lib.hid (keep_block H7.out hq)
        replace H8 := Lib.hid (keep_block H8.out hq)
        replace H9 := Lib.hid (keep_block H9.out hq)
        replace H12 := Lib.hid (keep_block H12.out hq)
        replace H13 := Lib.hid (keep_block H13.out hq)
        replace HV := Lib.hid (HV.out.below hq)
        have H14 : Hid ((w4.alloc (.cells #[.int .i64 1, .string (numS one), .string (denS one), .string { data := #[] }, .bool false, .int .i64 0, .int .i64 0, .int .i64 0, .slice none 0 0] 27)).heap[w4.heap.size]? = some (.cells #[.int .i64 1, .string (numS one), .string (denS one), .string { data := #[] }, .bool false, .int .i64 0, .int .i64 0, .int .i64 0, .slice none 0 0] 27 (0, 0))) := Lib.hid (by
          have h := heap_alloc_new w4 (.cells #[.int .i64 1, .string (numS one), .string (denS one), .string { data := #[] }, .bool false, .int .i64 0, .int .i64 0, .int .i64 0, .slice none 0 0] 27)
          exact h)
        clear hq
        obtain ⟨WL5, hWL5⟩ : ∃ Z, (w4.alloc (.cells #[.int .i64 1, .string (numS one), .string (denS one), .string { data := #[] }, .bool false, .int .i64 0, .int .i64 0, .int .i64 0, .slice none 0 0] 27)) = Z := ⟨_, rfl⟩
        rw [hWL5] at HE HL H5 H7 H8 H9 H12 H13 H14 HV
        have EWL5 := Lib.hid hWL5
        clear hWL5
        have SWL5 : Hid (w4.heap.size + 1 = WL5.heap.size) := Lib.hid (by rw [← EWL5.out]; simp only [World.size_alloc])
        have hld := H12.out
        rw [← EWL5.out] at hld
        obtain ⟨⟨lH120, lH121, lH122, lH123, lH124, lH125, lH126, lH127, lH128⟩, _⟩ := nine_at hld
        clear hld
        go_upto_region 10 with fail
        clear lH120 lH121 lH122 lH123 lH124 lH125 lH126 lH127 lH128
        rw [EWL5.out]
        have hb : Below WL5.heap.size WL5 (WL5.alloc (.cells #[.int .i64 5, .string { data := #[] }, .string { data := #[] }, .string { data := #[] }, .bool false, .int .i64 0, .int .i64 (ln : Int), .int .i64 1, .slice (some ⟨g, 0, none⟩) ln cap, .int .i64 1, .string (numS a), .string (denS a), .string { data := #[] }, .bool false, .int .i64 0, .int .i64 0, .int .i64 0, .slice none 0 0] 27)) := (Below.refl _ _).alloc (Nat.le_refl _) _
        have TF := Lib.hid (QrF.out _ _ _ _ (heap_alloc_new WL5 (.cells #[.int .i64 5, .string { data := #[] }, .string { data := #[] }, .string { data := #[] }, .bool false, .int .i64 0, .int .i64 (ln : Int), .int .i64 1, .slice (some ⟨g, 0, none⟩) ln cap, .int .i64 1, .string (numS a), .string (denS a), .string { data := #[] }, .bool false, .int .i64 0, .int .i64 0, .int .i64 0, .slice none 0 0] 27)) (HV.out.below hb) (HE.out.below hb))
        have HLA := Lib.hid hb
        clear hb
        obtain ⟨⟨l50, l51, l52, l53, l54, l55, l56, l57, l58⟩, _⟩ := nine_at H5.out
        obtain ⟨⟨l70, l71, l72, l73, l74, l75, l76, l77, l78⟩, _⟩ := nine_at H7.out
        go_wp2_with fail
        refine TF.out.mono ?_
        rintro e w9 ⟨g2, cap2, rfl, hva2, _, hq9⟩
        have hq := HLA.out.trans (hq9.mono HLA.out.size)
        clear hq9 TF HLA l50 l51 l52 l53 l54 l55 l56 l57 l58 l70 l71 l72 l73 l74 l75 l76 l77 l78
        replace HE := Lib.hid (HE.out.below hq)
        replace HL := Lib.hid (HL.out.trans (hq.mono HL.out.size))
        replace H5 := Lib.hid (keep_block H5.out hq)
        replace H7 := Lib.hid (keep_block H7.out hq)
        replace H8 := Lib.hid (keep_block H8.out hq)
        replace H9 := Lib.hid (keep_block H9.out hq)
        replace H12 := Lib.hid (keep_block H12.out hq)
        replace H13 := Lib.hid (keep_block H13.out hq)
        replace H14 := Lib.hid (keep_block H14.out hq)
        replace HV := Lib.hid (HV.out.below hq)
        have HV2 := Lib.hid hva2
        clear hva2 hq
        have hq : Below w9.heap.size w9 (w9.alloc (.cells #[.int .i64 5, .string { data := #[] }, .string { data := #[] }, .string { data := #[] }, .bool false, .int .i64 0, .int .i64 2, .int .i64 1, .slice (some ⟨g2, 0, none⟩) 2 cap2] 27)) := (Below.refl _ _).alloc (Nat.le_refl _) _
        replace HE := Lib.hid (HE.out.below hq)
        replace HL := Lib.hid (HL.out.trans (hq.mono HL.out.size))
        replace H5 := Lib.hid (keep_block H5.out hq)
        replace H7 := Lib.hid (keep_block H7.out hq)
        replace H8 := Lib.hid (keep_block H8.out hq)
        replace H9 := Lib.hid (keep_block H9.out hq)
        replace H12 := Lib.hid (keep_block H12.out hq)
        replace H13 := Lib.hid (keep_block H13.out hq)
        replace H14 := Lib.hid (keep_block H14.out hq)
        replace HV := Lib.hid (HV.out.below hq)
        replace HV2 := Lib.hid (HV2.out.below hq)
        have H15 := Lib.hid (heap_alloc_new w9 (.cells #[.int .i64 5, .string { data := #[] }, .string { data := #[] }, .string { data := #[] }, .bool false, .int .i64 0, .int .i64 2, .int .i64 1, .slice (some ⟨g2, 0, none⟩) 2 cap2] 27))
        clear hq
        obtain ⟨B15, hB⟩ : ∃ B15, w9.heap.size = B15 := ⟨_, rfl⟩
        obtain ⟨WD, hW⟩ : ∃ Z, w9.alloc (.cells #[.int .i64 5, .string { data := #[] }, .string { data := #[] }, .string { data := #[] }, .bool false, .int .i64 0, .int .i64 2, .int .i64 1, .slice (some ⟨g2, 0, none⟩) 2 cap2] 27) = Z := ⟨_, rfl⟩
        rw [hW] at HE HL HV HV2 H15 H5 H7 H8 H9 H12 H13 H14
        rw [hB] at H15
        have EWD := Lib.hid hW
        have EBD := Lib.hid hB
        clear hW hB
        go_upto_region 11 with fail
        rw [EWD.out, EBD.out]
        go_wp2_with fail
        have hok : okB 52 (RkKs11 ln k g cap g2 cap2 B15 B5 b12 b13 b7 b8 c a kq jq rk lo mx one zr two md cn w2 w4) = true := by kernel_rfl
        have hna := noAny_of (ks := (RkKs11 ln k g cap g2 cap2 B15 B5 b12 b13 b7 b8 c a kq jq rk lo mx one zr two md cn w2 w4)) (by kernel_rfl)
        have hla := lasts_of hna
        refine wp_region_facts_abs (row := none) (w := WD) 52 0 52 [] (RkKs11 ln k g cap g2 cap2 B15 B5 b12 b13 b7 b8 c a kq jq rk lo mx one zr two md cn w2 w4) [some 63, some 64, some 65, some 66, some 67, some 68, some 69, some 70, some 71, some 72, some 73, some 74, some 75, some 76, some 77, some 78, some 79, some 80, some 81, some 82, some 83, some 84, some 85, some 86, some 87, some 88, some 89, some 90, some 91, some 92, some 93, some 94, some 95, some 96, some 97, some 98, some 99, some 100, some 101, some 102, some 103, some 104, some 105, some 106, some 107, some 108, some 109, some 110, some 111, some 112, some 113, some 4] [(7, .pointer (some ⟨b7, 0, none⟩)), (8, .pointer (some ⟨b8, 0, none⟩)), (10, .int .i64 c), (5, .pointer (some ⟨B5, 0, none⟩)), (12, .pointer (some ⟨b12, 0, none⟩)), (14, .pointer (some ⟨w4.heap.size, 0, none⟩)), (13, .pointer (some ⟨b13, 0, none⟩)), (15, .pointer (some ⟨B15, 0, none⟩))] 114 (by kernel_rfl) (by kernel_rfl) (by kernel_rfl) rfl rfl (by decide) rfl (by kernel_rfl) rfl (Nat.le_of_eq rfl) rfl ?ho [undef, undef, undef, undef, undef, undef, undef, undef, undef, undef, undef, undef, undef, undef, undef, undef, undef, undef, undef, undef, undef, undef, undef, undef, undef, undef, undef, undef, undef, undef, undef, undef, undef, undef, undef, undef, undef, undef, undef, undef, undef, undef, undef, undef, undef, undef, undef, undef, undef, undef, undef, .bool false] ?h00 (Fs.start rfl rfl) ?hs ?hd
        case ho =>
          intro k x hk
          match k, hk with
          | 0, hk => have hk := Option.some.inj hk; subst hk; rfl
          | 1, hk => have hk := Option.some.inj hk; subst hk; rfl
          | 2, hk => have hk := Option.some.inj hk; subst hk; rfl
          | 3, hk => have hk := Option.some.inj hk; subst hk; rfl
          | 4, hk => have hk := Option.some.inj hk; subst hk; rfl
          | 5, hk => have hk := Option.some.inj hk; subst hk; rfl
          | 6, hk => have hk := Option.some.inj hk; subst hk; rfl
          | 7, hk => have hk := Option.some.inj hk; subst hk; rfl
          | _ + 8, hk => exact absurd hk (by simp)
        case h00 => simp only [putO, layL]
        case hs =>
          rintro A listed vs Wr hF hR i hi hun hpre
          obtain ⟨s0, s1, s2, s3, s4, s5, s6, s7, s8, s9, s10, s11, s12, s13, s14, s15, s16, s17, s18, s19, s20, s21, s22, s23, s24, s25, s26, s27, s28, s29, s30, s31, s32, s33, s34, s35, s36, s37, s38, s39, s40, s41, s42, s43, s44, s45, s46, s47, s48, s49, s50, s51, hvs⟩ := exl_of 52 vs (fun l => vs = l) hF.len rfl
          subst hvs
          have hge := Nat.zero_le i
          rcases Nat.lt_or_ge i 26 with hlt | hgt
          · replace hi := hlt
            clear hlt
            rcases Nat.lt_or_ge i 13 with hlt | hgt
            · replace hi := hlt
              clear hlt
              rcases Nat.lt_or_ge i 6 with hlt | hgt
              · replace hi := hlt
                clear hlt
                rcases Nat.lt_or_ge i 3 with hlt | hgt
                · replace hi := hlt
                  clear hlt
                  rcases Nat.lt_or_ge i 1 with hlt | hgt
                  · replace hi := hlt
                    clear hlt
                    obtain rfl := eqi hi hge
                    have ro7 : A.tmps[7]? = some (.pointer (some ⟨b7, 0, none⟩)) := hR.out 0 _ rfl
                    have hcc := (nine_at (keep_block H7.out (below_none hF.low))).1
                    have cH70 := hcc.1
                    have cH71 := hcc.2.1
                    have cH72 := hcc.2.2.1
                    have cH73 := hcc.2.2.2.1
                    have cH74 := hcc.2.2.2.2.1
                    have cH75 := hcc.2.2.2.2.2.1
                    have cH76 := hcc.2.2.2.2.2.2.1
                    have cH77 := hcc.2.2.2.2.2.2.2.1
                    have cH78 := hcc.2.2.2.2.2.2.2.2
                    clear hcc
                    refine step_of ⟨some 63, _, _, _, _, _⟩ rfl (fun K' hK => ?_)
                    go_simp
                    exact hK.out _ _ ⟨_, hF.pure hok hla hpre rfl (Below.refl _ _), rfl⟩
                  · replace hge : 1 ≤ i := hgt
                    clear hgt
                    rcases Nat.lt_or_ge i 2 with hlt | hgt
                    · replace hi := hlt
                      clear hlt
                      obtain rfl := eqi hi hge
                      have ro8 : A.tmps[8]? = some (.pointer (some ⟨b8, 0, none⟩)) := hR.out 1 _ rfl
                      have hcc := (nine_at (keep_block H8.out (below_none hF.low))).1
                      have cH80 := hcc.1
                      have cH81 := hcc.2.1
                      have cH82 := hcc.2.2.1
                      have cH83 := hcc.2.2.2.1
                      have cH84 := hcc.2.2.2.2.1
                      have cH85 := hcc.2.2.2.2.2.1
                      have cH86 := hcc.2.2.2.2.2.2.1
                      have cH87 := hcc.2.2.2.2.2.2.2.1
                      have cH88 := hcc.2.2.2.2.2.2.2.2
                      clear hcc
                      refine step_of ⟨some 64, _, _, _, _, _⟩ rfl (fun K' hK => ?_)
                      go_simp
                      exact hK.out _ _ ⟨_, hF.pure hok hla hpre rfl (Below.refl _ _), rfl⟩
                    · replace hge : 2 ≤ i := hgt
                      clear hgt
                      obtain rfl := eqi hi hge
                      have p0 := hpre 0 (by kernel_rfl)
                      have e0 : s0 = .agg #[.int .i64 1, .string (numS a), .string (denS a), .string { data := #[] }, .bool false, .int .i64 0, .int .i64 0, .int .i64 0, .slice none 0 0] := hF.get 0 _ rfl (.inr p0)
                      subst e0
                      have r0 : A.tmps[63]? = some (.agg #[.int .i64 1, .string (numS a), .string (denS a), .string { data := #[] }, .bool false, .int .i64 0, .int .i64 0, .int .i64 0, .slice none 0 0]) := hR.own 0 _ _ rfl rfl
                      have p1 := hpre 1 (by kernel_rfl)
                      have e1 : s1 = .agg #[.int .i64 1, .string (numS a), .string (denS a), .string { data := #[] }, .bool false, .int .i64 0, .int .i64 0, .int .i64 0, .slice none 0 0] := hF.get 1 _ rfl (.inr p1)
                      subst e1
                      have r1 : A.tmps[64]? = some (.agg #[.int .i64 1, .string (numS a), .string (denS a), .string { data := #[] }, .bool false, .int .i64 0, .int .i64 0, .int .i64 0, .slice none 0 0]) := hR.own 1 _ _ rfl rfl
                      refine step_of ⟨some 65, _, _, _, _, _⟩ rfl (fun K' hK => ?_)
                      go_simp
                      go_at_call 8
                      (with_reducible refine (same_one a _).mono ?_)
                      rintro e Wq ⟨rfl, hq⟩
                      exact hK.out _ _ ⟨_, hF.pure hok hla hpre rfl hq, rfl⟩
                · replace hge : 3 ≤ i := hgt
                  clear hgt
                  rcases Nat.lt_or_ge i 4 with hlt | hgt
                  · replace hi := hlt
                    clear hlt
                    obtain rfl := eqi hi hge
                    have p2 := hpre 2 (by kernel_rfl)
                    have e2 : s2 = .bool true := hF.get 2 _ rfl (.inr p2)
                    subst e2
                    have r2 : A.tmps[65]? = some (.bool true) := hR.own 2 _ _ rfl rfl
                    refine step_of ⟨some 66, _, _, _, _, _⟩ rfl (fun K' hK => ?_)
                    go_simp
                    exact hK.out _ _ ⟨_, hF.pure hok hla hpre rfl (Below.refl _ _), rfl⟩
                  · replace hge : 4 ≤ i := hgt
                    clear hgt
                    rcases Nat.lt_or_ge i 5 with hlt | hgt
                    · replace hi := hlt
                      clear hlt
                      obtain rfl := eqi hi hge
                      have p3 := hpre 3 (by kernel_rfl)
                      have e3 : s3 = .bool true := hF.get 3 _ rfl (.inr p3)
                      subst e3
                      have r3 : A.tmps[66]? = some (.bool true) := hR.own 3 _ _ rfl rfl
                      have ro10 : A.tmps[10]? = some (.int .i64 c) := hR.out 2 _ rfl
                      refine step_of ⟨some 67, _, _, _, _, _⟩ rfl (fun K' hK => ?_)
                      rw [if_pos (by simp [Region.wanted, yielded, r3])]
                      go_simp
                      exact hK.out _ _ ⟨_, hF.pure hok hla hpre rfl (Below.refl _ _), rfl⟩
                    · replace hge : 5 ≤ i := hgt
                      clear hgt
                      obtain rfl := eqi hi hge
                      have p4 := hpre 4 (by kernel_rfl)
                      have e4 : s4 = .int .i64 c := hF.get 4 _ rfl (.inr p4)
                      subst e4
                      have r4 : A.tmps[67]? = some (.int .i64 c) := hR.own 4 _ _ rfl rfl
                      have p3 := hpre 3 (by kernel_rfl)
                      have e3 : s3 = .bool true := hF.get 3 _ rfl (.inr p3)
                      subst e3
                      have r3 : A.tmps[66]? = some (.bool true) := hR.own 3 _ _ rfl rfl
                      refine step_of ⟨some 68, _, _, _, _, _⟩ rfl (fun K' hK => ?_)
                      rw [if_pos (by simp [Region.wanted, yielded, r3])]
                      go_simp
                      exact hK.out _ _ ⟨_, hF.pure hok hla hpre rfl (Below.refl _ _), rfl⟩
              · replace hge : 6 ≤ i := hgt
                clear hgt
                rcases Nat.lt_or_ge i 9 with hlt | hgt
                · replace hi := hlt
                  clear hlt
                  rcases Nat.lt_or_ge i 7 with hlt | hgt
                  · replace hi := hlt
                    clear hlt
                    obtain rfl := eqi hi hge
                    have p3 := hpre 3 (by kernel_rfl)
                    have e3 : s3 = .bool true := hF.get 3 _ rfl (.inr p3)
                    subst e3
                    have r3 : A.tmps[66]? = some (.bool true) := hR.own 3 _ _ rfl rfl
                    have p5 := hpre 5 (by kernel_rfl)
                    have e5 : s5 = .bool true := hF.get 5 _ rfl (.inr p5)
                    subst e5
                    have r5 : A.tmps[68]? = some (.bool true) := hR.own 5 _ _ rfl rfl
                    refine step_of ⟨some 69, _, _, _, _, _⟩ rfl (fun K' hK => ?_)
                    go_simp
                    exact hK.out _ _ ⟨_, hF.pure hok hla hpre rfl (Below.refl _ _), rfl⟩
                  · replace hge : 7 ≤ i := hgt
                    clear hgt
                    rcases Nat.lt_or_ge i 8 with hlt | hgt
                    · replace hi := hlt
                      clear hlt
                      obtain rfl := eqi hi hge
                      have p6 := hpre 6 (by kernel_rfl)
                      have e6 : s6 = .bool true := hF.get 6 _ rfl (.inr p6)
                      subst e6
                      have r6 : A.tmps[69]? = some (.bool true) := hR.own 6 _ _ rfl rfl
                      refine step_of ⟨some 70, _, _, _, _, _⟩ rfl (fun K' hK => ?_)
                      go_simp
                      exact hK.out _ _ ⟨_, hF.pure hok hla hpre rfl (Below.refl _ _), rfl⟩
                    · replace hge : 8 ≤ i := hgt
                      clear hgt
                      obtain rfl := eqi hi hge
                      have p7 := hpre 7 (by kernel_rfl)
                      have e7 : s7 = .bool true := hF.get 7 _ rfl (.inr p7)
                      subst e7
                      have r7 : A.tmps[70]? = some (.bool true) := hR.own 7 _ _ rfl rfl
                      have ro5 : A.tmps[5]? = some (.pointer (some ⟨B5, 0, none⟩)) := hR.out 3 _ rfl
                      have hcc := (nine_at (keep_block H5.out (below_none hF.low))).1
                      have cH50 := hcc.1
                      have cH51 := hcc.2.1
                      have cH52 := hcc.2.2.1
                      have cH53 := hcc.2.2.2.1
                      have cH54 := hcc.2.2.2.2.1
                      have cH55 := hcc.2.2.2.2.2.1
                      have cH56 := hcc.2.2.2.2.2.2.1
                      have cH57 := hcc.2.2.2.2.2.2.2.1
                      have cH58 := hcc.2.2.2.2.2.2.2.2
                      clear hcc
                      refine step_of ⟨some 71, _, _, _, _, _⟩ rfl (fun K' hK => ?_)
                      rw [if_pos (by simp [Region.wanted, yielded, r7])]
                      go_simp
                      exact hK.out _ _ ⟨_, hF.pure hok hla hpre rfl (Below.refl _ _), rfl⟩
                · replace hge : 9 ≤ i := hgt
                  clear hgt
                  rcases Nat.lt_or_ge i 11 with hlt | hgt
                  · replace hi := hlt
                    clear hlt
                    rcases Nat.lt_or_ge i 10 with hlt | hgt
                    · replace hi := hlt
                      clear hlt
                      obtain rfl := eqi hi hge
                      have p7 := hpre 7 (by kernel_rfl)
                      have e7 : s7 = .bool true := hF.get 7 _ rfl (.inr p7)
                      subst e7
                      have r7 : A.tmps[70]? = some (.bool true) := hR.own 7 _ _ rfl rfl
                      refine step_of ⟨some 72, _, _, _, _, _⟩ rfl (fun K' hK => ?_)
                      rw [if_pos (by simp [Region.wanted, yielded, r7])]
                      go_simp
                      go_at_call 6
                      (with_reducible refine (Qt0.out _ ((HE.out.below (below_none hF.low))).env).mono ?_)
                      rintro e Wq ⟨rfl, hq⟩
                      exact hK.out _ _ ⟨_, hF.pure hok hla hpre rfl hq, rfl⟩
                    · replace hge : 10 ≤ i := hgt
                      clear hgt
                      obtain rfl := eqi hi hge
                      have p8 := hpre 8 (by kernel_rfl)
                      have e8 : s8 = .agg #[.int .i64 5, .string { data := #[] }, .string { data := #[] }, .string { data := #[] }, .bool false, .int .i64 0, .int .i64 (ln : Int), .int .i64 1, .slice (some ⟨g, 0, none⟩) ln cap] := hF.get 8 _ rfl (.inr p8)
                      subst e8
                      have r8 : A.tmps[71]? = some (.agg #[.int .i64 5, .string { data := #[] }, .string { data := #[] }, .string { data := #[] }, .bool false, .int .i64 0, .int .i64 (ln : Int), .int .i64 1, .slice (some ⟨g, 0, none⟩) ln cap]) := hR.own 8 _ _ rfl rfl
                      have p9 := hpre 9 (by kernel_rfl)
                      have e9 : s9 = .agg #[.int .i64 1, .string (numS zr), .string (denS zr), .string { data := #[] }, .bool false, .int .i64 0, .int .i64 0, .int .i64 0, .slice none 0 0] := hF.get 9 _ rfl (.inr p9)
                      subst e9
                      have r9 : A.tmps[72]? = some (.agg #[.int .i64 1, .string (numS zr), .string (denS zr), .string { data := #[] }, .bool false, .int .i64 0, .int .i64 0, .int .i64 0, .slice none 0 0]) := hR.own 9 _ _ rfl rfl
                      have p7 := hpre 7 (by kernel_rfl)
                      have e7 : s7 = .bool true := hF.get 7 _ rfl (.inr p7)
                      subst e7
                      have r7 : A.tmps[70]? = some (.bool true) := hR.own 7 _ _ rfl rfl
                      refine step_of ⟨some 73, _, _, _, _, _⟩ rfl (fun K' hK => ?_)
                      rw [if_pos (by simp [Region.wanted, yielded, r7])]
                      go_simp
                      exact hK.out _ _ ⟨_, hF.row hok hla hpre rfl, rfl⟩
                  · replace hge : 11 ≤ i := hgt
                    clear hgt
                    rcases Nat.lt_or_ge i 12 with hlt | hgt
                    · replace hi := hlt
                      clear hlt
                      obtain rfl := eqi hi hge
                      have p10 := hpre 10 (by kernel_rfl)
                      obtain ⟨G10, eG10, _, hGB10⟩ : ∃ G, s10 = .slice (some ⟨G, 0, none⟩) 2 2 ∧ _ ≤ G ∧ Wr.heap[G]? = some (.cells #[.int .i64 5, .string { data := #[] }, .string { data := #[] }, .string { data := #[] }, .bool false, .int .i64 0, .int .i64 (ln : Int), .int .i64 1, .slice (some ⟨g, 0, none⟩) ln cap, .int .i64 1, .string (numS zr), .string (denS zr), .string { data := #[] }, .bool false, .int .i64 0, .int .i64 0, .int .i64 0, .slice none 0 0] 27 (0, 0)) := hF.get 10 _ rfl (.inr p10)
                      subst eG10
                      have r10 : A.tmps[73]? = some (.slice (some ⟨G10, 0, none⟩) 2 2) := hR.own 10 _ _ rfl rfl
                      have p7 := hpre 7 (by kernel_rfl)
                      have e7 : s7 = .bool true := hF.get 7 _ rfl (.inr p7)
                      subst e7
                      have r7 : A.tmps[70]? = some (.bool true) := hR.own 7 _ _ rfl rfl
                      refine step_of ⟨some 74, _, _, _, _, _⟩ rfl (fun K' hK => ?_)
                      rw [if_pos (by simp [Region.wanted, yielded, r7])]
                      go_simp
                      go_at_call 10
                      (with_reducible refine (S2.on QrP0.out _ G10 _ _ hGB10 (HV.out.below (below_none hF.low)) (HE.out.below (below_none hF.low))).mono ?_)
                      rintro e Wq ⟨rfl, hq⟩
                      exact hK.out _ _ ⟨_, hF.pure hok hla hpre rfl hq, rfl⟩
                    · replace hge : 12 ≤ i := hgt
                      clear hgt
                      obtain rfl := eqi hi hge
                      have p7 := hpre 7 (by kernel_rfl)
                      have e7 : s7 = .bool true := hF.get 7 _ rfl (.inr p7)
                      subst e7
                      have r7 : A.tmps[70]? = some (.bool true) := hR.own 7 _ _ rfl rfl
                      have ro12 : A.tmps[12]? = some (.pointer (some ⟨b12, 0, none⟩)) := hR.out 4 _ rfl
                      have hcc := (nine_at (keep_block H12.out (below_none hF.low))).1
                      have cH120 := hcc.1
                      have cH121 := hcc.2.1
                      have cH122 := hcc.2.2.1
                      have cH123 := hcc.2.2.2.1
                      have cH124 := hcc.2.2.2.2.1
                      have cH125 := hcc.2.2.2.2.2.1
                      have cH126 := hcc.2.2.2.2.2.2.1
                      have cH127 := hcc.2.2.2.2.2.2.2.1
                      have cH128 := hcc.2.2.2.2.2.2.2.2
                      clear hcc
                      refine step_of ⟨some 75, _, _, _, _, _⟩ rfl (fun K' hK => ?_)
                      rw [if_pos (by simp [Region.wanted, yielded, r7])]
                      go_simp
                      exact hK.out _ _ ⟨_, hF.pure hok hla hpre rfl (Below.refl _ _), rfl⟩
            · replace hge : 13 ≤ i := hgt
              clear hgt
              rcases Nat.lt_or_ge i 19 with hlt | hgt
              · replace hi := hlt
                clear hlt
                rcases Nat.lt_or_ge i 16 with hlt | hgt
                · replace hi := hlt
                  clear hlt
                  rcases Nat.lt_or_ge i 14 with hlt | hgt
                  · replace hi := hlt
                    clear hlt
                    obtain rfl := eqi hi hge
                    have p11 := hpre 11 (by kernel_rfl)
                    have e11 : s11 = .agg #[.int .i64 1, .string (numS lo), .string (denS lo), .string { data := #[] }, .bool false, .int .i64 0, .int .i64 0, .int .i64 0, .slice none 0 0] := hF.get 11 _ rfl (.inr p11)
                    subst e11
                    have r11 : A.tmps[74]? = some (.agg #[.int .i64 1, .string (numS lo), .string (denS lo), .string { data := #[] }, .bool false, .int .i64 0, .int .i64 0, .int .i64 0, .slice none 0 0]) := hR.own 11 _ _ rfl rfl
                    have p12 := hpre 12 (by kernel_rfl)
                    have e12 : s12 = .agg #[.int .i64 1, .string (numS lo), .string (denS lo), .string { data := #[] }, .bool false, .int .i64 0, .int .i64 0, .int .i64 0, .slice none 0 0] := hF.get 12 _ rfl (.inr p12)
                    subst e12
                    have r12 : A.tmps[75]? = some (.agg #[.int .i64 1, .string (numS lo), .string (denS lo), .string { data := #[] }, .bool false, .int .i64 0, .int .i64 0, .int .i64 0, .slice none 0 0]) := hR.own 12 _ _ rfl rfl
                    have p7 := hpre 7 (by kernel_rfl)
                    have e7 : s7 = .bool true := hF.get 7 _ rfl (.inr p7)
                    subst e7
                    have r7 : A.tmps[70]? = some (.bool true) := hR.own 7 _ _ rfl rfl
                    refine step_of ⟨some 76, _, _, _, _, _⟩ rfl (fun K' hK => ?_)
                    rw [if_pos (by simp [Region.wanted, yielded, r7])]
                    go_simp
                    go_at_call 8
                    (with_reducible refine (same_one lo _).mono ?_)
                    rintro e Wq ⟨rfl, hq⟩
                    exact hK.out _ _ ⟨_, hF.pure hok hla hpre rfl hq, rfl⟩
                  · replace hge : 14 ≤ i := hgt
                    clear hgt
                    rcases Nat.lt_or_ge i 15 with hlt | hgt
                    · replace hi := hlt
                      clear hlt
                      obtain rfl := eqi hi hge
                      have p7 := hpre 7 (by kernel_rfl)
                      have e7 : s7 = .bool true := hF.get 7 _ rfl (.inr p7)
                      subst e7
                      have r7 : A.tmps[70]? = some (.bool true) := hR.own 7 _ _ rfl rfl
                      have p13 := hpre 13 (by kernel_rfl)
                      have e13 : s13 = .bool true := hF.get 13 _ rfl (.inr p13)
                      subst e13
                      have r13 : A.tmps[76]? = some (.bool true) := hR.own 13 _ _ rfl rfl
                      refine step_of ⟨some 77, _, _, _, _, _⟩ rfl (fun K' hK => ?_)
                      go_simp
                      exact hK.out _ _ ⟨_, hF.pure hok hla hpre rfl (Below.refl _ _), rfl⟩
                    · replace hge : 15 ≤ i := hgt
                      clear hgt
                      obtain rfl := eqi hi hge
                      have p14 := hpre 14 (by kernel_rfl)
                      have e14 : s14 = .bool true := hF.get 14 _ rfl (.inr p14)
                      subst e14
                      have r14 : A.tmps[77]? = some (.bool true) := hR.own 14 _ _ rfl rfl
                      refine step_of ⟨some 78, _, _, _, _, _⟩ rfl (fun K' hK => ?_)
                      go_simp
                      exact hK.out _ _ ⟨_, hF.pure hok hla hpre rfl (Below.refl _ _), rfl⟩
                · replace hge : 16 ≤ i := hgt
                  clear hgt
                  rcases Nat.lt_or_ge i 17 with hlt | hgt
                  · replace hi := hlt
                    clear hlt
                    obtain rfl := eqi hi hge
                    have p15 := hpre 15 (by kernel_rfl)
                    have e15 : s15 = .bool true := hF.get 15 _ rfl (.inr p15)
                    subst e15
                    have r15 : A.tmps[78]? = some (.bool true) := hR.own 15 _ _ rfl rfl
                    have ro5 : A.tmps[5]? = some (.pointer (some ⟨B5, 0, none⟩)) := hR.out 3 _ rfl
                    have hcc := (nine_at (keep_block H5.out (below_none hF.low))).1
                    have cH50 := hcc.1
                    have cH51 := hcc.2.1
                    have cH52 := hcc.2.2.1
                    have cH53 := hcc.2.2.2.1
                    have cH54 := hcc.2.2.2.2.1
                    have cH55 := hcc.2.2.2.2.2.1
                    have cH56 := hcc.2.2.2.2.2.2.1
                    have cH57 := hcc.2.2.2.2.2.2.2.1
                    have cH58 := hcc.2.2.2.2.2.2.2.2
                    clear hcc
                    refine step_of ⟨some 79, _, _, _, _, _⟩ rfl (fun K' hK => ?_)
                    rw [if_pos (by simp [Region.wanted, yielded, r15])]
                    go_simp
                    exact hK.out _ _ ⟨_, hF.pure hok hla hpre rfl (Below.refl _ _), rfl⟩
                  · replace hge : 17 ≤ i := hgt
                    clear hgt
                    rcases Nat.lt_or_ge i 18 with hlt | hgt
                    · replace hi := hlt
                      clear hlt
                      obtain rfl := eqi hi hge
                      have p15 := hpre 15 (by kernel_rfl)
                      have e15 : s15 = .bool true := hF.get 15 _ rfl (.inr p15)
                      subst e15
                      have r15 : A.tmps[78]? = some (.bool true) := hR.own 15 _ _ rfl rfl
                      have ro14 : A.tmps[14]? = some (.pointer (some ⟨w4.heap.size, 0, none⟩)) := hR.out 5 _ rfl
                      have hcc := (nine_at (keep_block H14.out (below_none hF.low))).1
                      have cH140 := hcc.1
                      have cH141 := hcc.2.1
                      have cH142 := hcc.2.2.1
                      have cH143 := hcc.2.2.2.1
                      have cH144 := hcc.2.2.2.2.1
                      have cH145 := hcc.2.2.2.2.2.1
                      have cH146 := hcc.2.2.2.2.2.2.1
                      have cH147 := hcc.2.2.2.2.2.2.2.1
                      have cH148 := hcc.2.2.2.2.2.2.2.2
                      clear hcc
                      refine step_of ⟨some 80, _, _, _, _, _⟩ rfl (fun K' hK => ?_)
                      rw [if_pos (by simp [Region.wanted, yielded, r15])]
                      go_simp
                      exact hK.out _ _ ⟨_, hF.pure hok hla hpre rfl (Below.refl _ _), rfl⟩
                    · replace hge : 18 ≤ i := hgt
                      clear hgt
                      obtain rfl := eqi hi hge
                      have p16 := hpre 16 (by kernel_rfl)
                      have e16 : s16 = .agg #[.int .i64 5, .string { data := #[] }, .string { data := #[] }, .string { data := #[] }, .bool false, .int .i64 0, .int .i64 (ln : Int), .int .i64 1, .slice (some ⟨g, 0, none⟩) ln cap] := hF.get 16 _ rfl (.inr p16)
                      subst e16
                      have r16 : A.tmps[79]? = some (.agg #[.int .i64 5, .string { data := #[] }, .string { data := #[] }, .string { data := #[] }, .bool false, .int .i64 0, .int .i64 (ln : Int), .int .i64 1, .slice (some ⟨g, 0, none⟩) ln cap]) := hR.own 16 _ _ rfl rfl
                      have p17 := hpre 17 (by kernel_rfl)
                      have e17 : s17 = .agg #[.int .i64 1, .string (numS one), .string (denS one), .string { data := #[] }, .bool false, .int .i64 0, .int .i64 0, .int .i64 0, .slice none 0 0] := hF.get 17 _ rfl (.inr p17)
                      subst e17
                      have r17 : A.tmps[80]? = some (.agg #[.int .i64 1, .string (numS one), .string (denS one), .string { data := #[] }, .bool false, .int .i64 0, .int .i64 0, .int .i64 0, .slice none 0 0]) := hR.own 17 _ _ rfl rfl
                      have p15 := hpre 15 (by kernel_rfl)
                      have e15 : s15 = .bool true := hF.get 15 _ rfl (.inr p15)
                      subst e15
                      have r15 : A.tmps[78]? = some (.bool true) := hR.own 15 _ _ rfl rfl
                      refine step_of ⟨some 81, _, _, _, _, _⟩ rfl (fun K' hK => ?_)
                      rw [if_pos (by simp [Region.wanted, yielded, r15])]
                      go_simp
                      exact hK.out _ _ ⟨_, hF.row hok hla hpre rfl, rfl⟩
              · replace hge : 19 ≤ i := hgt
                clear hgt
                rcases Nat.lt_or_ge i 22 with hlt | hgt
                · replace hi := hlt
                  clear hlt
                  rcases Nat.lt_or_ge i 20 with hlt | hgt
                  · replace hi := hlt
                    clear hlt
                    obtain rfl := eqi hi hge
                    have p18 := hpre 18 (by kernel_rfl)
                    obtain ⟨G18, eG18, _, hGB18⟩ : ∃ G, s18 = .slice (some ⟨G, 0, none⟩) 2 2 ∧ _ ≤ G ∧ Wr.heap[G]? = some (.cells #[.int .i64 5, .string { data := #[] }, .string { data := #[] }, .string { data := #[] }, .bool false, .int .i64 0, .int .i64 (ln : Int), .int .i64 1, .slice (some ⟨g, 0, none⟩) ln cap, .int .i64 1, .string (numS one), .string (denS one), .string { data := #[] }, .bool false, .int .i64 0, .int .i64 0, .int .i64 0, .slice none 0 0] 27 (0, 0)) := hF.get 18 _ rfl (.inr p18)
                    subst eG18
                    have r18 : A.tmps[81]? = some (.slice (some ⟨G18, 0, none⟩) 2 2) := hR.own 18 _ _ rfl rfl
                    have p15 := hpre 15 (by kernel_rfl)
                    have e15 : s15 = .bool true := hF.get 15 _ rfl (.inr p15)
                    subst e15
                    have r15 : A.tmps[78]? = some (.bool true) := hR.own 15 _ _ rfl rfl
                    refine step_of ⟨some 82, _, _, _, _, _⟩ rfl (fun K' hK => ?_)
                    rw [if_pos (by simp [Region.wanted, yielded, r15])]
                    go_simp
                    go_at_call 10
                    (with_reducible refine (S2.on QrP1.out _ G18 _ _ hGB18 (HV.out.below (below_none hF.low)) (HE.out.below (below_none hF.low))).mono ?_)
                    rintro e Wq ⟨rfl, hq⟩
                    exact hK.out _ _ ⟨_, hF.pure hok hla hpre rfl hq, rfl⟩
                  · replace hge : 20 ≤ i := hgt
                    clear hgt
                    rcases Nat.lt_or_ge i 21 with hlt | hgt
                    · replace hi := hlt
                      clear hlt
                      obtain rfl := eqi hi hge
                      have p15 := hpre 15 (by kernel_rfl)
                      have e15 : s15 = .bool true := hF.get 15 _ rfl (.inr p15)
                      subst e15
                      have r15 : A.tmps[78]? = some (.bool true) := hR.own 15 _ _ rfl rfl
                      have ro13 : A.tmps[13]? = some (.pointer (some ⟨b13, 0, none⟩)) := hR.out 6 _ rfl
                      have hcc := (nine_at (keep_block H13.out (below_none hF.low))).1
                      have cH130 := hcc.1
                      have cH131 := hcc.2.1
                      have cH132 := hcc.2.2.1
                      have cH133 := hcc.2.2.2.1
                      have cH134 := hcc.2.2.2.2.1
                      have cH135 := hcc.2.2.2.2.2.1
                      have cH136 := hcc.2.2.2.2.2.2.1
                      have cH137 := hcc.2.2.2.2.2.2.2.1
                      have cH138 := hcc.2.2.2.2.2.2.2.2
                      clear hcc
                      refine step_of ⟨some 83, _, _, _, _, _⟩ rfl (fun K' hK => ?_)
                      rw [if_pos (by simp [Region.wanted, yielded, r15])]
                      go_simp
                      exact hK.out _ _ ⟨_, hF.pure hok hla hpre rfl (Below.refl _ _), rfl⟩
                    · replace hge : 21 ≤ i := hgt
                      clear hgt
                      obtain rfl := eqi hi hge
                      have p19 := hpre 19 (by kernel_rfl)
                      have e19 : s19 = .agg #[.int .i64 1, .string (numS mx), .string (denS mx), .string { data := #[] }, .bool false, .int .i64 0, .int .i64 0, .int .i64 0, .slice none 0 0] := hF.get 19 _ rfl (.inr p19)
                      subst e19
                      have r19 : A.tmps[82]? = some (.agg #[.int .i64 1, .string (numS mx), .string (denS mx), .string { data := #[] }, .bool false, .int .i64 0, .int .i64 0, .int .i64 0, .slice none 0 0]) := hR.own 19 _ _ rfl rfl
                      have p20 := hpre 20 (by kernel_rfl)
                      have e20 : s20 = .agg #[.int .i64 1, .string (numS mx), .string (denS mx), .string { data := #[] }, .bool false, .int .i64 0, .int .i64 0, .int .i64 0, .slice none 0 0] := hF.get 20 _ rfl (.inr p20)
                      subst e20
                      have r20 : A.tmps[83]? = some (.agg #[.int .i64 1, .string (numS mx), .string (denS mx), .string { data := #[] }, .bool false, .int .i64 0, .int .i64 0, .int .i64 0, .slice none 0 0]) := hR.own 20 _ _ rfl rfl
                      have p15 := hpre 15 (by kernel_rfl)
                      have e15 : s15 = .bool true := hF.get 15 _ rfl (.inr p15)
                      subst e15
                      have r15 : A.tmps[78]? = some (.bool true) := hR.own 15 _ _ rfl rfl
                      refine step_of ⟨some 84, _, _, _, _, _⟩ rfl (fun K' hK => ?_)
                      rw [if_pos (by simp [Region.wanted, yielded, r15])]
                      go_simp
                      go_at_call 8
                      (with_reducible refine (same_one mx _).mono ?_)
                      rintro e Wq ⟨rfl, hq⟩
                      exact hK.out _ _ ⟨_, hF.pure hok hla hpre rfl hq, rfl⟩
                · replace hge : 22 ≤ i := hgt
                  clear hgt
                  rcases Nat.lt_or_ge i 24 with hlt | hgt
                  · replace hi := hlt
                    clear hlt
                    rcases Nat.lt_or_ge i 23 with hlt | hgt
                    · replace hi := hlt
                      clear hlt
                      obtain rfl := eqi hi hge
                      have p15 := hpre 15 (by kernel_rfl)
                      have e15 : s15 = .bool true := hF.get 15 _ rfl (.inr p15)
                      subst e15
                      have r15 : A.tmps[78]? = some (.bool true) := hR.own 15 _ _ rfl rfl
                      have p21 := hpre 21 (by kernel_rfl)
                      have e21 : s21 = .bool true := hF.get 21 _ rfl (.inr p21)
                      subst e21
                      have r21 : A.tmps[84]? = some (.bool true) := hR.own 21 _ _ rfl rfl
                      refine step_of ⟨some 85, _, _, _, _, _⟩ rfl (fun K' hK => ?_)
                      go_simp
                      exact hK.out _ _ ⟨_, hF.pure hok hla hpre rfl (Below.refl _ _), rfl⟩
                    · replace hge : 23 ≤ i := hgt
                      clear hgt
                      obtain rfl := eqi hi hge
                      have p22 := hpre 22 (by kernel_rfl)
                      have e22 : s22 = .bool true := hF.get 22 _ rfl (.inr p22)
                      subst e22
                      have r22 : A.tmps[85]? = some (.bool true) := hR.own 22 _ _ rfl rfl
                      refine step_of ⟨some 86, _, _, _, _, _⟩ rfl (fun K' hK => ?_)
                      go_simp
                      exact hK.out _ _ ⟨_, hF.pure hok hla hpre rfl (Below.refl _ _), rfl⟩
                  · replace hge : 24 ≤ i := hgt
                    clear hgt
                    rcases Nat.lt_or_ge i 25 with hlt | hgt
                    · replace hi := hlt
                      clear hlt
                      obtain rfl := eqi hi hge
                      have p23 := hpre 23 (by kernel_rfl)
                      have e23 : s23 = .bool true := hF.get 23 _ rfl (.inr p23)
                      subst e23
                      have r23 : A.tmps[86]? = some (.bool true) := hR.own 23 _ _ rfl rfl
                      have ro5 : A.tmps[5]? = some (.pointer (some ⟨B5, 0, none⟩)) := hR.out 3 _ rfl
                      have hcc := (nine_at (keep_block H5.out (below_none hF.low))).1
                      have cH50 := hcc.1
                      have cH51 := hcc.2.1
                      have cH52 := hcc.2.2.1
                      have cH53 := hcc.2.2.2.1
                      have cH54 := hcc.2.2.2.2.1
                      have cH55 := hcc.2.2.2.2.2.1
                      have cH56 := hcc.2.2.2.2.2.2.1
                      have cH57 := hcc.2.2.2.2.2.2.2.1
                      have cH58 := hcc.2.2.2.2.2.2.2.2
                      clear hcc
                      refine step_of ⟨some 87, _, _, _, _, _⟩ rfl (fun K' hK => ?_)
                      rw [if_pos (by simp [Region.wanted, yielded, r23])]
                      go_simp
                      exact hK.out _ _ ⟨_, hF.pure hok hla hpre rfl (Below.refl _ _), rfl⟩
                    · replace hge : 25 ≤ i := hgt
                      clear hgt
                      obtain rfl := eqi hi hge
                      have p23 := hpre 23 (by kernel_rfl)
                      have e23 : s23 = .bool true := hF.get 23 _ rfl (.inr p23)
                      subst e23
                      have r23 : A.tmps[86]? = some (.bool true) := hR.own 23 _ _ rfl rfl
                      refine step_of ⟨some 88, _, _, _, _, _⟩ rfl (fun K' hK => ?_)
                      rw [if_pos (by simp [Region.wanted, yielded, r23])]
                      go_simp
                      go_at_call 6
                      (with_reducible refine (Qt2.out _ ((HE.out.below (below_none hF.low))).env).mono ?_)
                      rintro e Wq ⟨rfl, hq⟩
                      exact hK.out _ _ ⟨_, hF.pure hok hla hpre rfl hq, rfl⟩
          · replace hge : 26 ≤ i := hgt
            clear hgt
            rcases Nat.lt_or_ge i 39 with hlt | hgt
            · replace hi := hlt
              clear hlt
              rcases Nat.lt_or_ge i 32 with hlt | hgt
              · replace hi := hlt
                clear hlt
                rcases Nat.lt_or_ge i 29 with hlt | hgt
                · replace hi := hlt
                  clear hlt
                  rcases Nat.lt_or_ge i 27 with hlt | hgt
                  · replace hi := hlt
                    clear hlt
                    obtain rfl := eqi hi hge
                    have p24 := hpre 24 (by kernel_rfl)
                    have e24 : s24 = .agg #[.int .i64 5, .string { data := #[] }, .string { data := #[] }, .string { data := #[] }, .bool false, .int .i64 0, .int .i64 (ln : Int), .int .i64 1, .slice (some ⟨g, 0, none⟩) ln cap] := hF.get 24 _ rfl (.inr p24)
                    subst e24
                    have r24 : A.tmps[87]? = some (.agg #[.int .i64 5, .string { data := #[] }, .string { data := #[] }, .string { data := #[] }, .bool false, .int .i64 0, .int .i64 (ln : Int), .int .i64 1, .slice (some ⟨g, 0, none⟩) ln cap]) := hR.own 24 _ _ rfl rfl
                    have p25 := hpre 25 (by kernel_rfl)
                    have e25 : s25 = .agg #[.int .i64 1, .string (numS two), .string (denS two), .string { data := #[] }, .bool false, .int .i64 0, .int .i64 0, .int .i64 0, .slice none 0 0] := hF.get 25 _ rfl (.inr p25)
                    subst e25
                    have r25 : A.tmps[88]? = some (.agg #[.int .i64 1, .string (numS two), .string (denS two), .string { data := #[] }, .bool false, .int .i64 0, .int .i64 0, .int .i64 0, .slice none 0 0]) := hR.own 25 _ _ rfl rfl
                    have p23 := hpre 23 (by kernel_rfl)
                    have e23 : s23 = .bool true := hF.get 23 _ rfl (.inr p23)
                    subst e23
                    have r23 : A.tmps[86]? = some (.bool true) := hR.own 23 _ _ rfl rfl
                    refine step_of ⟨some 89, _, _, _, _, _⟩ rfl (fun K' hK => ?_)
                    rw [if_pos (by simp [Region.wanted, yielded, r23])]
                    go_simp
                    exact hK.out _ _ ⟨_, hF.row hok hla hpre rfl, rfl⟩
                  · replace hge : 27 ≤ i := hgt
                    clear hgt
                    rcases Nat.lt_or_ge i 28 with hlt | hgt
                    · replace hi := hlt
                      clear hlt
                      obtain rfl := eqi hi hge
                      have p26 := hpre 26 (by kernel_rfl)
                      obtain ⟨G26, eG26, _, hGB26⟩ : ∃ G, s26 = .slice (some ⟨G, 0, none⟩) 2 2 ∧ _ ≤ G ∧ Wr.heap[G]? = some (.cells #[.int .i64 5, .string { data := #[] }, .string { data := #[] }, .string { data := #[] }, .bool false, .int .i64 0, .int .i64 (ln : Int), .int .i64 1, .slice (some ⟨g, 0, none⟩) ln cap, .int .i64 1, .string (numS two), .string (denS two), .string { data := #[] }, .bool false, .int .i64 0, .int .i64 0, .int .i64 0, .slice none 0 0] 27 (0, 0)) := hF.get 26 _ rfl (.inr p26)
                      subst eG26
                      have r26 : A.tmps[89]? = some (.slice (some ⟨G26, 0, none⟩) 2 2) := hR.own 26 _ _ rfl rfl
                      have p23 := hpre 23 (by kernel_rfl)
                      have e23 : s23 = .bool true := hF.get 23 _ rfl (.inr p23)
                      subst e23
                      have r23 : A.tmps[86]? = some (.bool true) := hR.own 23 _ _ rfl rfl
                      refine step_of ⟨some 90, _, _, _, _, _⟩ rfl (fun K' hK => ?_)
                      rw [if_pos (by simp [Region.wanted, yielded, r23])]
                      go_simp
                      go_at_call 10
                      (with_reducible refine (S2.on QrQ.out _ G26 _ _ hGB26 (HV.out.below (below_none hF.low)) (HE.out.below (below_none hF.low))).mono ?_)
                      rintro e Wq ⟨rfl, hq⟩
                      exact hK.out _ _ ⟨_, hF.pure hok hla hpre rfl hq, rfl⟩
                    · replace hge : 28 ≤ i := hgt
                      clear hgt
                      obtain rfl := eqi hi hge
                      have p23 := hpre 23 (by kernel_rfl)
                      have e23 : s23 = .bool true := hF.get 23 _ rfl (.inr p23)
                      subst e23
                      have r23 : A.tmps[86]? = some (.bool true) := hR.own 23 _ _ rfl rfl
                      have ro5 : A.tmps[5]? = some (.pointer (some ⟨B5, 0, none⟩)) := hR.out 3 _ rfl
                      have hcc := (nine_at (keep_block H5.out (below_none hF.low))).1
                      have cH50 := hcc.1
                      have cH51 := hcc.2.1
                      have cH52 := hcc.2.2.1
                      have cH53 := hcc.2.2.2.1
                      have cH54 := hcc.2.2.2.2.1
                      have cH55 := hcc.2.2.2.2.2.1
                      have cH56 := hcc.2.2.2.2.2.2.1
                      have cH57 := hcc.2.2.2.2.2.2.2.1
                      have cH58 := hcc.2.2.2.2.2.2.2.2
                      clear hcc
                      refine step_of ⟨some 91, _, _, _, _, _⟩ rfl (fun K' hK => ?_)
                      rw [if_pos (by simp [Region.wanted, yielded, r23])]
                      go_simp
                      exact hK.out _ _ ⟨_, hF.pure hok hla hpre rfl (Below.refl _ _), rfl⟩
                · replace hge : 29 ≤ i := hgt
                  clear hgt
                  rcases Nat.lt_or_ge i 30 with hlt | hgt
                  · replace hi := hlt
                    clear hlt
                    obtain rfl := eqi hi hge
                    have p28 := hpre 28 (by kernel_rfl)
                    have e28 : s28 = .agg #[.int .i64 5, .string { data := #[] }, .string { data := #[] }, .string { data := #[] }, .bool false, .int .i64 0, .int .i64 (ln : Int), .int .i64 1, .slice (some ⟨g, 0, none⟩) ln cap] := hF.get 28 _ rfl (.inr p28)
                    subst e28
                    have r28 : A.tmps[91]? = some (.agg #[.int .i64 5, .string { data := #[] }, .string { data := #[] }, .string { data := #[] }, .bool false, .int .i64 0, .int .i64 (ln : Int), .int .i64 1, .slice (some ⟨g, 0, none⟩) ln cap]) := hR.own 28 _ _ rfl rfl
                    have p23 := hpre 23 (by kernel_rfl)
                    have e23 : s23 = .bool true := hF.get 23 _ rfl (.inr p23)
                    subst e23
                    have r23 : A.tmps[86]? = some (.bool true) := hR.own 23 _ _ rfl rfl
                    refine step_of ⟨some 92, _, _, _, _, _⟩ rfl (fun K' hK => ?_)
                    rw [if_pos (by simp [Region.wanted, yielded, r23])]
                    go_simp
                    exact hK.out _ _ ⟨_, hF.row hok hla hpre rfl, rfl⟩
                  · replace hge : 30 ≤ i := hgt
                    clear hgt
                    rcases Nat.lt_or_ge i 31 with hlt | hgt
                    · replace hi := hlt
                      clear hlt
                      obtain rfl := eqi hi hge
                      have p29 := hpre 29 (by kernel_rfl)
                      obtain ⟨G29, eG29, _, hGB29⟩ : ∃ G, s29 = .slice (some ⟨G, 0, none⟩) 1 1 ∧ _ ≤ G ∧ Wr.heap[G]? = some (.cells #[.int .i64 5, .string { data := #[] }, .string { data := #[] }, .string { data := #[] }, .bool false, .int .i64 0, .int .i64 (ln : Int), .int .i64 1, .slice (some ⟨g, 0, none⟩) ln cap] 27 (0, 0)) := hF.get 29 _ rfl (.inr p29)
                      subst eG29
                      have r29 : A.tmps[92]? = some (.slice (some ⟨G29, 0, none⟩) 1 1) := hR.own 29 _ _ rfl rfl
                      have p23 := hpre 23 (by kernel_rfl)
                      have e23 : s23 = .bool true := hF.get 23 _ rfl (.inr p23)
                      subst e23
                      have r23 : A.tmps[86]? = some (.bool true) := hR.own 23 _ _ rfl rfl
                      refine step_of ⟨some 93, _, _, _, _, _⟩ rfl (fun K' hK => ?_)
                      rw [if_pos (by simp [Region.wanted, yielded, r23])]
                      go_simp
                      go_at_call 10
                      (with_reducible refine (S1.on QrMd.out _ G29 _ _ hGB29 (HV.out.below (below_none hF.low)) (HE.out.below (below_none hF.low))).mono ?_)
                      rintro e Wq ⟨rfl, hq⟩
                      exact hK.out _ _ ⟨_, hF.pure hok hla hpre rfl hq, rfl⟩
                    · replace hge : 31 ≤ i := hgt
                      clear hgt
                      obtain rfl := eqi hi hge
                      have p27 := hpre 27 (by kernel_rfl)
                      have e27 : s27 = .agg #[.int .i64 1, .string (numS md), .string (denS md), .string { data := #[] }, .bool false, .int .i64 0, .int .i64 0, .int .i64 0, .slice none 0 0] := hF.get 27 _ rfl (.inr p27)
                      subst e27
                      have r27 : A.tmps[90]? = some (.agg #[.int .i64 1, .string (numS md), .string (denS md), .string { data := #[] }, .bool false, .int .i64 0, .int .i64 0, .int .i64 0, .slice none 0 0]) := hR.own 27 _ _ rfl rfl
                      have p30 := hpre 30 (by kernel_rfl)
                      have e30 : s30 = .agg #[.int .i64 1, .string (numS md), .string (denS md), .string { data := #[] }, .bool false, .int .i64 0, .int .i64 0, .int .i64 0, .slice none 0 0] := hF.get 30 _ rfl (.inr p30)
                      subst e30
                      have r30 : A.tmps[93]? = some (.agg #[.int .i64 1, .string (numS md), .string (denS md), .string { data := #[] }, .bool false, .int .i64 0, .int .i64 0, .int .i64 0, .slice none 0 0]) := hR.own 30 _ _ rfl rfl
                      have p23 := hpre 23 (by kernel_rfl)
                      have e23 : s23 = .bool true := hF.get 23 _ rfl (.inr p23)
                      subst e23
                      have r23 : A.tmps[86]? = some (.bool true) := hR.own 23 _ _ rfl rfl
                      refine step_of ⟨some 94, _, _, _, _, _⟩ rfl (fun K' hK => ?_)
                      rw [if_pos (by simp [Region.wanted, yielded, r23])]
                      go_simp
                      go_at_call 8
                      (with_reducible refine (same_one md _).mono ?_)
                      rintro e Wq ⟨rfl, hq⟩
                      exact hK.out _ _ ⟨_, hF.pure hok hla hpre rfl hq, rfl⟩
              · replace hge : 32 ≤ i := hgt
                clear hgt
                rcases Nat.lt_or_ge i 35 with hlt | hgt
                · replace hi := hlt
                  clear hlt
                  rcases Nat.lt_or_ge i 33 with hlt | hgt
                  · replace hi := hlt
                    clear hlt
                    obtain rfl := eqi hi hge
                    have p23 := hpre 23 (by kernel_rfl)
                    have e23 : s23 = .bool true := hF.get 23 _ rfl (.inr p23)
                    subst e23
                    have r23 : A.tmps[86]? = some (.bool true) := hR.own 23 _ _ rfl rfl
                    have p31 := hpre 31 (by kernel_rfl)
                    have e31 : s31 = .bool true := hF.get 31 _ rfl (.inr p31)
                    subst e31
                    have r31 : A.tmps[94]? = some (.bool true) := hR.own 31 _ _ rfl rfl
                    refine step_of ⟨some 95, _, _, _, _, _⟩ rfl (fun K' hK => ?_)
                    go_simp
                    exact hK.out _ _ ⟨_, hF.pure hok hla hpre rfl (Below.refl _ _), rfl⟩
                  · replace hge : 33 ≤ i := hgt
                    clear hgt
                    rcases Nat.lt_or_ge i 34 with hlt | hgt
                    · replace hi := hlt
                      clear hlt
                      obtain rfl := eqi hi hge
                      have p32 := hpre 32 (by kernel_rfl)
                      have e32 : s32 = .bool true := hF.get 32 _ rfl (.inr p32)
                      subst e32
                      have r32 : A.tmps[95]? = some (.bool true) := hR.own 32 _ _ rfl rfl
                      refine step_of ⟨some 96, _, _, _, _, _⟩ rfl (fun K' hK => ?_)
                      go_simp
                      exact hK.out _ _ ⟨_, hF.pure hok hla hpre rfl (Below.refl _ _), rfl⟩
                    · replace hge : 34 ≤ i := hgt
                      clear hgt
                      obtain rfl := eqi hi hge
                      have p33 := hpre 33 (by kernel_rfl)
                      have e33 : s33 = .bool true := hF.get 33 _ rfl (.inr p33)
                      subst e33
                      have r33 : A.tmps[96]? = some (.bool true) := hR.own 33 _ _ rfl rfl
                      have ro15 : A.tmps[15]? = some (.pointer (some ⟨B15, 0, none⟩)) := hR.out 7 _ rfl
                      have hcc := (nine_at (keep_block H15.out (below_none hF.low))).1
                      have cH150 := hcc.1
                      have cH151 := hcc.2.1
                      have cH152 := hcc.2.2.1
                      have cH153 := hcc.2.2.2.1
                      have cH154 := hcc.2.2.2.2.1
                      have cH155 := hcc.2.2.2.2.2.1
                      have cH156 := hcc.2.2.2.2.2.2.1
                      have cH157 := hcc.2.2.2.2.2.2.2.1
                      have cH158 := hcc.2.2.2.2.2.2.2.2
                      clear hcc
                      refine step_of ⟨some 97, _, _, _, _, _⟩ rfl (fun K' hK => ?_)
                      rw [if_pos (by simp [Region.wanted, yielded, r33])]
                      go_simp
                      exact hK.out _ _ ⟨_, hF.pure hok hla hpre rfl (Below.refl _ _), rfl⟩
                · replace hge : 35 ≤ i := hgt
                  clear hgt
                  rcases Nat.lt_or_ge i 37 with hlt | hgt
                  · replace hi := hlt
                    clear hlt
                    rcases Nat.lt_or_ge i 36 with hlt | hgt
                    · replace hi := hlt
                      clear hlt
                      obtain rfl := eqi hi hge
                      have p34 := hpre 34 (by kernel_rfl)
                      have e34 : s34 = .agg #[.int .i64 5, .string { data := #[] }, .string { data := #[] }, .string { data := #[] }, .bool false, .int .i64 0, .int .i64 2, .int .i64 1, .slice (some ⟨g2, 0, none⟩) 2 cap2] := hF.get 34 _ rfl (.inr p34)
                      subst e34
                      have r34 : A.tmps[97]? = some (.agg #[.int .i64 5, .string { data := #[] }, .string { data := #[] }, .string { data := #[] }, .bool false, .int .i64 0, .int .i64 2, .int .i64 1, .slice (some ⟨g2, 0, none⟩) 2 cap2]) := hR.own 34 _ _ rfl rfl
                      have p33 := hpre 33 (by kernel_rfl)
                      have e33 : s33 = .bool true := hF.get 33 _ rfl (.inr p33)
                      subst e33
                      have r33 : A.tmps[96]? = some (.bool true) := hR.own 33 _ _ rfl rfl
                      refine step_of ⟨some 98, _, _, _, _, _⟩ rfl (fun K' hK => ?_)
                      rw [if_pos (by simp [Region.wanted, yielded, r33])]
                      go_simp
                      exact hK.out _ _ ⟨_, hF.row hok hla hpre rfl, rfl⟩
                    · replace hge : 36 ≤ i := hgt
                      clear hgt
                      obtain rfl := eqi hi hge
                      have p35 := hpre 35 (by kernel_rfl)
                      obtain ⟨G35, eG35, _, hGB35⟩ : ∃ G, s35 = .slice (some ⟨G, 0, none⟩) 1 1 ∧ _ ≤ G ∧ Wr.heap[G]? = some (.cells #[.int .i64 5, .string { data := #[] }, .string { data := #[] }, .string { data := #[] }, .bool false, .int .i64 0, .int .i64 2, .int .i64 1, .slice (some ⟨g2, 0, none⟩) 2 cap2] 27 (0, 0)) := hF.get 35 _ rfl (.inr p35)
                      subst eG35
                      have r35 : A.tmps[98]? = some (.slice (some ⟨G35, 0, none⟩) 1 1) := hR.own 35 _ _ rfl rfl
                      have p33 := hpre 33 (by kernel_rfl)
                      have e33 : s33 = .bool true := hF.get 33 _ rfl (.inr p33)
                      subst e33
                      have r33 : A.tmps[96]? = some (.bool true) := hR.own 33 _ _ rfl rfl
                      refine step_of ⟨some 99, _, _, _, _, _⟩ rfl (fun K' hK => ?_)
                      rw [if_pos (by simp [Region.wanted, yielded, r33])]
                      go_simp
                      go_at_call 7
                      (with_reducible refine (M1.on QpS.out _ G35 _ _ hGB35 (HV2.out.below (below_none hF.low)) (HE.out.below (below_none hF.low))).mono ?_)
                      rintro e Wq ⟨rfl, hq⟩
                      exact hK.out _ _ ⟨_, hF.pure hok hla hpre rfl hq, rfl⟩
                  · replace hge : 37 ≤ i := hgt
                    clear hgt
                    rcases Nat.lt_or_ge i 38 with hlt | hgt
                    · replace hi := hlt
                      clear hlt
                      obtain rfl := eqi hi hge
                      have p33 := hpre 33 (by kernel_rfl)
                      have e33 : s33 = .bool true := hF.get 33 _ rfl (.inr p33)
                      subst e33
                      have r33 : A.tmps[96]? = some (.bool true) := hR.own 33 _ _ rfl rfl
                      have ro5 : A.tmps[5]? = some (.pointer (some ⟨B5, 0, none⟩)) := hR.out 3 _ rfl
                      refine step_of ⟨some 100, _, _, _, _, _⟩ rfl (fun K' hK => ?_)
                      rw [if_pos (by simp [Region.wanted, yielded, r33])]
                      go_simp
                      exact hK.out _ _ ⟨_, hF.pure hok hla hpre rfl (Below.refl _ _), rfl⟩
                    · replace hge : 38 ≤ i := hgt
                      clear hgt
                      obtain rfl := eqi hi hge
                      have p37 := hpre 37 (by kernel_rfl)
                      have e37 : s37 = .pointer (some ⟨B5, 6, none⟩) := hF.get 37 _ rfl (.inr p37)
                      subst e37
                      have r37 : A.tmps[100]? = some (.pointer (some ⟨B5, 6, none⟩)) := hR.own 37 _ _ rfl rfl
                      have p33 := hpre 33 (by kernel_rfl)
                      have e33 : s33 = .bool true := hF.get 33 _ rfl (.inr p33)
                      subst e33
                      have r33 : A.tmps[96]? = some (.bool true) := hR.own 33 _ _ rfl rfl
                      have hcc := (nine_at (keep_block H5.out (below_none hF.low))).1
                      have cH50 := hcc.1
                      have cH51 := hcc.2.1
                      have cH52 := hcc.2.2.1
                      have cH53 := hcc.2.2.2.1
                      have cH54 := hcc.2.2.2.2.1
                      have cH55 := hcc.2.2.2.2.2.1
                      have cH56 := hcc.2.2.2.2.2.2.1
                      have cH57 := hcc.2.2.2.2.2.2.2.1
                      have cH58 := hcc.2.2.2.2.2.2.2.2
                      clear hcc
                      refine step_of ⟨some 101, _, _, _, _, _⟩ rfl (fun K' hK => ?_)
                      rw [if_pos (by simp [Region.wanted, yielded, r33])]
                      go_simp
                      exact hK.out _ _ ⟨_, hF.pure hok hla hpre rfl (Below.refl _ _), rfl⟩
            · replace hge : 39 ≤ i := hgt
              clear hgt
              rcases Nat.lt_or_ge i 45 with hlt | hgt
              · replace hi := hlt
                clear hlt
                rcases Nat.lt_or_ge i 42 with hlt | hgt
                · replace hi := hlt
                  clear hlt
                  rcases Nat.lt_or_ge i 40 with hlt | hgt
                  · replace hi := hlt
                    clear hlt
                    obtain rfl := eqi hi hge
                    have p38 := hpre 38 (by kernel_rfl)
                    have e38 : s38 = .int .i64 (ln : Int) := hF.get 38 _ rfl (.inr p38)
                    subst e38
                    have r38 : A.tmps[101]? = some (.int .i64 (ln : Int)) := hR.own 38 _ _ rfl rfl
                    have p33 := hpre 33 (by kernel_rfl)
                    have e33 : s33 = .bool true := hF.get 33 _ rfl (.inr p33)
                    subst e33
                    have r33 : A.tmps[96]? = some (.bool true) := hR.own 33 _ _ rfl rfl
                    refine step_of ⟨some 102, _, _, _, _, _⟩ rfl (fun K' hK => ?_)
                    rw [if_pos (by simp [Region.wanted, yielded, r33])]
                    go_simp
                    go_at_call 6
                    (with_reducible refine (QtL.out _ ((HE.out.below (below_none hF.low))).env).mono ?_)
                    rintro e Wq ⟨rfl, hq⟩
                    exact hK.out _ _ ⟨_, hF.pure hok hla hpre rfl hq, rfl⟩
                  · replace hge : 40 ≤ i := hgt
                    clear hgt
                    rcases Nat.lt_or_ge i 41 with hlt | hgt
                    · replace hi := hlt
                      clear hlt
                      obtain rfl := eqi hi hge
                      have p36 := hpre 36 (by kernel_rfl)
                      have e36 : s36 = .agg #[.int .i64 1, .string (numS cn), .string (denS cn), .string { data := #[] }, .bool false, .int .i64 0, .int .i64 0, .int .i64 0, .slice none 0 0] := hF.get 36 _ rfl (.inr p36)
                      subst e36
                      have r36 : A.tmps[99]? = some (.agg #[.int .i64 1, .string (numS cn), .string (denS cn), .string { data := #[] }, .bool false, .int .i64 0, .int .i64 0, .int .i64 0, .slice none 0 0]) := hR.own 36 _ _ rfl rfl
                      have p39 := hpre 39 (by kernel_rfl)
                      have e39 : s39 = .agg #[.int .i64 1, .string (numS cn), .string (denS cn), .string { data := #[] }, .bool false, .int .i64 0, .int .i64 0, .int .i64 0, .slice none 0 0] := hF.get 39 _ rfl (.inr p39)
                      subst e39
                      have r39 : A.tmps[102]? = some (.agg #[.int .i64 1, .string (numS cn), .string (denS cn), .string { data := #[] }, .bool false, .int .i64 0, .int .i64 0, .int .i64 0, .slice none 0 0]) := hR.own 39 _ _ rfl rfl
                      have p33 := hpre 33 (by kernel_rfl)
                      have e33 : s33 = .bool true := hF.get 33 _ rfl (.inr p33)
                      subst e33
                      have r33 : A.tmps[96]? = some (.bool true) := hR.own 33 _ _ rfl rfl
                      refine step_of ⟨some 103, _, _, _, _, _⟩ rfl (fun K' hK => ?_)
                      rw [if_pos (by simp [Region.wanted, yielded, r33])]
                      go_simp
                      go_at_call 8
                      (with_reducible refine (same_one cn _).mono ?_)
                      rintro e Wq ⟨rfl, hq⟩
                      exact hK.out _ _ ⟨_, hF.pure hok hla hpre rfl hq, rfl⟩
                    · replace hge : 41 ≤ i := hgt
                      clear hgt
                      obtain rfl := eqi hi hge
                      have p33 := hpre 33 (by kernel_rfl)
                      have e33 : s33 = .bool true := hF.get 33 _ rfl (.inr p33)
                      subst e33
                      have r33 : A.tmps[96]? = some (.bool true) := hR.own 33 _ _ rfl rfl
                      have p40 := hpre 40 (by kernel_rfl)
                      have e40 : s40 = .bool true := hF.get 40 _ rfl (.inr p40)
                      subst e40
                      have r40 : A.tmps[103]? = some (.bool true) := hR.own 40 _ _ rfl rfl
                      refine step_of ⟨some 104, _, _, _, _, _⟩ rfl (fun K' hK => ?_)
                      go_simp
                      exact hK.out _ _ ⟨_, hF.pure hok hla hpre rfl (Below.refl _ _), rfl⟩
                · replace hge : 42 ≤ i := hgt
                  clear hgt
                  rcases Nat.lt_or_ge i 43 with hlt | hgt
                  · replace hi := hlt
                    clear hlt
                    obtain rfl := eqi hi hge
                    have p41 := hpre 41 (by kernel_rfl)
                    have e41 : s41 = .bool true := hF.get 41 _ rfl (.inr p41)
                    subst e41
                    have r41 : A.tmps[104]? = some (.bool true) := hR.own 41 _ _ rfl rfl
                    refine step_of ⟨some 105, _, _, _, _, _⟩ rfl (fun K' hK => ?_)
                    go_simp
                    exact hK.out _ _ ⟨_, hF.pure hok hla hpre rfl (Below.refl _ _), rfl⟩
                  · replace hge : 43 ≤ i := hgt
                    clear hgt
                    rcases Nat.lt_or_ge i 44 with hlt | hgt
                    · replace hi := hlt
                      clear hlt
                      obtain rfl := eqi hi hge
                      have p42 := hpre 42 (by kernel_rfl)
                      have e42 : s42 = .bool true := hF.get 42 _ rfl (.inr p42)
                      subst e42
                      have r42 : A.tmps[105]? = some (.bool true) := hR.own 42 _ _ rfl rfl
                      have ro5 : A.tmps[5]? = some (.pointer (some ⟨B5, 0, none⟩)) := hR.out 3 _ rfl
                      have hcc := (nine_at (keep_block H5.out (below_none hF.low))).1
                      have cH50 := hcc.1
                      have cH51 := hcc.2.1
                      have cH52 := hcc.2.2.1
                      have cH53 := hcc.2.2.2.1
                      have cH54 := hcc.2.2.2.2.1
                      have cH55 := hcc.2.2.2.2.2.1
                      have cH56 := hcc.2.2.2.2.2.2.1
                      have cH57 := hcc.2.2.2.2.2.2.2.1
                      have cH58 := hcc.2.2.2.2.2.2.2.2
                      clear hcc
                      refine step_of ⟨some 106, _, _, _, _, _⟩ rfl (fun K' hK => ?_)
                      rw [if_pos (by simp [Region.wanted, yielded, r42])]
                      go_simp
                      exact hK.out _ _ ⟨_, hF.pure hok hla hpre rfl (Below.refl _ _), rfl⟩
                    · replace hge : 44 ≤ i := hgt
                      clear hgt
                      obtain rfl := eqi hi hge
                      have p43 := hpre 43 (by kernel_rfl)
                      have e43 : s43 = .agg #[.int .i64 5, .string { data := #[] }, .string { data := #[] }, .string { data := #[] }, .bool false, .int .i64 0, .int .i64 (ln : Int), .int .i64 1, .slice (some ⟨g, 0, none⟩) ln cap] := hF.get 43 _ rfl (.inr p43)
                      subst e43
                      have r43 : A.tmps[106]? = some (.agg #[.int .i64 5, .string { data := #[] }, .string { data := #[] }, .string { data := #[] }, .bool false, .int .i64 0, .int .i64 (ln : Int), .int .i64 1, .slice (some ⟨g, 0, none⟩) ln cap]) := hR.own 43 _ _ rfl rfl
                      have p42 := hpre 42 (by kernel_rfl)
                      have e42 : s42 = .bool true := hF.get 42 _ rfl (.inr p42)
                      subst e42
                      have r42 : A.tmps[105]? = some (.bool true) := hR.own 42 _ _ rfl rfl
                      refine step_of ⟨some 107, _, _, _, _, _⟩ rfl (fun K' hK => ?_)
                      rw [if_pos (by simp [Region.wanted, yielded, r42])]
                      go_simp
                      exact hK.out _ _ ⟨_, hF.row hok hla hpre rfl, rfl⟩
              · replace hge : 45 ≤ i := hgt
                clear hgt
                rcases Nat.lt_or_ge i 48 with hlt | hgt
                · replace hi := hlt
                  clear hlt
                  rcases Nat.lt_or_ge i 46 with hlt | hgt
                  · replace hi := hlt
                    clear hlt
                    obtain rfl := eqi hi hge
                    have p44 := hpre 44 (by kernel_rfl)
                    obtain ⟨G44, eG44, _, hGB44⟩ : ∃ G, s44 = .slice (some ⟨G, 0, none⟩) 1 1 ∧ _ ≤ G ∧ Wr.heap[G]? = some (.cells #[.int .i64 5, .string { data := #[] }, .string { data := #[] }, .string { data := #[] }, .bool false, .int .i64 0, .int .i64 (ln : Int), .int .i64 1, .slice (some ⟨g, 0, none⟩) ln cap] 27 (0, 0)) := hF.get 44 _ rfl (.inr p44)
                    subst eG44
                    have r44 : A.tmps[107]? = some (.slice (some ⟨G44, 0, none⟩) 1 1) := hR.own 44 _ _ rfl rfl
                    have p42 := hpre 42 (by kernel_rfl)
                    have e42 : s42 = .bool true := hF.get 42 _ rfl (.inr p42)
                    subst e42
                    have r42 : A.tmps[105]? = some (.bool true) := hR.own 42 _ _ rfl rfl
                    refine step_of ⟨some 108, _, _, _, _, _⟩ rfl (fun K' hK => ?_)
                    rw [if_pos (by simp [Region.wanted, yielded, r42])]
                    go_simp
                    go_at_call 10
                    (with_reducible refine (S1.on QrCt.out _ G44 _ _ hGB44 (HV.out.below (below_none hF.low)) (HE.out.below (below_none hF.low))).mono ?_)
                    rintro e Wq ⟨rfl, hq⟩
                    exact hK.out _ _ ⟨_, hF.pure hok hla hpre rfl hq, rfl⟩
                  · replace hge : 46 ≤ i := hgt
                    clear hgt
                    rcases Nat.lt_or_ge i 47 with hlt | hgt
                    · replace hi := hlt
                      clear hlt
                      obtain rfl := eqi hi hge
                      have p42 := hpre 42 (by kernel_rfl)
                      have e42 : s42 = .bool true := hF.get 42 _ rfl (.inr p42)
                      subst e42
                      have r42 : A.tmps[105]? = some (.bool true) := hR.own 42 _ _ rfl rfl
                      have ro5 : A.tmps[5]? = some (.pointer (some ⟨B5, 0, none⟩)) := hR.out 3 _ rfl
                      refine step_of ⟨some 109, _, _, _, _, _⟩ rfl (fun K' hK => ?_)
                      rw [if_pos (by simp [Region.wanted, yielded, r42])]
                      go_simp
                      exact hK.out _ _ ⟨_, hF.pure hok hla hpre rfl (Below.refl _ _), rfl⟩
                    · replace hge : 47 ≤ i := hgt
                      clear hgt
                      obtain rfl := eqi hi hge
                      have p46 := hpre 46 (by kernel_rfl)
                      have e46 : s46 = .pointer (some ⟨B5, 6, none⟩) := hF.get 46 _ rfl (.inr p46)
                      subst e46
                      have r46 : A.tmps[109]? = some (.pointer (some ⟨B5, 6, none⟩)) := hR.own 46 _ _ rfl rfl
                      have p42 := hpre 42 (by kernel_rfl)
                      have e42 : s42 = .bool true := hF.get 42 _ rfl (.inr p42)
                      subst e42
                      have r42 : A.tmps[105]? = some (.bool true) := hR.own 42 _ _ rfl rfl
                      have hcc := (nine_at (keep_block H5.out (below_none hF.low))).1
                      have cH50 := hcc.1
                      have cH51 := hcc.2.1
                      have cH52 := hcc.2.2.1
                      have cH53 := hcc.2.2.2.1
                      have cH54 := hcc.2.2.2.2.1
                      have cH55 := hcc.2.2.2.2.2.1
                      have cH56 := hcc.2.2.2.2.2.2.1
                      have cH57 := hcc.2.2.2.2.2.2.2.1
                      have cH58 := hcc.2.2.2.2.2.2.2.2
                      clear hcc
                      refine step_of ⟨some 110, _, _, _, _, _⟩ rfl (fun K' hK => ?_)
                      rw [if_pos (by simp [Region.wanted, yielded, r42])]
                      go_simp
                      exact hK.out _ _ ⟨_, hF.pure hok hla hpre rfl (Below.refl _ _), rfl⟩
                · replace hge : 48 ≤ i := hgt
                  clear hgt
                  rcases Nat.lt_or_ge i 50 with hlt | hgt
                  · replace hi := hlt
                    clear hlt
                    rcases Nat.lt_or_ge i 49 with hlt | hgt
                    · replace hi := hlt
                      clear hlt
                      obtain rfl := eqi hi hge
                      have p47 := hpre 47 (by kernel_rfl)
                      have e47 : s47 = .int .i64 (ln : Int) := hF.get 47 _ rfl (.inr p47)
                      subst e47
                      have r47 : A.tmps[110]? = some (.int .i64 (ln : Int)) := hR.own 47 _ _ rfl rfl
                      have p42 := hpre 42 (by kernel_rfl)
                      have e42 : s42 = .bool true := hF.get 42 _ rfl (.inr p42)
                      subst e42
                      have r42 : A.tmps[105]? = some (.bool true) := hR.own 42 _ _ rfl rfl
                      refine step_of ⟨some 111, _, _, _, _, _⟩ rfl (fun K' hK => ?_)
                      rw [if_pos (by simp [Region.wanted, yielded, r42])]
                      go_simp
                      go_at_call 6
                      (with_reducible refine (QtL.out _ ((HE.out.below (below_none hF.low))).env).mono ?_)
                      rintro e Wq ⟨rfl, hq⟩
                      exact hK.out _ _ ⟨_, hF.pure hok hla hpre rfl hq, rfl⟩
                    · replace hge : 49 ≤ i := hgt
                      clear hgt
                      obtain rfl := eqi hi hge
                      have p45 := hpre 45 (by kernel_rfl)
                      have e45 : s45 = .agg #[.int .i64 1, .string (numS cn), .string (denS cn), .string { data := #[] }, .bool false, .int .i64 0, .int .i64 0, .int .i64 0, .slice none 0 0] := hF.get 45 _ rfl (.inr p45)
                      subst e45
                      have r45 : A.tmps[108]? = some (.agg #[.int .i64 1, .string (numS cn), .string (denS cn), .string { data := #[] }, .bool false, .int .i64 0, .int .i64 0, .int .i64 0, .slice none 0 0]) := hR.own 45 _ _ rfl rfl
                      have p48 := hpre 48 (by kernel_rfl)
                      have e48 : s48 = .agg #[.int .i64 1, .string (numS cn), .string (denS cn), .string { data := #[] }, .bool false, .int .i64 0, .int .i64 0, .int .i64 0, .slice none 0 0] := hF.get 48 _ rfl (.inr p48)
                      subst e48
                      have r48 : A.tmps[111]? = some (.agg #[.int .i64 1, .string (numS cn), .string (denS cn), .string { data := #[] }, .bool false, .int .i64 0, .int .i64 0, .int .i64 0, .slice none 0 0]) := hR.own 48 _ _ rfl rfl
                      have p42 := hpre 42 (by kernel_rfl)
                      have e42 : s42 = .bool true := hF.get 42 _ rfl (.inr p42)
                      subst e42
                      have r42 : A.tmps[105]? = some (.bool true) := hR.own 42 _ _ rfl rfl
                      refine step_of ⟨some 112, _, _, _, _, _⟩ rfl (fun K' hK => ?_)
                      rw [if_pos (by simp [Region.wanted, yielded, r42])]
                      go_simp
                      go_at_call 8
                      (with_reducible refine (same_one cn _).mono ?_)
                      rintro e Wq ⟨rfl, hq⟩
                      exact hK.out _ _ ⟨_, hF.pure hok hla hpre rfl hq, rfl⟩
                  · replace hge : 50 ≤ i := hgt
                    clear hgt
                    rcases Nat.lt_or_ge i 51 with hlt | hgt
                    · replace hi := hlt
                      clear hlt
                      obtain rfl := eqi hi hge
                      have p42 := hpre 42 (by kernel_rfl)
                      have e42 : s42 = .bool true := hF.get 42 _ rfl (.inr p42)
                      subst e42
                      have r42 : A.tmps[105]? = some (.bool true) := hR.own 42 _ _ rfl rfl
                      have p49 := hpre 49 (by kernel_rfl)
                      have e49 : s49 = .bool true := hF.get 49 _ rfl (.inr p49)
                      subst e49
                      have r49 : A.tmps[112]? = some (.bool true) := hR.own 49 _ _ rfl rfl
                      refine step_of ⟨some 113, _, _, _, _, _⟩ rfl (fun K' hK => ?_)
                      go_simp
                      exact hK.out _ _ ⟨_, hF.pure hok hla hpre rfl (Below.refl _ _), rfl⟩
                    · replace hge : 51 ≤ i := hgt
                      clear hgt
                      obtain rfl := eqi hi hge
                      have p50 := hpre 50 (by kernel_rfl)
                      have e50 : s50 = .bool true := hF.get 50 _ rfl (.inr p50)
                      subst e50
                      have r50 : A.tmps[113]? = some (.bool true) := hR.own 50 _ _ rfl rfl
                      refine step_of ⟨some 4, _, _, _, _, _⟩ rfl (fun K' hK => ?_)
                      go_simp
                      exact hK.out _ _ ⟨_, hF.pure hok hla hpre rfl (Below.refl _ _), rfl⟩
        case hd =>
          rintro listed vs WE hF hall
          obtain ⟨s0, s1, s2, s3, s4, s5, s6, s7, s8, s9, s10, s11, s12, s13, s14, s15, s16, s17, s18, s19, s20, s21, s22, s23, s24, s25, s26, s27, s28, s29, s30, s31, s32, s33, s34, s35, s36, s37, s38, s39, s40, s41, s42, s43, s44, s45, s46, s47, s48, s49, s50, s51, hvs⟩ := exl_of 52 vs (fun l => vs = l) hF.len rfl
          subst hvs
          have e51 : s51 = .bool true := hF.get 51 _ rfl (.inr (hall 51 (by decide)))
          subst e51
          have hq := below_none hF.low
          replace HE := Lib.hid (HE.out.below hq)
          replace HL := Lib.hid (HL.out.trans (hq.mono HL.out.size))
          clear hq
          clear hF hall hok hla hna
          refine rest_end ?_
          simp only [putO, layL]
          go_wp2
          go_ret
          exact ⟨rfl, HL.out⟩
end Go.Proofs.YtgponoogifeopaaGreatDoor.Num.Ft
