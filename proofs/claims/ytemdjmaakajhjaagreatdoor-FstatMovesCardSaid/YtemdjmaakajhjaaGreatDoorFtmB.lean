/- Numbers as texts of digits, fractions, values and the functions of fmath: contracts of the program's functions, joined from smaller texts. Conditions stand at each theorem. -/
import Derived.Test.YtemdjmaakajhjaaGreatDoorFtcB
import Derived.Test.YtemdjmaakajhjaaGreatDoorFtbA
import Derived.Test.YtemdjmaakajhjaaGreatDoorFtmA
import Derived.Test.YtemdjmaakajhjaaGreatDoorFtcA
import Derived.Deep.DeepCutAuto

/- The law FstatMoves' own walk. Conditions: what the functions give; the tables lie as they are laid. -/
namespace Go.Proofs.YtemdjmaakajhjaaGreatDoor.Num.Ft
open Go.RowKit Go.Lib Num

/-- what the law's stat gives at one array -/
def R1 (nm : ByteArray) (ln : Nat) (qs : List Rat) (q : Rat) : Prop := ∀ (W : World) (G g cap : Nat), W.heap[G]? = some (.cells #[.int .i64 5, .string { data := #[] }, .string { data := #[] }, .string { data := #[] }, .bool false, .int .i64 0, .int .i64 1, .int .i64 (ln : Int), .slice (some ⟨g, 0, none⟩) ln cap] 27 (0, 0)) → ValsAt W g 0 (numVals qs) → Env W → Calls Tryz.prog 9 #[.string nm, .slice (some ⟨G, 0, none⟩) 1 1] W fun e w' => e = .returned (.agg #[.int .i64 1, .string (numS q), .string (denS q), .string { data := #[] }, .bool false, .int .i64 0, .int .i64 0, .int .i64 0, .slice none 0 0]) ∧ Below W.heap.size W w'
theorem R1.on {nm : ByteArray} {ln : Nat} {qs : List Rat} {q : Rat} (T : R1 nm ln qs q) (W : World) (G g cap : Nat) (h : W.heap[G]? = some (.cells #[.int .i64 5, .string { data := #[] }, .string { data := #[] }, .string { data := #[] }, .bool false, .int .i64 0, .int .i64 1, .int .i64 (ln : Int), .slice (some ⟨g, 0, none⟩) ln cap] 27 (0, 0))) (hv : ValsAt W g 0 (numVals qs)) (hE : Env W) :
    Calls Tryz.prog 9 #[.string nm, .slice (some ⟨G, 0, none⟩) 1 1] W fun e w' => e = .returned (.agg #[.int .i64 1, .string (numS q), .string (denS q), .string { data := #[] }, .bool false, .int .i64 0, .int .i64 0, .int .i64 0, .slice none 0 0]) ∧ Below W.heap.size W w' := T W G g cap h hv hE
theorem R1.at {nm : ByteArray} {ln : Nat} {qs : List Rat} {q : Rat} (T : R1 nm ln qs q) (W : World) (g cap : Nat) (hv : ValsAt W g 0 (numVals qs)) (hE : Env W) :
    Calls Tryz.prog 9 #[.string nm, .slice (some ⟨W.heap.size, 0, none⟩) 1 1] (W.alloc (.cells #[.int .i64 5, .string { data := #[] }, .string { data := #[] }, .string { data := #[] }, .bool false, .int .i64 0, .int .i64 1, .int .i64 (ln : Int), .slice (some ⟨g, 0, none⟩) ln cap] 27)) fun e w' => e = .returned (.agg #[.int .i64 1, .string (numS q), .string (denS q), .string { data := #[] }, .bool false, .int .i64 0, .int .i64 0, .int .i64 0, .slice none 0 0]) ∧ Below W.heap.size W w' := by
  have hb : Below W.heap.size W (W.alloc (.cells #[.int .i64 5, .string { data := #[] }, .string { data := #[] }, .string { data := #[] }, .bool false, .int .i64 0, .int .i64 1, .int .i64 (ln : Int), .slice (some ⟨g, 0, none⟩) ln cap] 27)) := (Below.refl _ _).alloc (Nat.le_refl _) _
  exact (T _ _ g cap (heap_alloc_new W _) (hv.below hb) (hE.below hb)).mono fun e w' h => ⟨h.1, hb.trans (h.2.mono hb.size)⟩
/-- what it gives at two arrays that are one -/
def R2 (nm : ByteArray) (ln : Nat) (qs : List Rat) (q : Rat) : Prop := ∀ (W : World) (G g cap : Nat), W.heap[G]? = some (.cells #[.int .i64 5, .string { data := #[] }, .string { data := #[] }, .string { data := #[] }, .bool false, .int .i64 0, .int .i64 1, .int .i64 (ln : Int), .slice (some ⟨g, 0, none⟩) ln cap, .int .i64 5, .string { data := #[] }, .string { data := #[] }, .string { data := #[] }, .bool false, .int .i64 0, .int .i64 1, .int .i64 (ln : Int), .slice (some ⟨g, 0, none⟩) ln cap] 27 (0, 0)) → ValsAt W g 0 (numVals qs) → Env W → Calls Tryz.prog 9 #[.string nm, .slice (some ⟨G, 0, none⟩) 2 2] W fun e w' => e = .returned (.agg #[.int .i64 1, .string (numS q), .string (denS q), .string { data := #[] }, .bool false, .int .i64 0, .int .i64 0, .int .i64 0, .slice none 0 0]) ∧ Below W.heap.size W w'
theorem R2.on {nm : ByteArray} {ln : Nat} {qs : List Rat} {q : Rat} (T : R2 nm ln qs q) (W : World) (G g cap : Nat) (h : W.heap[G]? = some (.cells #[.int .i64 5, .string { data := #[] }, .string { data := #[] }, .string { data := #[] }, .bool false, .int .i64 0, .int .i64 1, .int .i64 (ln : Int), .slice (some ⟨g, 0, none⟩) ln cap, .int .i64 5, .string { data := #[] }, .string { data := #[] }, .string { data := #[] }, .bool false, .int .i64 0, .int .i64 1, .int .i64 (ln : Int), .slice (some ⟨g, 0, none⟩) ln cap] 27 (0, 0))) (hv : ValsAt W g 0 (numVals qs)) (hE : Env W) :
    Calls Tryz.prog 9 #[.string nm, .slice (some ⟨G, 0, none⟩) 2 2] W fun e w' => e = .returned (.agg #[.int .i64 1, .string (numS q), .string (denS q), .string { data := #[] }, .bool false, .int .i64 0, .int .i64 0, .int .i64 0, .slice none 0 0]) ∧ Below W.heap.size W w' := T W G g cap h hv hE
/-- what the law's math gives at two numbers -/
def P2 (nm : ByteArray) (x y q : Rat) : Prop := ∀ (W : World) (G : Nat), W.heap[G]? = some (.cells #[.int .i64 1, .string (numS x), .string (denS x), .string { data := #[] }, .bool false, .int .i64 0, .int .i64 0, .int .i64 0, .slice none 0 0, .int .i64 1, .string (numS y), .string (denS y), .string { data := #[] }, .bool false, .int .i64 0, .int .i64 0, .int .i64 0, .slice none 0 0] 27 (0, 0)) → Env W → Calls Tryz.prog 12 #[.string nm, .slice (some ⟨G, 0, none⟩) 2 2] W fun e w' => e = .returned (.agg #[.int .i64 1, .string (numS q), .string (denS q), .string { data := #[] }, .bool false, .int .i64 0, .int .i64 0, .int .i64 0, .slice none 0 0]) ∧ Below W.heap.size W w'
theorem P2.on {nm : ByteArray} {x y q : Rat} (T : P2 nm x y q) (W : World) (G : Nat) (h : W.heap[G]? = some (.cells #[.int .i64 1, .string (numS x), .string (denS x), .string { data := #[] }, .bool false, .int .i64 0, .int .i64 0, .int .i64 0, .slice none 0 0, .int .i64 1, .string (numS y), .string (denS y), .string { data := #[] }, .bool false, .int .i64 0, .int .i64 0, .int .i64 0, .slice none 0 0] 27 (0, 0))) (hE : Env W) :
    Calls Tryz.prog 12 #[.string nm, .slice (some ⟨G, 0, none⟩) 2 2] W fun e w' => e = .returned (.agg #[.int .i64 1, .string (numS q), .string (denS q), .string { data := #[] }, .bool false, .int .i64 0, .int .i64 0, .int .i64 0, .slice none 0 0]) ∧ Below W.heap.size W w' := T W G h hE
/-- what the law's array gives: a number or a row of numbers -/
def ArrC (w : World) (src : Value) (qs : List Rat) : Prop := ∀ W, Below w.heap.size w W → Env W → Calls Tryz.prog 6 #[src] W fun e w' => ∃ (v : Val) (s : Int), e = .returned (.agg #[.int .i64 v.k, .string v.n, .string v.d, .string v.t, .bool v.on, .int .i64 v.c, .int .i64 v.r, .int .i64 v.s, .slice v.A v.L v.C]) ∧ PArg w' v 1 s qs ∧ Below W.heap.size W w'
attribute [local irreducible] wpOp
set_option linter.unusedVariables false in
/-- what the operations of region 10 yield -/
def MovKs10 (x d p : Rat) (BB k cv : Nat) (av : Option Addr) : List RK :=
  [.pure (.pointer (some ⟨BB, 8, none⟩)),
   .pure (.slice av k cv),
   .pure (.agg #[.int .i64 1, .string (numS x), .string (denS x), .string { data := #[] }, .bool false, .int .i64 0, .int .i64 0, .int .i64 0, .slice none 0 0]),
   .pure (.agg #[.int .i64 1, .string (numS d), .string (denS d), .string { data := #[] }, .bool false, .int .i64 0, .int .i64 0, .int .i64 0, .slice none 0 0]),
   .pure (.agg #[.int .i64 1, .string (numS p), .string (denS p), .string { data := #[] }, .bool false, .int .i64 0, .int .i64 0, .int .i64 0, .slice none 0 0]),
   .row #[.int .i64 1, .string (numS p), .string (denS p), .string { data := #[] }, .bool false, .int .i64 0, .int .i64 0, .int .i64 0, .slice none 0 0] 27 1,
   .put 0,
   .put 0,
   .put 0]
set_option linter.unusedVariables false in
/-- what the operations of region 15 yield -/
def MovKs15 (k g cap g2 cap2 B5 BB : Nat) (d m kk u y vp m2 cn : Rat) (w1 w2 : World) : List RK :=
  [.pure (.agg #[.int .i64 5, .string { data := #[] }, .string { data := #[] }, .string { data := #[] }, .bool false, .int .i64 0, .int .i64 1, .int .i64 (k : Int), .slice (some ⟨g, 0, none⟩) k cap]),
   .row #[.int .i64 5, .string { data := #[] }, .string { data := #[] }, .string { data := #[] }, .bool false, .int .i64 0, .int .i64 1, .int .i64 (k : Int), .slice (some ⟨g, 0, none⟩) k cap] 27 1,
   .pure (.agg #[.int .i64 1, .string (numS kk), .string (denS kk), .string { data := #[] }, .bool false, .int .i64 0, .int .i64 0, .int .i64 0, .slice none 0 0]),
   .pure (.pointer (some ⟨B5, 7, none⟩)),
   .pure (.int .i64 (k : Int)),
   .pure (.int .i64 ((k : Int) - 1)),
   .pure (.agg #[.int .i64 1, .string (numS cn), .string (denS cn), .string { data := #[] }, .bool false, .int .i64 0, .int .i64 0, .int .i64 0, .slice none 0 0]),
   .box none #[.int .i64 0, .string { data := #[] }, .string { data := #[] }, .string { data := #[] }, .bool false, .int .i64 0, .int .i64 0, .int .i64 0, .slice none 0 0] #[.int .i64 1, .string (numS kk), .string (denS kk), .string { data := #[] }, .bool false, .int .i64 0, .int .i64 0, .int .i64 0, .slice none 0 0] 27 9,
   .box none #[.int .i64 0, .string { data := #[] }, .string { data := #[] }, .string { data := #[] }, .bool false, .int .i64 0, .int .i64 0, .int .i64 0, .slice none 0 0] #[.int .i64 1, .string (numS cn), .string (denS cn), .string { data := #[] }, .bool false, .int .i64 0, .int .i64 0, .int .i64 0, .slice none 0 0] 27 10,
   .put 7,
   .put 8]
set_option linter.unusedVariables false in
/-- what the operations of region 16 yield -/
def MovKs16 (k g cap g2 cap2 B5 BB : Nat) (d m kk u y vp m2 cn : Rat) (w1 w2 : World) : List RK :=
  [.pure (.agg #[.int .i64 5, .string { data := #[] }, .string { data := #[] }, .string { data := #[] }, .bool false, .int .i64 0, .int .i64 1, .int .i64 (k : Int), .slice (some ⟨g2, 0, none⟩) k cap2]),
   .row #[.int .i64 5, .string { data := #[] }, .string { data := #[] }, .string { data := #[] }, .bool false, .int .i64 0, .int .i64 1, .int .i64 (k : Int), .slice (some ⟨g2, 0, none⟩) k cap2] 27 1,
   .pure (.agg #[.int .i64 1, .string (numS m2), .string (denS m2), .string { data := #[] }, .bool false, .int .i64 0, .int .i64 0, .int .i64 0, .slice none 0 0]),
   .pure (.agg #[.int .i64 1, .string (numS m), .string (denS m), .string { data := #[] }, .bool false, .int .i64 0, .int .i64 0, .int .i64 0, .slice none 0 0]),
   .pure (.agg #[.int .i64 1, .string (numS d), .string (denS d), .string { data := #[] }, .bool false, .int .i64 0, .int .i64 0, .int .i64 0, .slice none 0 0]),
   .pure (.agg #[.int .i64 1, .string (numS m2), .string (denS m2), .string { data := #[] }, .bool false, .int .i64 0, .int .i64 0, .int .i64 0, .slice none 0 0]),
   .pure (.bool true),
   .pure (.bool true),
   .pure (.agg #[.int .i64 5, .string { data := #[] }, .string { data := #[] }, .string { data := #[] }, .bool false, .int .i64 0, .int .i64 1, .int .i64 (k : Int), .slice (some ⟨g2, 0, none⟩) k cap2]),
   .row #[.int .i64 5, .string { data := #[] }, .string { data := #[] }, .string { data := #[] }, .bool false, .int .i64 0, .int .i64 1, .int .i64 (k : Int), .slice (some ⟨g2, 0, none⟩) k cap2] 27 1,
   .pure (.agg #[.int .i64 1, .string (numS kk), .string (denS kk), .string { data := #[] }, .bool false, .int .i64 0, .int .i64 0, .int .i64 0, .slice none 0 0]),
   .pure (.agg #[.int .i64 1, .string (numS kk), .string (denS kk), .string { data := #[] }, .bool false, .int .i64 0, .int .i64 0, .int .i64 0, .slice none 0 0]),
   .pure (.bool true),
   .pure (.bool true),
   .pure (.bool true),
   .pure (.agg #[.int .i64 5, .string { data := #[] }, .string { data := #[] }, .string { data := #[] }, .bool false, .int .i64 0, .int .i64 1, .int .i64 (k : Int), .slice (some ⟨g2, 0, none⟩) k cap2]),
   .row #[.int .i64 5, .string { data := #[] }, .string { data := #[] }, .string { data := #[] }, .bool false, .int .i64 0, .int .i64 1, .int .i64 (k : Int), .slice (some ⟨g2, 0, none⟩) k cap2] 27 1,
   .pure (.agg #[.int .i64 1, .string (numS u), .string (denS u), .string { data := #[] }, .bool false, .int .i64 0, .int .i64 0, .int .i64 0, .slice none 0 0]),
   .pure (.agg #[.int .i64 5, .string { data := #[] }, .string { data := #[] }, .string { data := #[] }, .bool false, .int .i64 0, .int .i64 1, .int .i64 (k : Int), .slice (some ⟨g, 0, none⟩) k cap]),
   .row #[.int .i64 5, .string { data := #[] }, .string { data := #[] }, .string { data := #[] }, .bool false, .int .i64 0, .int .i64 1, .int .i64 (k : Int), .slice (some ⟨g, 0, none⟩) k cap] 27 1,
   .pure (.agg #[.int .i64 1, .string (numS u), .string (denS u), .string { data := #[] }, .bool false, .int .i64 0, .int .i64 0, .int .i64 0, .slice none 0 0]),
   .pure (.bool true),
   .pure (.bool true),
   .pure (.bool true),
   .pure (.agg #[.int .i64 1, .string (numS kk), .string (denS kk), .string { data := #[] }, .bool false, .int .i64 0, .int .i64 0, .int .i64 0, .slice none 0 0]),
   .pure (.agg #[.int .i64 1, .string (numS cn), .string (denS cn), .string { data := #[] }, .bool false, .int .i64 0, .int .i64 0, .int .i64 0, .slice none 0 0]),
   .row #[.int .i64 1, .string (numS kk), .string (denS kk), .string { data := #[] }, .bool false, .int .i64 0, .int .i64 0, .int .i64 0, .slice none 0 0, .int .i64 1, .string (numS cn), .string (denS cn), .string { data := #[] }, .bool false, .int .i64 0, .int .i64 0, .int .i64 0, .slice none 0 0] 27 2,
   .pure (.agg #[.int .i64 1, .string (numS y), .string (denS y), .string { data := #[] }, .bool false, .int .i64 0, .int .i64 0, .int .i64 0, .slice none 0 0]),
   .pure (.agg #[.int .i64 5, .string { data := #[] }, .string { data := #[] }, .string { data := #[] }, .bool false, .int .i64 0, .int .i64 1, .int .i64 (k : Int), .slice (some ⟨g, 0, none⟩) k cap]),
   .row #[.int .i64 5, .string { data := #[] }, .string { data := #[] }, .string { data := #[] }, .bool false, .int .i64 0, .int .i64 1, .int .i64 (k : Int), .slice (some ⟨g, 0, none⟩) k cap] 27 1,
   .pure (.agg #[.int .i64 1, .string (numS y), .string (denS y), .string { data := #[] }, .bool false, .int .i64 0, .int .i64 0, .int .i64 0, .slice none 0 0]),
   .pure (.bool true),
   .pure (.bool true),
   .pure (.bool true),
   .pure (.agg #[.int .i64 5, .string { data := #[] }, .string { data := #[] }, .string { data := #[] }, .bool false, .int .i64 0, .int .i64 1, .int .i64 (k : Int), .slice (some ⟨g, 0, none⟩) k cap]),
   .pure (.agg #[.int .i64 5, .string { data := #[] }, .string { data := #[] }, .string { data := #[] }, .bool false, .int .i64 0, .int .i64 1, .int .i64 (k : Int), .slice (some ⟨g, 0, none⟩) k cap]),
   .row #[.int .i64 5, .string { data := #[] }, .string { data := #[] }, .string { data := #[] }, .bool false, .int .i64 0, .int .i64 1, .int .i64 (k : Int), .slice (some ⟨g, 0, none⟩) k cap, .int .i64 5, .string { data := #[] }, .string { data := #[] }, .string { data := #[] }, .bool false, .int .i64 0, .int .i64 1, .int .i64 (k : Int), .slice (some ⟨g, 0, none⟩) k cap] 27 2,
   .pure (.agg #[.int .i64 1, .string (numS vp), .string (denS vp), .string { data := #[] }, .bool false, .int .i64 0, .int .i64 0, .int .i64 0, .slice none 0 0]),
   .pure (.agg #[.int .i64 5, .string { data := #[] }, .string { data := #[] }, .string { data := #[] }, .bool false, .int .i64 0, .int .i64 1, .int .i64 (k : Int), .slice (some ⟨g, 0, none⟩) k cap]),
   .row #[.int .i64 5, .string { data := #[] }, .string { data := #[] }, .string { data := #[] }, .bool false, .int .i64 0, .int .i64 1, .int .i64 (k : Int), .slice (some ⟨g, 0, none⟩) k cap] 27 1,
   .pure (.agg #[.int .i64 1, .string (numS vp), .string (denS vp), .string { data := #[] }, .bool false, .int .i64 0, .int .i64 0, .int .i64 0, .slice none 0 0]),
   .pure (.bool true),
   .pure (.bool true),
   .pure (.bool true)]
set_option linter.unusedSimpArgs false in
set_option linter.unusedVariables false in
set_option maxHeartbeats 16000000 in
set_option maxRecDepth 100000 in
theorem moves_walk (A : Option Addr) (L C ln : Nat) (z : Int) (qs0 qs ps : List Rat) (d m kk u y vp m2 cn : Rat) (w : World) (hE : EnvY w)
    (hA : ArrC w (.slice A L C) qs0)
    (hqs : qs = if 2 ≤ qs0.length then qs0 else [hundredths 1, hundredths 5])
    (hln : qs.length = ln)
    (hl2 : 2 ≤ ln)
    (hl9 : ln ≤ 12)
    (hps : ps.length = ln)
    (tN : Fun1 7 (.int .i64 z) (.agg #[.int .i64 1, .string (numS d), .string (denS d), .string { data := #[] }, .bool false, .int .i64 0, .int .i64 0, .int .i64 0, .slice none 0 0]))
    (tP : ∀ (i : Nat) (h : i < qs.length) (h' : i < ps.length), Fun2 8 (numVal qs[i]) (numVal d) (numVal ps[i]))
    (rA : R1 { data := #[65, 86, 69, 82, 65, 71, 69] } ln qs m)
    (rV : R1 { data := #[86, 65, 82] } ln qs kk)
    (rD : R1 { data := #[65, 86, 69, 68, 69, 86] } ln qs u)
    (rQ : R1 { data := #[68, 69, 86, 83, 81] } ln qs y)
    (rP : R1 { data := #[86, 65, 82, 80] } ln qs vp)
    (rC : R2 { data := #[67, 79, 86, 65, 82] } ln qs vp)
    (rA2 : R1 { data := #[65, 86, 69, 82, 65, 71, 69] } ln ps m2)
    (rV2 : R1 { data := #[86, 65, 82] } ln ps kk)
    (rD2 : R1 { data := #[65, 86, 69, 68, 69, 86] } ln ps u)
    (tM : Fun2 8 (.agg #[.int .i64 1, .string (numS m), .string (denS m), .string { data := #[] }, .bool false, .int .i64 0, .int .i64 0, .int .i64 0, .slice none 0 0]) (.agg #[.int .i64 1, .string (numS d), .string (denS d), .string { data := #[] }, .bool false, .int .i64 0, .int .i64 0, .int .i64 0, .slice none 0 0]) (.agg #[.int .i64 1, .string (numS m2), .string (denS m2), .string { data := #[] }, .bool false, .int .i64 0, .int .i64 0, .int .i64 0, .slice none 0 0]))
    (tW : Fun1 10 (.int .i64 ((ln : Int) - 1)) (.agg #[.int .i64 1, .string (numS cn), .string (denS cn), .string { data := #[] }, .bool false, .int .i64 0, .int .i64 0, .int .i64 0, .slice none 0 0]))
    (pK : P2 { data := #[80, 82, 79, 68, 85, 67, 84] } kk cn y) :
    Calls Tryz.prog 3 #[.slice A L C, .int .i64 z] w fun e w' => e = .returned (.bool true) ∧ Below w.heap.size w w' := by
  have QhA := Lib.hid hA
  have Qhqs := Lib.hid hqs
  have Qhln := Lib.hid hln
  have Qhps := Lib.hid hps
  have QtN := Lib.hid tN
  have QtP := Lib.hid tP
  have QrA := Lib.hid rA
  have QrV := Lib.hid rV
  have QrD := Lib.hid rD
  have QrQ := Lib.hid rQ
  have QrP := Lib.hid rP
  have QrC := Lib.hid rC
  have QrA2 := Lib.hid rA2
  have QrV2 := Lib.hid rV2
  have QrD2 := Lib.hid rD2
  have QtM := Lib.hid tM
  have QtW := Lib.hid tW
  have QpK := Lib.hid pK
  unfold ArrC at QhA
  unfold Fun1 at QtN QtW
  unfold Fun2 at QtM
  have HW := Lib.hid hE
  have hwl : IntKind.i64.wrap ((ln : Int) - 1) = (ln : Int) - 1 := IntWalk.i64_in _ (by omega)
  have h12 : ∀ (W : World) (G : Nat), Env W → W.heap[G]? = some (.cells #[.int .i64 1, .int .i64 5] 3 (0, 0)) → Calls Tryz.prog 6 #[.slice (some ⟨G, 0, none⟩) 2 2] W fun e w' => ∃ (v : Val) (s : Int), e = .returned (.agg #[.int .i64 v.k, .string v.n, .string v.d, .string v.t, .bool v.on, .int .i64 v.c, .int .i64 v.r, .int .i64 v.s, .slice v.A v.L v.C]) ∧ PArg w' v 1 s [hundredths 1, hundredths 5] ∧ Below W.heap.size W w' := by
    intro W G ge hG
    exact karr_some ⟨G, 0, none⟩ [1, 5] 2 2 W rfl (by decide) (by decide) (Nat.le_refl _) (by intro n hn; simp only [List.mem_cons, List.not_mem_nil, or_false] at hn; rcases hn with rfl | rfl <;> decide) (by
      intro i hi
      rw [addr_add]
      match i, hi with
      | 0, _ => exact Lib.cell_of_heap hG 0
      | 1, _ => exact Lib.cell_of_heap hG 1) ge
  have Q12 := Lib.hid h12
  have HE := Lib.hid hE
  have HL := Lib.hid (Below.refl w.heap.size w)
  obtain ⟨i0, hi0', hz0, hz1, hz2⟩ := info_val
  clear h12 hE hA hqs hln hps tN tP rA rV rD rQ rP rC rA2 rV2 rD2 tM tW pK
  go_enter Tryz.func3, Tryz.ntmps3
  go_wp2_with fail
  refine (QhA.out _ (Below.refl _ _) HE.out).mono ?_
  rintro e w1 ⟨v, s, rfl, hP, hq⟩
  have HP := Lib.hid hP
  have hb : Below w1.heap.size w1 (w1.alloc (.cells #[.int .i64 v.k, .string v.n, .string v.d, .string v.t, .bool v.on, .int .i64 v.c, .int .i64 v.r, .int .i64 v.s, .slice v.A v.L v.C] 27)) := (Below.refl _ _).alloc (Nat.le_refl _) _
  have H5 := Lib.hid (heap_alloc_new w1 (.cells #[.int .i64 v.k, .string v.n, .string v.d, .string v.t, .bool v.on, .int .i64 v.c, .int .i64 v.r, .int .i64 v.s, .slice v.A v.L v.C] 27))
  have HE := Lib.hid (HW.out.below (hq.trans (hb.mono hq.size)))
  have HL := Lib.hid (hq.trans (hb.mono hq.size))
  obtain ⟨B5, hB⟩ : ∃ B5, w1.heap.size = B5 := ⟨_, rfl⟩
  obtain ⟨W1, hW⟩ : ∃ Z, w1.alloc (.cells #[.int .i64 v.k, .string v.n, .string v.d, .string v.t, .bool v.on, .int .i64 v.c, .int .i64 v.r, .int .i64 v.s, .slice v.A v.L v.C] 27) = Z := ⟨_, rfl⟩
  replace HP := Lib.hid (hP.below hb)
  rw [hW] at H5 HE HL HP
  rw [hB] at H5
  have EW := Lib.hid hW
  have EB := Lib.hid hB
  have GE5 := Lib.hid (show w.heap.size ≤ B5 from by rw [← hB]; exact hq.size)
  clear hb hP hq hW hB
  go_upto_region 2 with fail
  rw [EW.out, EB.out]
  go_cut [22] (fun v22 wx => v22 = .bool (!(decide (v.k = 5) && decide (2 ≤ v.s))) ∧ wx = W1)
  case first =>
    obtain ⟨⟨c0, c1, c2, c3, c4, c5, c6, c7, c8⟩, _⟩ := nine_at H5.out
    by_cases hk : v.k = 5
    · have hk1 : (v.k != 5) = false := by simp [hk]
      have hk2 : (v.k == 5) = true := by simp [hk]
      have hk3 : decide (v.k = 5) = true := decide_eq_true hk
      by_cases hs : v.s < 2
      · have hs1 : decide (v.s < 2) = true := decide_eq_true hs
        have hs2 : decide (2 ≤ v.s) = false := decide_eq_false (by omega)
        clear hk
        go_wp2
        go_meet
        case rel => exact ⟨by rw [hs2, hk3]; rfl, rfl⟩
      · have hs1 : decide (v.s < 2) = false := decide_eq_false hs
        have hs2 : decide (2 ≤ v.s) = true := decide_eq_true (by omega)
        clear hk
        go_wp2
        go_meet
        case rel => exact ⟨by rw [hs2, hk3]; rfl, rfl⟩
    · have hk1 : (v.k != 5) = true := by simp [hk]
      have hk2 : (v.k == 5) = false := by simp [hk]
      have hk3 : decide (v.k = 5) = false := decide_eq_false hk
      clear hk
      go_wp2
      go_meet
      case rel => exact ⟨by rw [hk3]; rfl, rfl⟩
  case rest =>
    obtain ⟨hv22, hwc⟩ := hcut
    subst hv22
    subst hwc
    go_upto_if 22 with fail
    go_cut [] (fun wx => ∃ gi cap, wx.heap[B5]? = some (.cells #[.int .i64 5, .string { data := #[] }, .string { data := #[] }, .string { data := #[] }, .bool false, .int .i64 0, .int .i64 1, .int .i64 (ln : Int), .slice (some ⟨gi, 0, none⟩) ln cap] 27 (0, 0)) ∧ ValsAt wx gi 0 (numVals qs) ∧ Below w.heap.size w wx)
    case first =>
      by_cases hk : v.k = 5 ∧ 2 ≤ v.s
      · have hx : (!(decide (v.k = 5) && decide (2 ≤ v.s))) = false := by simp [hk.1, hk.2]
        rw [hx]
        have hP := HP.out
        rcases hP with ⟨q, hv, _⟩ | ⟨gi, Ci, hv, hr, hr9, hs1, hs9, hrs, hq0, hq9, hva⟩
        · rw [hv] at hk
          exact absurd hk.1 (fun h => absurd (show (1 : Int) = 5 from h) (by decide))
        · have hs : v.s = s := by rw [hv]; rfl
          have hsl : s = (qs0.length : Int) := by omega
          have h2q : 2 ≤ qs0.length := by have := hk.2; omega
          have eqs : qs = qs0 := by rw [Qhqs.out, if_pos h2q]
          have eln : qs0.length = ln := by rw [← eqs]; exact Qhln.out
          have hb5 := H5.out
          rw [hv, hsl, eln] at hb5
          rw [← eqs] at hva
          have HB5 := Lib.hid hb5
          have HVA := Lib.hid hva
          clear hv hr hr9 hs1 hs9 hrs hq0 hq9 hva hs hsl h2q eqs eln hb5 hk hx
          go_wp2
          go_meet
          case rel => exact ⟨gi, Ci, HB5.out, HVA.out, HL.out⟩
      · have hx : (!(decide (v.k = 5) && decide (2 ≤ v.s))) = true := by
          by_cases h1 : v.k = 5
          · have h2 : ¬ 2 ≤ v.s := fun h2 => hk ⟨h1, h2⟩
            simp [h1, h2]
          · simp [h1]
        rw [hx]
        have h2q : ¬ 2 ≤ qs0.length := by
          intro h2
          have hP := HP.out
          rcases hP with ⟨q, _, hq, _⟩ | ⟨gi, Ci, hv, hr, hr9, hs1, hs9, hrs, hq0, hq9, hva⟩
          · rw [hq] at h2
            simp at h2
          · have hs : v.s = s := by rw [hv]; rfl
            exact hk ⟨by rw [hv]; rfl, by omega⟩
        have eqs : qs = [hundredths 1, hundredths 5] := by rw [Qhqs.out, if_neg h2q]
        have eln : (2 : Nat) = ln := by rw [← Qhln.out, eqs]; rfl
        have HEQ := Lib.hid eqs
        have HLN := Lib.hid eln
        have hb : Below wc.heap.size wc (wc.alloc (.cells #[.int .i64 1, .int .i64 5] 3)) := (Below.refl _ _).alloc (Nat.le_refl _) _
        have TQ := Lib.hid (Q12.out _ _ (HE.out.below hb) (heap_alloc_new wc _))
        have HB5 := Lib.hid (keep_block H5.out hb)
        have HL2 := Lib.hid (HL.out.trans (hb.mono HL.out.size))
        have LT := Lib.hid (heap_lt HB5.out)
        clear hb h2q eqs eln hk hx
        go_wp2_with fail
        refine (TQ.out).mono ?_
        rintro e w3 ⟨v', s', rfl, hP, hq⟩
        rcases hP with ⟨q, _, hq', _⟩ | ⟨gi, Ci, hv, hr, hr9, hs1, hs9, hrs, hq0, hq9, hva⟩
        · cases hq'
        have hs : s' = 2 := by
          have : (([hundredths 1, hundredths 5] : List Rat).length : Int) = 2 := rfl
          omega
        subst hv
        subst hs
        have h5 := keep_block HB5.out hq
        have h5' := nine_at h5
        obtain ⟨⟨c0, c1, c2, c3, c4, c5, c6, c7, c8⟩, f0, f1, f2, f3, f4, f5, f6, f7, f8⟩ := h5'
        have hnew := set9_at h5 (.int .i64 5) (.string { data := #[] }) (.string { data := #[] }) (.string { data := #[] }) (.bool false) (.int .i64 0) (.int .i64 1) (.int .i64 2) (.slice (some ⟨gi, 0, none⟩) 2 Ci)
        have hge : w.heap.size ≤ B5 := GE5.out
        have hlow := HL2.out.trans ((hq.mono HL2.out.size).trans (put9_below hge w3 (.int .i64 5) (.string { data := #[] }) (.string { data := #[] }) (.string { data := #[] }) (.bool false) (.int .i64 0) (.int .i64 1) (.int .i64 2) (.slice (some ⟨gi, 0, none⟩) 2 Ci)))
        have hne : gi ≠ B5 := by
            rintro rfl
            have h1 := (item_at hva 1 (by decide) (hundredths 5) rfl).1
            have h2 := Lib.cell_of_heap h5 9
            rw [show (1 * 9 : Nat) = 9 from rfl] at h1
            rw [h1] at h2
            cases h2
        have hva2 : ValsAt (((((((((w3.setCell ⟨B5, 0, none⟩ (.int .i64 5)).setCell ⟨B5, 1, none⟩ (.string { data := #[] })).setCell ⟨B5, 2, none⟩ (.string { data := #[] })).setCell ⟨B5, 3, none⟩ (.string { data := #[] })).setCell ⟨B5, 4, none⟩ (.bool false)).setCell ⟨B5, 5, none⟩ (.int .i64 0)).setCell ⟨B5, 6, none⟩ (.int .i64 1)).setCell ⟨B5, 7, none⟩ (.int .i64 2)).setCell ⟨B5, 8, none⟩ (.slice (some ⟨gi, 0, none⟩) 2 Ci)) gi 0 (numVals [hundredths 1, hundredths 5]) := vals_other hva (set9_other w3 B5 _ _ _ _ _ _ _ _ _ hne)
        have HN := Lib.hid (And.intro hnew (And.intro hva2 hlow))
        clear hr hr9 hs1 hs9 hrs hq0 hq9 hva hnew hlow hva2 hge hne h5 hq
        go_wp2
        go_meet
        case rel =>
          rw [HEQ.out, ← HLN.out]
          exact ⟨gi, Ci, HN.out⟩
    case rest =>
      obtain ⟨g, cap, hb5, hva, hlow⟩ := hcut
      have H5 := Lib.hid hb5
      have HV := Lib.hid hva
      replace HL := Lib.hid hlow
      replace HE := Lib.hid (HW.out.below hlow)
      clear hb5 hva hlow HP
      go_wp2_with fail
      (with_reducible refine (QtN.out _ HE.out).mono ?_)
      rintro e w1 ⟨rfl, hq⟩
      replace HE := Lib.hid (HE.out.below hq)
      replace HL := Lib.hid (HL.out.trans (hq.mono HL.out.size))
      replace H5 := Lib.hid (keep_block H5.out hq)
      replace HV := Lib.hid (HV.out.below hq)
      clear hq
      have hq : Below w1.heap.size w1 (w1.alloc (.cells #[.int .i64 1, .string (numS d), .string (denS d), .string { data := #[] }, .bool false, .int .i64 0, .int .i64 0, .int .i64 0, .slice none 0 0] 27)) := ((Below.refl _ _).alloc (Nat.le_refl _) _)
      replace HE := Lib.hid (HE.out.below hq)
      replace HL := Lib.hid (HL.out.trans (hq.mono HL.out.size))
      replace H5 := Lib.hid (keep_block H5.out hq)
      replace HV := Lib.hid (HV.out.below hq)
      have H6 : Hid ((w1.alloc (.cells #[.int .i64 1, .string (numS d), .string (denS d), .string { data := #[] }, .bool false, .int .i64 0, .int .i64 0, .int .i64 0, .slice none 0 0] 27)).heap[w1.heap.size]? = some (.cells #[.int .i64 1, .string (numS d), .string (denS d), .string { data := #[] }, .bool false, .int .i64 0, .int .i64 0, .int .i64 0, .slice none 0 0] 27 (0, 0))) := Lib.hid (by
        have h := heap_alloc_new w1 (.cells #[.int .i64 1, .string (numS d), .string (denS d), .string { data := #[] }, .bool false, .int .i64 0, .int .i64 0, .int .i64 0, .slice none 0 0] 27)
        exact h)
      clear hq
      obtain ⟨WL1, hWL1⟩ : ∃ Z, (w1.alloc (.cells #[.int .i64 1, .string (numS d), .string (denS d), .string { data := #[] }, .bool false, .int .i64 0, .int .i64 0, .int .i64 0, .slice none 0 0] 27)) = Z := ⟨_, rfl⟩
      rw [hWL1] at HE HL H5 H6 HV
      have EWL1 := Lib.hid hWL1
      clear hWL1
      have SWL1 : Hid (w1.heap.size + 1 = WL1.heap.size) := Lib.hid (by rw [← EWL1.out]; simp only [World.size_alloc])
      go_upto_region 5 with fail
      rw [EWL1.out]
      obtain ⟨⟨lH50, lH51, lH52, lH53, lH54, lH55, lH56, lH57, lH58⟩, _⟩ := nine_at H5.out
      have H54 := Lib.hid H5.out
      have H64 := Lib.hid H6.out
      have HV4 := Lib.hid HV.out
      have HL4 := Lib.hid HL.out
      have hq : Below WL1.heap.size WL1 (WL1.alloc (.cells #[.int .i64 5, .string { data := #[] }, .string { data := #[] }, .string { data := #[] }, .bool false, .int .i64 0, .int .i64 1, .int .i64 (ln : Int), .slice (some ⟨g, 0, none⟩) ln cap] 27)) := ((Below.refl _ _).alloc (Nat.le_refl _) _)
      replace HE := Lib.hid (HE.out.below hq)
      replace HL := Lib.hid (HL.out.trans (hq.mono HL.out.size))
      replace H5 := Lib.hid (keep_block H5.out hq)
      replace H6 := Lib.hid (keep_block H6.out hq)
      replace HV := Lib.hid (HV.out.below hq)
      have H7 : Hid ((WL1.alloc (.cells #[.int .i64 5, .string { data := #[] }, .string { data := #[] }, .string { data := #[] }, .bool false, .int .i64 0, .int .i64 1, .int .i64 (ln : Int), .slice (some ⟨g, 0, none⟩) ln cap] 27)).heap[WL1.heap.size]? = some (.cells #[.int .i64 5, .string { data := #[] }, .string { data := #[] }, .string { data := #[] }, .bool false, .int .i64 0, .int .i64 1, .int .i64 (ln : Int), .slice (some ⟨g, 0, none⟩) ln cap] 27 (0, 0))) := Lib.hid (by
        have h := heap_alloc_new WL1 (.cells #[.int .i64 5, .string { data := #[] }, .string { data := #[] }, .string { data := #[] }, .bool false, .int .i64 0, .int .i64 1, .int .i64 (ln : Int), .slice (some ⟨g, 0, none⟩) ln cap] 27)
        exact h)
      clear hq
      obtain ⟨WL2, hWL2⟩ : ∃ Z, (WL1.alloc (.cells #[.int .i64 5, .string { data := #[] }, .string { data := #[] }, .string { data := #[] }, .bool false, .int .i64 0, .int .i64 1, .int .i64 (ln : Int), .slice (some ⟨g, 0, none⟩) ln cap] 27)) = Z := ⟨_, rfl⟩
      rw [hWL2] at HE HL H5 H6 H7 HV
      have EWL2 := Lib.hid hWL2
      clear hWL2
      have SWL2 : Hid (WL1.heap.size + 1 = WL2.heap.size) := Lib.hid (by rw [← EWL2.out]; simp only [World.size_alloc])
      go_upto_region 6 with fail
      rw [EWL2.out]
      have HI := Lib.hid (show RowX WL1 (WL1.heap.size) 1 (ln : Int) (.slice none 0 0) (.slice none 0 0) 0 [] (WL2.setCell ⟨WL1.heap.size, 8, none⟩ (.slice none 0 0)) from ⟨heap_setCell_at H7.out 8 (.slice none 0 0), ((Below.refl _ _).alloc (Nat.le_refl _) _ |> fun h => (show Below WL1.heap.size WL1 WL2 from by rw [← EWL2.out]; exact h)).setCell (p := ⟨WL1.heap.size, 8, none⟩) (Nat.le_refl _) _, Nat.le_refl _, World.ownsRow_nil _ _ _ _, .inl rfl⟩)
      have HE4 := Lib.hid (HW.out.below HL4.out)
      obtain ⟨W6, hW6⟩ : ∃ Z, WL2.setCell ⟨WL1.heap.size, 8, none⟩ (.slice none 0 0) = Z := ⟨_, rfl⟩
      obtain ⟨⟨x0, x1, x2, x3, x4, x5, x6, x7, x8⟩, y0, y1, y2, y3, y4, y5, y6, y7, y8⟩ := nine_at H7.out
      go_upto_region 7 with fail
      clear x0 x1 x2 x3 x4 x5 x6 x7 x8 y0 y1 y2 y3 y4 y5 y6 y7 y8
      rw [hW6] at HI
      clear hW6 H7
      obtain ⟨BB, hBB⟩ : ∃ BB, WL1.heap.size = BB := ⟨_, rfl⟩
      rw [hBB] at HI
      rw [hBB]
      clear hBB
      replace H5 := Lib.hid (keep_block H54.out HI.out.low)
      replace H6 := Lib.hid (keep_block H64.out HI.out.low)
      obtain ⟨⟨x0, x1, x2, x3, x4, x5, x6, x7, x8⟩, _⟩ := nine_at H5.out
      go_wp2_with fail
      clear x0 x1 x2 x3 x4 x5 x6 x7 x8
      go_loopg [32] ln (fun gh v32 wx => ∃ (k : Nat) (v' : Value), v32 = .int .i64 ((k : Nat) : Int) ∧ k ≤ ln ∧ gh = ln - k ∧ RowX WL1 BB 1 (ln : Int) v' v' k (flat (numVals (ps.take k))) wx)
      case atStart => exact ⟨0, _, rfl, Nat.zero_le _, rfl, HI.out⟩
      case round =>
        clear HI H5 H6 HE HL HV
        obtain ⟨k, v', rfl, hk, hgk, hti⟩ := hrel
        have HTI := Lib.hid hti
        by_cases hlt : k < ln
        · have hd : decide ((k : Int) < (ln : Int)) = true := decide_eq_true (by omega)
          have hd2 : decide (k < ln) = true := decide_eq_true hlt
          have hi0 : (0 : Int) ≤ (k : Int) := by omega
          have hi1 : (k : Int) < (ln : Int) := by omega
          have hwk : IntKind.i64.wrap ((k : Int) + 1) = (k : Int) + 1 := IntWalk.i64_in _ (by omega)
          have hkq : k < qs.length := by rw [Qhln.out]; exact hlt
          have hkp : k < ps.length := by rw [Qhps.out]; exact hlt
          have TP := Lib.hid (QtP.out k hkq hkp)
          obtain ⟨x, hx⟩ : ∃ x, qs[k] = x := ⟨_, rfl⟩
          obtain ⟨p, hp⟩ : ∃ p, ps[k] = p := ⟨_, rfl⟩
          have HTK := Lib.hid (show flat (numVals (ps.take (k + 1))) = flat (numVals (ps.take k)) ++ [.int .i64 1, .string (numS p), .string (denS p), .string { data := #[] }, .bool false, .int .i64 0, .int .i64 0, .int .i64 0, .slice none 0 0] by rw [List.take_succ_eq_append_getElem hkp, hp, flat_snoc])
          have HF1 := Lib.hid (show ∀ l : List Value, k ≠ 0 → (flat (numVals (ps.take k)) ++ l)[0]? = some (.int .i64 1) from by
            intro l hk0
            have h1 := flat_first (qs := ps.take k) (by rw [List.length_take]; omega)
            rw [List.getElem?_append_left ((List.getElem?_eq_some_iff.1 h1).1)]
            exact h1)
          have HF0 := Lib.hid (show k = 0 → flat (numVals (ps.take k)) = [] from by intro e; rw [e]; rfl)
          rw [hx, hp] at TP
          rw [numVal_is x, numVal_is d, numVal_is p] at TP
          unfold Fun2 at TP
          obtain ⟨j0, j1, j2, j3, j4, j5, j6, j7, j8⟩ := item_at (HV4.out.below HTI.out.low) k hkq x hx
          obtain ⟨xs, hxs⟩ : ∃ xs, flat (numVals (ps.take k)) = xs := ⟨_, rfl⟩
          rw [hxs] at HTI HTK HF1 HF0
          obtain ⟨av, cv, hu⟩ := owns_form HTI.out.own
          subst hu
          have hml : k + 1 ≤ maxLen := by unfold maxLen; omega
          have H5 := Lib.hid (keep_block H54.out HTI.out.low)
          have H6 := Lib.hid (keep_block H64.out HTI.out.low)
          have H7 := Lib.hid HTI.out.box
          have HE := Lib.hid (HE4.out.below HTI.out.low)
          have HL := Lib.hid (HL4.out.trans (HTI.out.low.mono HL4.out.size))
          clear hti hx hp hkq hkp hxs hd2
          have hd2 : decide (k < ln) = true := decide_eq_true hlt
          have hq : Below wr.heap.size wr (wr.alloc (.cells #[.int .i64 1, .string (numS x), .string (denS x), .string { data := #[] }, .bool false, .int .i64 0, .int .i64 0, .int .i64 0, .slice none 0 0] 27)) := ((Below.refl _ _).alloc (Nat.le_refl _) _)
          replace HE := Lib.hid (HE.out.below hq)
          replace HL := Lib.hid (HL.out.trans (hq.mono HL.out.size))
          replace H5 := Lib.hid (keep_block H5.out hq)
          replace H6 := Lib.hid (keep_block H6.out hq)
          replace H7 := Lib.hid (keep_block H7.out hq)
          replace HTI := Lib.hid (HTI.out.step hq)
          have H9 : Hid ((wr.alloc (.cells #[.int .i64 1, .string (numS x), .string (denS x), .string { data := #[] }, .bool false, .int .i64 0, .int .i64 0, .int .i64 0, .slice none 0 0] 27)).heap[wr.heap.size]? = some (.cells #[.int .i64 1, .string (numS x), .string (denS x), .string { data := #[] }, .bool false, .int .i64 0, .int .i64 0, .int .i64 0, .slice none 0 0] 27 (0, 0))) := Lib.hid (by
            have h := heap_alloc_new wr (.cells #[.int .i64 1, .string (numS x), .string (denS x), .string { data := #[] }, .bool false, .int .i64 0, .int .i64 0, .int .i64 0, .slice none 0 0] 27)
            exact h)
          clear hq
          obtain ⟨WL3, hWL3⟩ : ∃ Z, (wr.alloc (.cells #[.int .i64 1, .string (numS x), .string (denS x), .string { data := #[] }, .bool false, .int .i64 0, .int .i64 0, .int .i64 0, .slice none 0 0] 27)) = Z := ⟨_, rfl⟩
          rw [hWL3] at HE HL H5 H6 H7 H9 HTI
          have EWL3 := Lib.hid hWL3
          clear hWL3
          have SWL3 : Hid (wr.heap.size + 1 = WL3.heap.size) := Lib.hid (by rw [← EWL3.out]; simp only [World.size_alloc])
          go_upto_region 10 with fail
          rw [EWL3.out]
          clear j0 j1 j2 j3 j4 j5 j6 j7 j8
          go_wp2_with fail
          clear lH50 lH51 lH52 lH53 lH54 lH55 lH56 lH57 lH58
          have hok : okB 9 (MovKs10 x d p BB k cv av) = true := by kernel_rfl
          have hna := noAny_of (ks := (MovKs10 x d p BB k cv av)) (by kernel_rfl)
          have hla := lasts_of hna
          refine wp_region_facts_tail_r (row := none) (w := WL3) 2 6 3 9 [6, 7, 8] (MovKs10 x d p BB k cv av) [some 36, some 37, some 38, some 39, some 40, some 41, some 42, some 43, none] (by kernel_rfl) (by kernel_rfl) (by kernel_rfl) rfl rfl (by decide) rfl [u36, u37, u38, u39, u40, u41, u42, u43, undef] ?h00 (Fs.start rfl rfl) ?hs ?hd
          case h00 => simp only [putO, layL]
          case hs =>
            rintro listed vs Wr hF i hi hun hpre
            obtain ⟨s0, s1, s2, s3, s4, s5, s6, s7, s8, hvs⟩ := exl_of 9 vs (fun l => vs = l) hF.len rfl
            subst hvs
            have hge := Nat.zero_le i
            simp only [putO, layL]
            rcases Nat.lt_or_ge i 3 with hlt | hgt
            · replace hi := hlt
              clear hlt
              rcases Nat.lt_or_ge i 1 with hlt | hgt
              · replace hi := hlt
                clear hlt
                obtain rfl := eqi hi hge
                refine step_of ⟨some 36, _, _, _, _, _⟩ rfl (fun K' hK => ?_)
                go_simp
                refine hK.out _ _ ⟨_, hF.pure hok hla hpre rfl (Below.refl _ _), ?fr⟩
                case fr => simp only [putO, layL]
              · replace hge : 1 ≤ i := hgt
                clear hgt
                rcases Nat.lt_or_ge i 2 with hlt | hgt
                · replace hi := hlt
                  clear hlt
                  obtain rfl := eqi hi hge
                  have p0 := hpre 0 (by kernel_rfl)
                  have e0 : s0 = .pointer (some ⟨BB, 8, none⟩) := hF.get 0 _ rfl (.inr p0)
                  subst e0
                  have hcc := (nine_at (keep_block H7.out (below_none hF.low))).1
                  have cH70 := hcc.1
                  have cH71 := hcc.2.1
                  have cH72 := hcc.2.2.1
                  have cH73 := hcc.2.2.2.1
                  have cH74 := hcc.2.2.2.2.1
                  have cH75 := hcc.2.2.2.2.2.1
                  have cH76 := hcc.2.2.2.2.2.2.1
                  have cH77 := hcc.2.2.2.2.2.2.2.1
                  have cH78 := hcc.2.2.2.2.2.2.2.2
                  clear hcc
                  refine step_of ⟨some 37, _, _, _, _, _⟩ rfl (fun K' hK => ?_)
                  go_simp
                  refine hK.out _ _ ⟨_, hF.pure hok hla hpre rfl (Below.refl _ _), ?fr⟩
                  case fr => simp only [putO, layL]
                · replace hge : 2 ≤ i := hgt
                  clear hgt
                  obtain rfl := eqi hi hge
                  have hcc := (nine_at (keep_block H9.out (below_none hF.low))).1
                  have cH90 := hcc.1
                  have cH91 := hcc.2.1
                  have cH92 := hcc.2.2.1
                  have cH93 := hcc.2.2.2.1
                  have cH94 := hcc.2.2.2.2.1
                  have cH95 := hcc.2.2.2.2.2.1
                  have cH96 := hcc.2.2.2.2.2.2.1
                  have cH97 := hcc.2.2.2.2.2.2.2.1
                  have cH98 := hcc.2.2.2.2.2.2.2.2
                  clear hcc
                  refine step_of ⟨some 38, _, _, _, _, _⟩ rfl (fun K' hK => ?_)
                  go_simp
                  refine hK.out _ _ ⟨_, hF.pure hok hla hpre rfl (Below.refl _ _), ?fr⟩
                  case fr => simp only [putO, layL]
            · replace hge : 3 ≤ i := hgt
              clear hgt
              rcases Nat.lt_or_ge i 4 with hlt | hgt
              · replace hi := hlt
                clear hlt
                obtain rfl := eqi hi hge
                have hcc := (nine_at (keep_block H6.out (below_none hF.low))).1
                have cH60 := hcc.1
                have cH61 := hcc.2.1
                have cH62 := hcc.2.2.1
                have cH63 := hcc.2.2.2.1
                have cH64 := hcc.2.2.2.2.1
                have cH65 := hcc.2.2.2.2.2.1
                have cH66 := hcc.2.2.2.2.2.2.1
                have cH67 := hcc.2.2.2.2.2.2.2.1
                have cH68 := hcc.2.2.2.2.2.2.2.2
                clear hcc
                refine step_of ⟨some 39, _, _, _, _, _⟩ rfl (fun K' hK => ?_)
                go_simp
                refine hK.out _ _ ⟨_, hF.pure hok hla hpre rfl (Below.refl _ _), ?fr⟩
                case fr => simp only [putO, layL]
              · replace hge : 4 ≤ i := hgt
                clear hgt
                rcases Nat.lt_or_ge i 5 with hlt | hgt
                · replace hi := hlt
                  clear hlt
                  obtain rfl := eqi hi hge
                  have p2 := hpre 2 (by kernel_rfl)
                  have e2 : s2 = .agg #[.int .i64 1, .string (numS x), .string (denS x), .string { data := #[] }, .bool false, .int .i64 0, .int .i64 0, .int .i64 0, .slice none 0 0] := hF.get 2 _ rfl (.inr p2)
                  subst e2
                  have p3 := hpre 3 (by kernel_rfl)
                  have e3 : s3 = .agg #[.int .i64 1, .string (numS d), .string (denS d), .string { data := #[] }, .bool false, .int .i64 0, .int .i64 0, .int .i64 0, .slice none 0 0] := hF.get 3 _ rfl (.inr p3)
                  subst e3
                  refine step_of ⟨some 40, _, _, _, _, _⟩ rfl (fun K' hK => ?_)
                  go_simp
                  go_at_call 8
                  (with_reducible refine (TP.out _ (HE.out.below (below_none hF.low))).mono ?_)
                  rintro e Wq ⟨rfl, hq⟩
                  refine hK.out _ _ ⟨_, hF.pure hok hla hpre rfl hq, ?fr⟩
                  case fr => simp only [putO, layL]
                · replace hge : 5 ≤ i := hgt
                  clear hgt
                  obtain rfl := eqi hi hge
                  have p4 := hpre 4 (by kernel_rfl)
                  have e4 : s4 = .agg #[.int .i64 1, .string (numS p), .string (denS p), .string { data := #[] }, .bool false, .int .i64 0, .int .i64 0, .int .i64 0, .slice none 0 0] := hF.get 4 _ rfl (.inr p4)
                  subst e4
                  refine step_of ⟨some 41, _, _, _, _, _⟩ rfl (fun K' hK => ?_)
                  go_simp
                  refine hK.out _ _ ⟨_, hF.row hok hla hpre rfl, ?fr⟩
                  case fr => simp only [putO, layL]
          case hd =>
            rintro listed vs WA hF hall
            obtain ⟨s0, s1, s2, s3, s4, s5, s6, s7, s8, hvs⟩ := exl_of 9 vs (fun l => vs = l) hF.len rfl
            subst hvs
            have e1 : s1 = .slice av k cv := hF.get 1 _ rfl (.inr (hall 1 (by decide)))
            subst e1
            have e4 : s4 = .agg #[.int .i64 1, .string (numS p), .string (denS p), .string { data := #[] }, .bool false, .int .i64 0, .int .i64 0, .int .i64 0, .slice none 0 0] := hF.get 4 _ rfl (.inr (hall 4 (by decide)))
            subst e4
            obtain ⟨G41, e5, _, k5⟩ : ∃ G, s5 = .slice (some ⟨G, 0, none⟩) 1 1 ∧ _ ≤ G ∧ WA.heap[G]? = some (.cells #[.int .i64 1, .string (numS p), .string (denS p), .string { data := #[] }, .bool false, .int .i64 0, .int .i64 0, .int .i64 0, .slice none 0 0] 27 (0, 0)) := hF.get 5 _ rfl (.inr (hall 5 (by decide)))
            subst e5
            have HR41 := Lib.hid k5
            clear k5
            have hq := below_none hF.low
            replace HE := Lib.hid (HE.out.below hq)
            replace HL := Lib.hid (HL.out.trans (hq.mono HL.out.size))
            replace H5 := Lib.hid (keep_block H5.out hq)
            replace H6 := Lib.hid (keep_block H6.out hq)
            replace H7 := Lib.hid (keep_block H7.out hq)
            replace H9 := Lib.hid (keep_block H9.out hq)
            replace HTI := Lib.hid (HTI.out.step hq)
            clear hq
            clear hF hall hok hna hla
            simp only [putO, layL]
            have HOW := Lib.hid HTI.out.own
            have HLN := Lib.hid HTI.out.len
            refine rest_one 6 ⟨some 42, _, _, _, _, _⟩ rfl (by kernel_rfl) rfl (fun K' hK => ?_)
            refine step_append_rowx rfl _ _ 25 rfl WL1.heap.size 27 i0 _ 9 112 Tryz.underlying25 hi0' hz0 hz1 hz2 rfl (by decide) (.slice av k cv) k xs (by simp [Act.eval, Act.put]) HOW.out ⟨G41, 0, none⟩ 1 1 [.int .i64 1, .string (numS p), .string (denS p), .string { data := #[] }, .bool false, .int .i64 0, .int .i64 0, .int .i64 0, .slice none 0 0] (by simp [Act.eval, Act.put]) rfl (World.news_of_block (cs := #[.int .i64 1, .string (numS p), .string (denS p), .string { data := #[] }, .bool false, .int .i64 0, .int .i64 0, .int .i64 0, .slice none 0 0]) (t := 27) (fr := (0, 0)) HR41.out) (by simp [Value.oneCell']) hml (by omega) HTI.out.low.size ?_
            intro v5 w5 hown5 hgrow5
            obtain ⟨a5, c5, hu5⟩ := owns_form hown5
            subst hu5
            have HT5 := Lib.hid (HTI.out.push hown5 (by
              by_cases hk0 : k = 0
              · rw [HF0.out hk0]; rfl
              · exact HF1.out _ hk0) hgrow5)
            clear hown5 hgrow5 HOW
            refine hK.out _ _ ?_
            refine rest_one 7 ⟨some 43, _, _, _, _, _⟩ rfl (by kernel_rfl) rfl (fun K' hK => ?_)
            go_simp
            refine hK.out _ _ ?_
            refine rest_one 8 ⟨none, _, _, _, _, _⟩ rfl (by kernel_rfl) rfl (fun K' hK => ?_)
            obtain ⟨⟨x0, x1, x2, x3, x4, x5, x6, x7, x8⟩, y0, y1, y2, y3, y4, y5, y6, y7, y8⟩ := nine_at HT5.out.box
            go_simp
            clear x0 x1 x2 x3 x4 x5 x6 x7 x8 y0 y1 y2 y3 y4 y5 y6 y7 y8
            refine hK.out _ _ ?_
            have HU := Lib.hid HT5.out.store
            rw [← HTK.out] at HU
            refine rest_end ?_
            go_wp2
            go_roundg (ln - (k + 1))
            case measure => omega
            case rel => exact ⟨k + 1, _, by go_num, by omega, by omega, HU.out⟩
        · have hd : decide ((k : Int) < (ln : Int)) = false := decide_eq_false (by omega)
          have hd2 : decide (k < ln) = false := decide_eq_false hlt
          have hkL : k = ln := by omega
          subst hkL
          rw [show ps.take k = ps by rw [← Qhps.out, List.take_length]] at hti
          obtain ⟨g2, cap2, hv, _, _, hvb⟩ := hti.vals Qhps.out (by omega)
          subst hv
          have HVb := Lib.hid hvb
          have HV := Lib.hid (HV4.out.below hti.low)
          have H5 := Lib.hid (keep_block H54.out hti.low)
          have H6 := Lib.hid (keep_block H64.out hti.low)
          have H7 := Lib.hid hti.box
          have HE := Lib.hid (HE4.out.below hti.low)
          have HL := Lib.hid (HL4.out.trans (hti.low.mono HL4.out.size))
          clear hti HTI hvb hlt hgk hk
          obtain ⟨⟨lH50, lH51, lH52, lH53, lH54, lH55, lH56, lH57, lH58⟩, _⟩ := nine_at H5.out
          go_wp2_with fail
          (with_reducible refine (R1.at QrA.out _ _ _ HV.out HE.out).mono ?_)
          rintro e w2 ⟨rfl, hq⟩
          replace HE := Lib.hid (HE.out.below hq)
          replace HL := Lib.hid (HL.out.trans (hq.mono HL.out.size))
          replace H5 := Lib.hid (keep_block H5.out hq)
          replace H6 := Lib.hid (keep_block H6.out hq)
          replace H7 := Lib.hid (keep_block H7.out hq)
          replace HV := Lib.hid (HV.out.below hq)
          replace HVb := Lib.hid (HVb.out.below hq)
          clear hq
          clear lH50 lH51 lH52 lH53 lH54 lH55 lH56 lH57 lH58
          have hq : Below w2.heap.size w2 (w2.alloc (.cells #[.int .i64 1, .string (numS m), .string (denS m), .string { data := #[] }, .bool false, .int .i64 0, .int .i64 0, .int .i64 0, .slice none 0 0] 27)) := ((Below.refl _ _).alloc (Nat.le_refl _) _)
          replace HE := Lib.hid (HE.out.below hq)
          replace HL := Lib.hid (HL.out.trans (hq.mono HL.out.size))
          replace H5 := Lib.hid (keep_block H5.out hq)
          replace H6 := Lib.hid (keep_block H6.out hq)
          replace H7 := Lib.hid (keep_block H7.out hq)
          replace HV := Lib.hid (HV.out.below hq)
          replace HVb := Lib.hid (HVb.out.below hq)
          have H10 : Hid ((w2.alloc (.cells #[.int .i64 1, .string (numS m), .string (denS m), .string { data := #[] }, .bool false, .int .i64 0, .int .i64 0, .int .i64 0, .slice none 0 0] 27)).heap[w2.heap.size]? = some (.cells #[.int .i64 1, .string (numS m), .string (denS m), .string { data := #[] }, .bool false, .int .i64 0, .int .i64 0, .int .i64 0, .slice none 0 0] 27 (0, 0))) := Lib.hid (by
            have h := heap_alloc_new w2 (.cells #[.int .i64 1, .string (numS m), .string (denS m), .string { data := #[] }, .bool false, .int .i64 0, .int .i64 0, .int .i64 0, .slice none 0 0] 27)
            exact h)
          clear hq
          obtain ⟨WL5, hWL5⟩ : ∃ Z, (w2.alloc (.cells #[.int .i64 1, .string (numS m), .string (denS m), .string { data := #[] }, .bool false, .int .i64 0, .int .i64 0, .int .i64 0, .slice none 0 0] 27)) = Z := ⟨_, rfl⟩
          rw [hWL5] at HE HL H5 H6 H7 H10 HV HVb
          have EWL5 := Lib.hid hWL5
          clear hWL5
          have SWL5 : Hid (w2.heap.size + 1 = WL5.heap.size) := Lib.hid (by rw [← EWL5.out]; simp only [World.size_alloc])
          have hld := H10.out
          rw [← EWL5.out] at hld
          obtain ⟨⟨lH100, lH101, lH102, lH103, lH104, lH105, lH106, lH107, lH108⟩, _⟩ := nine_at hld
          clear hld
          go_wp2_with fail
          clear lH100 lH101 lH102 lH103 lH104 lH105 lH106 lH107 lH108
          rw [EWL5.out]
          have hok : okB 11 (MovKs15 k g cap g2 cap2 B5 BB d m kk u y vp m2 cn w1 w2) = true := by kernel_rfl
          have hna := noAny_of (ks := (MovKs15 k g cap g2 cap2 B5 BB d m kk u y vp m2 cn w1 w2)) (by kernel_rfl)
          have hla := lasts_of hna
          refine wp_region_facts (row := none) (w := WL5) 11 (MovKs15 k g cap g2 cap2 B5 BB d m kk u y vp m2 cn w1 w2) [some 51, some 52, some 53, some 54, some 55, some 56, some 57, some 11, some 12, none, none] (by kernel_rfl) (by kernel_rfl) rfl [u51, u52, u53, u54, u55, u56, u57, undef, undef, undef, undef] ?h00 (Fs.start rfl rfl) ?hs ?hd
          case h00 => simp only [putO, layL]
          case hs =>
            rintro listed vs Wr hF i hi hun hpre
            obtain ⟨s0, s1, s2, s3, s4, s5, s6, s7, s8, s9, s10, hvs⟩ := exl_of 11 vs (fun l => vs = l) hF.len rfl
            subst hvs
            have hge := Nat.zero_le i
            simp only [putO, layL]
            rcases Nat.lt_or_ge i 5 with hlt | hgt
            · replace hi := hlt
              clear hlt
              rcases Nat.lt_or_ge i 2 with hlt | hgt
              · replace hi := hlt
                clear hlt
                rcases Nat.lt_or_ge i 1 with hlt | hgt
                · replace hi := hlt
                  clear hlt
                  obtain rfl := eqi hi hge
                  have hcc := (nine_at (keep_block H5.out (below_none hF.low))).1
                  have cH50 := hcc.1
                  have cH51 := hcc.2.1
                  have cH52 := hcc.2.2.1
                  have cH53 := hcc.2.2.2.1
                  have cH54 := hcc.2.2.2.2.1
                  have cH55 := hcc.2.2.2.2.2.1
                  have cH56 := hcc.2.2.2.2.2.2.1
                  have cH57 := hcc.2.2.2.2.2.2.2.1
                  have cH58 := hcc.2.2.2.2.2.2.2.2
                  clear hcc
                  refine step_of ⟨some 51, _, _, _, _, _⟩ rfl (fun K' hK => ?_)
                  go_simp
                  refine hK.out _ _ ⟨_, hF.pure hok hla hpre rfl (Below.refl _ _), ?fr⟩
                  case fr => simp only [putO, layL]
                · replace hge : 1 ≤ i := hgt
                  clear hgt
                  obtain rfl := eqi hi hge
                  have p0 := hpre 0 (by kernel_rfl)
                  have e0 : s0 = .agg #[.int .i64 5, .string { data := #[] }, .string { data := #[] }, .string { data := #[] }, .bool false, .int .i64 0, .int .i64 1, .int .i64 (k : Int), .slice (some ⟨g, 0, none⟩) k cap] := hF.get 0 _ rfl (.inr p0)
                  subst e0
                  refine step_of ⟨some 52, _, _, _, _, _⟩ rfl (fun K' hK => ?_)
                  go_simp
                  refine hK.out _ _ ⟨_, hF.row hok hla hpre rfl, ?fr⟩
                  case fr => simp only [putO, layL]
              · replace hge : 2 ≤ i := hgt
                clear hgt
                rcases Nat.lt_or_ge i 3 with hlt | hgt
                · replace hi := hlt
                  clear hlt
                  obtain rfl := eqi hi hge
                  have p1 := hpre 1 (by kernel_rfl)
                  obtain ⟨G, eG, _, hGB⟩ : ∃ G, s1 = .slice (some ⟨G, 0, none⟩) 1 1 ∧ _ ≤ G ∧ Wr.heap[G]? = some (.cells #[.int .i64 5, .string { data := #[] }, .string { data := #[] }, .string { data := #[] }, .bool false, .int .i64 0, .int .i64 1, .int .i64 (k : Int), .slice (some ⟨g, 0, none⟩) k cap] 27 (0, 0)) := hF.get 1 _ rfl (.inr p1)
                  subst eG
                  refine step_of ⟨some 53, _, _, _, _, _⟩ rfl (fun K' hK => ?_)
                  go_simp
                  go_at_call 9
                  (with_reducible refine (R1.on QrV.out _ _ _ _ hGB (HV.out.below (below_none hF.low)) (HE.out.below (below_none hF.low))).mono ?_)
                  rintro e Wq ⟨rfl, hq⟩
                  refine hK.out _ _ ⟨_, hF.pure hok hla hpre rfl hq, ?fr⟩
                  case fr => simp only [putO, layL]
                · replace hge : 3 ≤ i := hgt
                  clear hgt
                  rcases Nat.lt_or_ge i 4 with hlt | hgt
                  · replace hi := hlt
                    clear hlt
                    obtain rfl := eqi hi hge
                    refine step_of ⟨some 54, _, _, _, _, _⟩ rfl (fun K' hK => ?_)
                    go_simp
                    refine hK.out _ _ ⟨_, hF.pure hok hla hpre rfl (Below.refl _ _), ?fr⟩
                    case fr => simp only [putO, layL]
                  · replace hge : 4 ≤ i := hgt
                    clear hgt
                    obtain rfl := eqi hi hge
                    have p3 := hpre 3 (by kernel_rfl)
                    have e3 : s3 = .pointer (some ⟨B5, 7, none⟩) := hF.get 3 _ rfl (.inr p3)
                    subst e3
                    have hcc := (nine_at (keep_block H5.out (below_none hF.low))).1
                    have cH50 := hcc.1
                    have cH51 := hcc.2.1
                    have cH52 := hcc.2.2.1
                    have cH53 := hcc.2.2.2.1
                    have cH54 := hcc.2.2.2.2.1
                    have cH55 := hcc.2.2.2.2.2.1
                    have cH56 := hcc.2.2.2.2.2.2.1
                    have cH57 := hcc.2.2.2.2.2.2.2.1
                    have cH58 := hcc.2.2.2.2.2.2.2.2
                    clear hcc
                    refine step_of ⟨some 55, _, _, _, _, _⟩ rfl (fun K' hK => ?_)
                    go_simp
                    refine hK.out _ _ ⟨_, hF.pure hok hla hpre rfl (Below.refl _ _), ?fr⟩
                    case fr => simp only [putO, layL]
            · replace hge : 5 ≤ i := hgt
              clear hgt
              rcases Nat.lt_or_ge i 8 with hlt | hgt
              · replace hi := hlt
                clear hlt
                rcases Nat.lt_or_ge i 6 with hlt | hgt
                · replace hi := hlt
                  clear hlt
                  obtain rfl := eqi hi hge
                  have p4 := hpre 4 (by kernel_rfl)
                  have e4 : s4 = .int .i64 (k : Int) := hF.get 4 _ rfl (.inr p4)
                  subst e4
                  refine step_of ⟨some 56, _, _, _, _, _⟩ rfl (fun K' hK => ?_)
                  go_simp
                  refine hK.out _ _ ⟨_, hF.pure hok hla hpre rfl (Below.refl _ _), ?fr⟩
                  case fr => simp only [putO, layL]
                · replace hge : 6 ≤ i := hgt
                  clear hgt
                  rcases Nat.lt_or_ge i 7 with hlt | hgt
                  · replace hi := hlt
                    clear hlt
                    obtain rfl := eqi hi hge
                    have p5 := hpre 5 (by kernel_rfl)
                    have e5 : s5 = .int .i64 ((k : Int) - 1) := hF.get 5 _ rfl (.inr p5)
                    subst e5
                    refine step_of ⟨some 57, _, _, _, _, _⟩ rfl (fun K' hK => ?_)
                    go_simp
                    go_at_call 10
                    (with_reducible refine (QtW.out _ (HE.out.below (below_none hF.low))).mono ?_)
                    rintro e Wq ⟨rfl, hq⟩
                    refine hK.out _ _ ⟨_, hF.pure hok hla hpre rfl hq, ?fr⟩
                    case fr => simp only [putO, layL]
                  · replace hge : 7 ≤ i := hgt
                    clear hgt
                    obtain rfl := eqi hi hge
                    refine step_of ⟨some 11, _, _, _, _, _⟩ rfl (fun K' hK => ?_)
                    go_simp
                    refine hK.out _ _ ⟨_, hF.box hok hla hpre hun rfl, ?fr⟩
                    case fr => simp only [putO, layL]
              · replace hge : 8 ≤ i := hgt
                clear hgt
                rcases Nat.lt_or_ge i 9 with hlt | hgt
                · replace hi := hlt
                  clear hlt
                  obtain rfl := eqi hi hge
                  refine step_of ⟨some 12, _, _, _, _, _⟩ rfl (fun K' hK => ?_)
                  go_simp
                  refine hK.out _ _ ⟨_, hF.box hok hla hpre hun rfl, ?fr⟩
                  case fr => simp only [putO, layL]
                · replace hge : 9 ≤ i := hgt
                  clear hgt
                  rcases Nat.lt_or_ge i 10 with hlt | hgt
                  · replace hi := hlt
                    clear hlt
                    obtain rfl := eqi hi hge
                    have p7 := hpre 7 (by kernel_rfl)
                    obtain ⟨G, eG, _, hGl, hGB⟩ : ∃ G, s7 = .pointer (some ⟨G, 0, none⟩) ∧ (∀ k, none = some k → G = k) ∧ WL5.heap.size ≤ G ∧ Wr.heap[G]? = some (.cells (if listed.getD 9 false = true then #[.int .i64 1, .string (numS kk), .string (denS kk), .string { data := #[] }, .bool false, .int .i64 0, .int .i64 0, .int .i64 0, .slice none 0 0] else #[.int .i64 0, .string { data := #[] }, .string { data := #[] }, .string { data := #[] }, .bool false, .int .i64 0, .int .i64 0, .int .i64 0, .slice none 0 0]) 27 (0, 0)) := hF.get 7 _ rfl (.inr p7)
                    subst eG
                    rw [if_neg (bit_off hun)] at hGB
                    have HGB := Lib.hid hGB
                    clear hGB
                    have p2 := hpre 2 (by kernel_rfl)
                    have e2 : s2 = .agg #[.int .i64 1, .string (numS kk), .string (denS kk), .string { data := #[] }, .bool false, .int .i64 0, .int .i64 0, .int .i64 0, .slice none 0 0] := hF.get 2 _ rfl (.inr p2)
                    subst e2
                    obtain ⟨⟨y0, y1, y2, y3, y4, y5, y6, y7, y8⟩, g0, g1, g2, g3, g4, g5, g6, g7, g8⟩ := nine_at HGB.out
                    refine step_of ⟨none, _, _, _, _, _⟩ rfl (fun K' hK => ?_)
                    go_simp
                    refine hK.out _ _ ⟨undef, hF.put hok hna hpre hun rfl undef rfl (.inr p7) rfl (set9_at HGB.out (.int .i64 1) (.string (numS kk)) (.string (denS kk)) (.string { data := #[] }) (.bool false) (.int .i64 0) (.int .i64 0) (.int .i64 0) (.slice none 0 0)) (fun k hk => set9_other _ _ (.int .i64 1) (.string (numS kk)) (.string (denS kk)) (.string { data := #[] }) (.bool false) (.int .i64 0) (.int .i64 0) (.int .i64 0) (.slice none 0 0) hk) (put9_below hGl _ (.int .i64 1) (.string (numS kk)) (.string (denS kk)) (.string { data := #[] }) (.bool false) (.int .i64 0) (.int .i64 0) (.int .i64 0) (.slice none 0 0)), ?fr⟩
                    case fr => simp only [putO, layL]
                  · replace hge : 10 ≤ i := hgt
                    clear hgt
                    obtain rfl := eqi hi hge
                    have p8 := hpre 8 (by kernel_rfl)
                    obtain ⟨G, eG, _, hGl, hGB⟩ : ∃ G, s8 = .pointer (some ⟨G, 0, none⟩) ∧ (∀ k, none = some k → G = k) ∧ WL5.heap.size ≤ G ∧ Wr.heap[G]? = some (.cells (if listed.getD 10 false = true then #[.int .i64 1, .string (numS cn), .string (denS cn), .string { data := #[] }, .bool false, .int .i64 0, .int .i64 0, .int .i64 0, .slice none 0 0] else #[.int .i64 0, .string { data := #[] }, .string { data := #[] }, .string { data := #[] }, .bool false, .int .i64 0, .int .i64 0, .int .i64 0, .slice none 0 0]) 27 (0, 0)) := hF.get 8 _ rfl (.inr p8)
                    subst eG
                    rw [if_neg (bit_off hun)] at hGB
                    have HGB := Lib.hid hGB
                    clear hGB
                    have p6 := hpre 6 (by kernel_rfl)
                    have e6 : s6 = .agg #[.int .i64 1, .string (numS cn), .string (denS cn), .string { data := #[] }, .bool false, .int .i64 0, .int .i64 0, .int .i64 0, .slice none 0 0] := hF.get 6 _ rfl (.inr p6)
                    subst e6
                    obtain ⟨⟨y0, y1, y2, y3, y4, y5, y6, y7, y8⟩, g0, g1, g2, g3, g4, g5, g6, g7, g8⟩ := nine_at HGB.out
                    refine step_of ⟨none, _, _, _, _, _⟩ rfl (fun K' hK => ?_)
                    go_simp
                    refine hK.out _ _ ⟨undef, hF.put hok hna hpre hun rfl undef rfl (.inr p8) rfl (set9_at HGB.out (.int .i64 1) (.string (numS cn)) (.string (denS cn)) (.string { data := #[] }) (.bool false) (.int .i64 0) (.int .i64 0) (.int .i64 0) (.slice none 0 0)) (fun k hk => set9_other _ _ (.int .i64 1) (.string (numS cn)) (.string (denS cn)) (.string { data := #[] }) (.bool false) (.int .i64 0) (.int .i64 0) (.int .i64 0) (.slice none 0 0) hk) (put9_below hGl _ (.int .i64 1) (.string (numS cn)) (.string (denS cn)) (.string { data := #[] }) (.bool false) (.int .i64 0) (.int .i64 0) (.int .i64 0) (.slice none 0 0)), ?fr⟩
                    case fr => simp only [putO, layL]
          case hd =>
            rintro listed vs WB hF hall
            obtain ⟨s0, s1, s2, s3, s4, s5, s6, s7, s8, s9, s10, hvs⟩ := exl_of 11 vs (fun l => vs = l) hF.len rfl
            subst hvs
            obtain ⟨b11, e7, _, gq, k7⟩ : ∃ G, s7 = .pointer (some ⟨G, 0, none⟩) ∧ (∀ k, none = some k → G = k) ∧ _ ≤ G ∧ WB.heap[G]? = some (.cells (if listed.getD 9 false = true then #[.int .i64 1, .string (numS kk), .string (denS kk), .string { data := #[] }, .bool false, .int .i64 0, .int .i64 0, .int .i64 0, .slice none 0 0] else #[.int .i64 0, .string { data := #[] }, .string { data := #[] }, .string { data := #[] }, .bool false, .int .i64 0, .int .i64 0, .int .i64 0, .slice none 0 0]) 27 (0, 0)) := hF.get 7 _ rfl (.inr (hall 7 (by decide)))
            subst e7
            rw [if_pos (hall 9 (by decide))] at k7
            have H11 := Lib.hid k7
            clear k7 gq
            obtain ⟨b12, e8, _, gq, k8⟩ : ∃ G, s8 = .pointer (some ⟨G, 0, none⟩) ∧ (∀ k, none = some k → G = k) ∧ _ ≤ G ∧ WB.heap[G]? = some (.cells (if listed.getD 10 false = true then #[.int .i64 1, .string (numS cn), .string (denS cn), .string { data := #[] }, .bool false, .int .i64 0, .int .i64 0, .int .i64 0, .slice none 0 0] else #[.int .i64 0, .string { data := #[] }, .string { data := #[] }, .string { data := #[] }, .bool false, .int .i64 0, .int .i64 0, .int .i64 0, .slice none 0 0]) 27 (0, 0)) := hF.get 8 _ rfl (.inr (hall 8 (by decide)))
            subst e8
            rw [if_pos (hall 10 (by decide))] at k8
            have H12 := Lib.hid k8
            clear k8 gq
            have hq := below_none hF.low
            replace HE := Lib.hid (HE.out.below hq)
            replace HL := Lib.hid (HL.out.trans (hq.mono HL.out.size))
            replace H5 := Lib.hid (keep_block H5.out hq)
            replace H6 := Lib.hid (keep_block H6.out hq)
            replace H7 := Lib.hid (keep_block H7.out hq)
            replace H10 := Lib.hid (keep_block H10.out hq)
            replace HV := Lib.hid (HV.out.below hq)
            replace HVb := Lib.hid (HVb.out.below hq)
            clear hq
            clear hF hall hok hna hla
            simp only [putO, layL]
            go_wp2_with fail
            have hok : okB 44 (MovKs16 k g cap g2 cap2 B5 BB d m kk u y vp m2 cn w1 w2) = true := by kernel_rfl
            have hna := noAny_of (ks := (MovKs16 k g cap g2 cap2 B5 BB d m kk u y vp m2 cn w1 w2)) (by kernel_rfl)
            have hla := lasts_of hna
            refine wp_region_facts (row := none) (w := WB) 44 (MovKs16 k g cap g2 cap2 B5 BB d m kk u y vp m2 cn w1 w2) [some 58, some 59, some 60, some 61, some 62, some 63, some 64, some 65, some 66, some 67, some 68, some 69, some 70, some 71, some 72, some 73, some 74, some 75, some 76, some 77, some 78, some 79, some 80, some 81, some 82, some 83, some 84, some 85, some 86, some 87, some 88, some 89, some 90, some 91, some 92, some 93, some 94, some 95, some 96, some 97, some 98, some 99, some 100, some 4] (by kernel_rfl) (by kernel_rfl) rfl [u58, u59, u60, u61, u62, u63, u64, u65, u66, u67, u68, u69, u70, u71, u72, u73, u74, u75, u76, u77, u78, u79, u80, u81, u82, u83, u84, u85, u86, u87, u88, u89, u90, u91, u92, u93, u94, u95, u96, u97, u98, u99, u100, (.bool false)] ?h00 (Fs.start rfl rfl) ?hs ?hd
            case h00 => simp only [putO, layL]
            case hs =>
              rintro listed vs Wr hF i hi hun hpre
              obtain ⟨s0, s1, s2, s3, s4, s5, s6, s7, s8, s9, s10, s11, s12, s13, s14, s15, s16, s17, s18, s19, s20, s21, s22, s23, s24, s25, s26, s27, s28, s29, s30, s31, s32, s33, s34, s35, s36, s37, s38, s39, s40, s41, s42, s43, hvs⟩ := exl_of 44 vs (fun l => vs = l) hF.len rfl
              subst hvs
              have hge := Nat.zero_le i
              simp only [putO, layL]
              rcases Nat.lt_or_ge i 22 with hlt | hgt
              · replace hi := hlt
                clear hlt
                rcases Nat.lt_or_ge i 11 with hlt | hgt
                · replace hi := hlt
                  clear hlt
                  rcases Nat.lt_or_ge i 5 with hlt | hgt
                  · replace hi := hlt
                    clear hlt
                    rcases Nat.lt_or_ge i 2 with hlt | hgt
                    · replace hi := hlt
                      clear hlt
                      rcases Nat.lt_or_ge i 1 with hlt | hgt
                      · replace hi := hlt
                        clear hlt
                        obtain rfl := eqi hi hge
                        have hcc := (nine_at (keep_block H7.out (below_none hF.low))).1
                        have cH70 := hcc.1
                        have cH71 := hcc.2.1
                        have cH72 := hcc.2.2.1
                        have cH73 := hcc.2.2.2.1
                        have cH74 := hcc.2.2.2.2.1
                        have cH75 := hcc.2.2.2.2.2.1
                        have cH76 := hcc.2.2.2.2.2.2.1
                        have cH77 := hcc.2.2.2.2.2.2.2.1
                        have cH78 := hcc.2.2.2.2.2.2.2.2
                        clear hcc
                        refine step_of ⟨some 58, _, _, _, _, _⟩ rfl (fun K' hK => ?_)
                        go_simp
                        refine hK.out _ _ ⟨_, hF.pure hok hla hpre rfl (Below.refl _ _), ?fr⟩
                        case fr => simp only [putO, layL]
                      · replace hge : 1 ≤ i := hgt
                        clear hgt
                        obtain rfl := eqi hi hge
                        have p0 := hpre 0 (by kernel_rfl)
                        have e0 : s0 = .agg #[.int .i64 5, .string { data := #[] }, .string { data := #[] }, .string { data := #[] }, .bool false, .int .i64 0, .int .i64 1, .int .i64 (k : Int), .slice (some ⟨g2, 0, none⟩) k cap2] := hF.get 0 _ rfl (.inr p0)
                        subst e0
                        refine step_of ⟨some 59, _, _, _, _, _⟩ rfl (fun K' hK => ?_)
                        go_simp
                        refine hK.out _ _ ⟨_, hF.row hok hla hpre rfl, ?fr⟩
                        case fr => simp only [putO, layL]
                    · replace hge : 2 ≤ i := hgt
                      clear hgt
                      rcases Nat.lt_or_ge i 3 with hlt | hgt
                      · replace hi := hlt
                        clear hlt
                        obtain rfl := eqi hi hge
                        have p1 := hpre 1 (by kernel_rfl)
                        obtain ⟨G, eG, _, hGB⟩ : ∃ G, s1 = .slice (some ⟨G, 0, none⟩) 1 1 ∧ _ ≤ G ∧ Wr.heap[G]? = some (.cells #[.int .i64 5, .string { data := #[] }, .string { data := #[] }, .string { data := #[] }, .bool false, .int .i64 0, .int .i64 1, .int .i64 (k : Int), .slice (some ⟨g2, 0, none⟩) k cap2] 27 (0, 0)) := hF.get 1 _ rfl (.inr p1)
                        subst eG
                        refine step_of ⟨some 60, _, _, _, _, _⟩ rfl (fun K' hK => ?_)
                        go_simp
                        go_at_call 9
                        (with_reducible refine (R1.on QrA2.out _ _ _ _ hGB (HVb.out.below (below_none hF.low)) (HE.out.below (below_none hF.low))).mono ?_)
                        rintro e Wq ⟨rfl, hq⟩
                        refine hK.out _ _ ⟨_, hF.pure hok hla hpre rfl hq, ?fr⟩
                        case fr => simp only [putO, layL]
                      · replace hge : 3 ≤ i := hgt
                        clear hgt
                        rcases Nat.lt_or_ge i 4 with hlt | hgt
                        · replace hi := hlt
                          clear hlt
                          obtain rfl := eqi hi hge
                          have hcc := (nine_at (keep_block H10.out (below_none hF.low))).1
                          have cH100 := hcc.1
                          have cH101 := hcc.2.1
                          have cH102 := hcc.2.2.1
                          have cH103 := hcc.2.2.2.1
                          have cH104 := hcc.2.2.2.2.1
                          have cH105 := hcc.2.2.2.2.2.1
                          have cH106 := hcc.2.2.2.2.2.2.1
                          have cH107 := hcc.2.2.2.2.2.2.2.1
                          have cH108 := hcc.2.2.2.2.2.2.2.2
                          clear hcc
                          refine step_of ⟨some 61, _, _, _, _, _⟩ rfl (fun K' hK => ?_)
                          go_simp
                          refine hK.out _ _ ⟨_, hF.pure hok hla hpre rfl (Below.refl _ _), ?fr⟩
                          case fr => simp only [putO, layL]
                        · replace hge : 4 ≤ i := hgt
                          clear hgt
                          obtain rfl := eqi hi hge
                          have hcc := (nine_at (keep_block H6.out (below_none hF.low))).1
                          have cH60 := hcc.1
                          have cH61 := hcc.2.1
                          have cH62 := hcc.2.2.1
                          have cH63 := hcc.2.2.2.1
                          have cH64 := hcc.2.2.2.2.1
                          have cH65 := hcc.2.2.2.2.2.1
                          have cH66 := hcc.2.2.2.2.2.2.1
                          have cH67 := hcc.2.2.2.2.2.2.2.1
                          have cH68 := hcc.2.2.2.2.2.2.2.2
                          clear hcc
                          refine step_of ⟨some 62, _, _, _, _, _⟩ rfl (fun K' hK => ?_)
                          go_simp
                          refine hK.out _ _ ⟨_, hF.pure hok hla hpre rfl (Below.refl _ _), ?fr⟩
                          case fr => simp only [putO, layL]
                  · replace hge : 5 ≤ i := hgt
                    clear hgt
                    rcases Nat.lt_or_ge i 8 with hlt | hgt
                    · replace hi := hlt
                      clear hlt
                      rcases Nat.lt_or_ge i 6 with hlt | hgt
                      · replace hi := hlt
                        clear hlt
                        obtain rfl := eqi hi hge
                        have p3 := hpre 3 (by kernel_rfl)
                        have e3 : s3 = .agg #[.int .i64 1, .string (numS m), .string (denS m), .string { data := #[] }, .bool false, .int .i64 0, .int .i64 0, .int .i64 0, .slice none 0 0] := hF.get 3 _ rfl (.inr p3)
                        subst e3
                        have p4 := hpre 4 (by kernel_rfl)
                        have e4 : s4 = .agg #[.int .i64 1, .string (numS d), .string (denS d), .string { data := #[] }, .bool false, .int .i64 0, .int .i64 0, .int .i64 0, .slice none 0 0] := hF.get 4 _ rfl (.inr p4)
                        subst e4
                        refine step_of ⟨some 63, _, _, _, _, _⟩ rfl (fun K' hK => ?_)
                        go_simp
                        go_at_call 8
                        (with_reducible refine (QtM.out _ (HE.out.below (below_none hF.low))).mono ?_)
                        rintro e Wq ⟨rfl, hq⟩
                        refine hK.out _ _ ⟨_, hF.pure hok hla hpre rfl hq, ?fr⟩
                        case fr => simp only [putO, layL]
                      · replace hge : 6 ≤ i := hgt
                        clear hgt
                        rcases Nat.lt_or_ge i 7 with hlt | hgt
                        · replace hi := hlt
                          clear hlt
                          obtain rfl := eqi hi hge
                          have p2 := hpre 2 (by kernel_rfl)
                          have e2 : s2 = .agg #[.int .i64 1, .string (numS m2), .string (denS m2), .string { data := #[] }, .bool false, .int .i64 0, .int .i64 0, .int .i64 0, .slice none 0 0] := hF.get 2 _ rfl (.inr p2)
                          subst e2
                          have p5 := hpre 5 (by kernel_rfl)
                          have e5 : s5 = .agg #[.int .i64 1, .string (numS m2), .string (denS m2), .string { data := #[] }, .bool false, .int .i64 0, .int .i64 0, .int .i64 0, .slice none 0 0] := hF.get 5 _ rfl (.inr p5)
                          subst e5
                          refine step_of ⟨some 64, _, _, _, _, _⟩ rfl (fun K' hK => ?_)
                          go_simp
                          go_at_call 11
                          (with_reducible refine (same_one m2 _).mono ?_)
                          rintro e Wq ⟨rfl, hq⟩
                          refine hK.out _ _ ⟨_, hF.pure hok hla hpre rfl hq, ?fr⟩
                          case fr => simp only [putO, layL]
                        · replace hge : 7 ≤ i := hgt
                          clear hgt
                          obtain rfl := eqi hi hge
                          have p6 := hpre 6 (by kernel_rfl)
                          have e6 : s6 = .bool true := hF.get 6 _ rfl (.inr p6)
                          subst e6
                          refine step_of ⟨some 65, _, _, _, _, _⟩ rfl (fun K' hK => ?_)
                          go_simp
                          refine hK.out _ _ ⟨_, hF.pure hok hla hpre rfl (Below.refl _ _), ?fr⟩
                          case fr => simp only [putO, layL]
                    · replace hge : 8 ≤ i := hgt
                      clear hgt
                      rcases Nat.lt_or_ge i 9 with hlt | hgt
                      · replace hi := hlt
                        clear hlt
                        obtain rfl := eqi hi hge
                        have p7 := hpre 7 (by kernel_rfl)
                        have e7 : s7 = .bool true := hF.get 7 _ rfl (.inr p7)
                        subst e7
                        have hcc := (nine_at (keep_block H7.out (below_none hF.low))).1
                        have cH70 := hcc.1
                        have cH71 := hcc.2.1
                        have cH72 := hcc.2.2.1
                        have cH73 := hcc.2.2.2.1
                        have cH74 := hcc.2.2.2.2.1
                        have cH75 := hcc.2.2.2.2.2.1
                        have cH76 := hcc.2.2.2.2.2.2.1
                        have cH77 := hcc.2.2.2.2.2.2.2.1
                        have cH78 := hcc.2.2.2.2.2.2.2.2
                        clear hcc
                        refine step_of ⟨some 66, _, _, _, _, _⟩ rfl (fun K' hK => ?_)
                        rw [if_pos (by rfl)]
                        go_simp
                        refine hK.out _ _ ⟨_, hF.pure hok hla hpre rfl (Below.refl _ _), ?fr⟩
                        case fr => simp only [putO, layL]
                      · replace hge : 9 ≤ i := hgt
                        clear hgt
                        rcases Nat.lt_or_ge i 10 with hlt | hgt
                        · replace hi := hlt
                          clear hlt
                          obtain rfl := eqi hi hge
                          have p8 := hpre 8 (by kernel_rfl)
                          have e8 : s8 = .agg #[.int .i64 5, .string { data := #[] }, .string { data := #[] }, .string { data := #[] }, .bool false, .int .i64 0, .int .i64 1, .int .i64 (k : Int), .slice (some ⟨g2, 0, none⟩) k cap2] := hF.get 8 _ rfl (.inr p8)
                          subst e8
                          have p7 := hpre 7 (by kernel_rfl)
                          have e7 : s7 = .bool true := hF.get 7 _ rfl (.inr p7)
                          subst e7
                          refine step_of ⟨some 67, _, _, _, _, _⟩ rfl (fun K' hK => ?_)
                          rw [if_pos (by rfl)]
                          go_simp
                          refine hK.out _ _ ⟨_, hF.row hok hla hpre rfl, ?fr⟩
                          case fr => simp only [putO, layL]
                        · replace hge : 10 ≤ i := hgt
                          clear hgt
                          obtain rfl := eqi hi hge
                          have p9 := hpre 9 (by kernel_rfl)
                          obtain ⟨G, eG, _, hGB⟩ : ∃ G, s9 = .slice (some ⟨G, 0, none⟩) 1 1 ∧ _ ≤ G ∧ Wr.heap[G]? = some (.cells #[.int .i64 5, .string { data := #[] }, .string { data := #[] }, .string { data := #[] }, .bool false, .int .i64 0, .int .i64 1, .int .i64 (k : Int), .slice (some ⟨g2, 0, none⟩) k cap2] 27 (0, 0)) := hF.get 9 _ rfl (.inr p9)
                          subst eG
                          have p7 := hpre 7 (by kernel_rfl)
                          have e7 : s7 = .bool true := hF.get 7 _ rfl (.inr p7)
                          subst e7
                          refine step_of ⟨some 68, _, _, _, _, _⟩ rfl (fun K' hK => ?_)
                          rw [if_pos (by rfl)]
                          go_simp
                          go_at_call 9
                          (with_reducible refine (R1.on QrV2.out _ _ _ _ hGB (HVb.out.below (below_none hF.low)) (HE.out.below (below_none hF.low))).mono ?_)
                          rintro e Wq ⟨rfl, hq⟩
                          refine hK.out _ _ ⟨_, hF.pure hok hla hpre rfl hq, ?fr⟩
                          case fr => simp only [putO, layL]
                · replace hge : 11 ≤ i := hgt
                  clear hgt
                  rcases Nat.lt_or_ge i 16 with hlt | hgt
                  · replace hi := hlt
                    clear hlt
                    rcases Nat.lt_or_ge i 13 with hlt | hgt
                    · replace hi := hlt
                      clear hlt
                      rcases Nat.lt_or_ge i 12 with hlt | hgt
                      · replace hi := hlt
                        clear hlt
                        obtain rfl := eqi hi hge
                        have p7 := hpre 7 (by kernel_rfl)
                        have e7 : s7 = .bool true := hF.get 7 _ rfl (.inr p7)
                        subst e7
                        have hcc := (nine_at (keep_block H11.out (below_none hF.low))).1
                        have cH110 := hcc.1
                        have cH111 := hcc.2.1
                        have cH112 := hcc.2.2.1
                        have cH113 := hcc.2.2.2.1
                        have cH114 := hcc.2.2.2.2.1
                        have cH115 := hcc.2.2.2.2.2.1
                        have cH116 := hcc.2.2.2.2.2.2.1
                        have cH117 := hcc.2.2.2.2.2.2.2.1
                        have cH118 := hcc.2.2.2.2.2.2.2.2
                        clear hcc
                        refine step_of ⟨some 69, _, _, _, _, _⟩ rfl (fun K' hK => ?_)
                        rw [if_pos (by rfl)]
                        go_simp
                        refine hK.out _ _ ⟨_, hF.pure hok hla hpre rfl (Below.refl _ _), ?fr⟩
                        case fr => simp only [putO, layL]
                      · replace hge : 12 ≤ i := hgt
                        clear hgt
                        obtain rfl := eqi hi hge
                        have p10 := hpre 10 (by kernel_rfl)
                        have e10 : s10 = .agg #[.int .i64 1, .string (numS kk), .string (denS kk), .string { data := #[] }, .bool false, .int .i64 0, .int .i64 0, .int .i64 0, .slice none 0 0] := hF.get 10 _ rfl (.inr p10)
                        subst e10
                        have p11 := hpre 11 (by kernel_rfl)
                        have e11 : s11 = .agg #[.int .i64 1, .string (numS kk), .string (denS kk), .string { data := #[] }, .bool false, .int .i64 0, .int .i64 0, .int .i64 0, .slice none 0 0] := hF.get 11 _ rfl (.inr p11)
                        subst e11
                        have p7 := hpre 7 (by kernel_rfl)
                        have e7 : s7 = .bool true := hF.get 7 _ rfl (.inr p7)
                        subst e7
                        refine step_of ⟨some 70, _, _, _, _, _⟩ rfl (fun K' hK => ?_)
                        rw [if_pos (by rfl)]
                        go_simp
                        go_at_call 11
                        (with_reducible refine (same_one kk _).mono ?_)
                        rintro e Wq ⟨rfl, hq⟩
                        refine hK.out _ _ ⟨_, hF.pure hok hla hpre rfl hq, ?fr⟩
                        case fr => simp only [putO, layL]
                    · replace hge : 13 ≤ i := hgt
                      clear hgt
                      rcases Nat.lt_or_ge i 14 with hlt | hgt
                      · replace hi := hlt
                        clear hlt
                        obtain rfl := eqi hi hge
                        have p7 := hpre 7 (by kernel_rfl)
                        have e7 : s7 = .bool true := hF.get 7 _ rfl (.inr p7)
                        subst e7
                        have p12 := hpre 12 (by kernel_rfl)
                        have e12 : s12 = .bool true := hF.get 12 _ rfl (.inr p12)
                        subst e12
                        refine step_of ⟨some 71, _, _, _, _, _⟩ rfl (fun K' hK => ?_)
                        go_simp
                        refine hK.out _ _ ⟨_, hF.pure hok hla hpre rfl (Below.refl _ _), ?fr⟩
                        case fr => simp only [putO, layL]
                      · replace hge : 14 ≤ i := hgt
                        clear hgt
                        rcases Nat.lt_or_ge i 15 with hlt | hgt
                        · replace hi := hlt
                          clear hlt
                          obtain rfl := eqi hi hge
                          have p13 := hpre 13 (by kernel_rfl)
                          have e13 : s13 = .bool true := hF.get 13 _ rfl (.inr p13)
                          subst e13
                          refine step_of ⟨some 72, _, _, _, _, _⟩ rfl (fun K' hK => ?_)
                          go_simp
                          refine hK.out _ _ ⟨_, hF.pure hok hla hpre rfl (Below.refl _ _), ?fr⟩
                          case fr => simp only [putO, layL]
                        · replace hge : 15 ≤ i := hgt
                          clear hgt
                          obtain rfl := eqi hi hge
                          have p14 := hpre 14 (by kernel_rfl)
                          have e14 : s14 = .bool true := hF.get 14 _ rfl (.inr p14)
                          subst e14
                          have hcc := (nine_at (keep_block H7.out (below_none hF.low))).1
                          have cH70 := hcc.1
                          have cH71 := hcc.2.1
                          have cH72 := hcc.2.2.1
                          have cH73 := hcc.2.2.2.1
                          have cH74 := hcc.2.2.2.2.1
                          have cH75 := hcc.2.2.2.2.2.1
                          have cH76 := hcc.2.2.2.2.2.2.1
                          have cH77 := hcc.2.2.2.2.2.2.2.1
                          have cH78 := hcc.2.2.2.2.2.2.2.2
                          clear hcc
                          refine step_of ⟨some 73, _, _, _, _, _⟩ rfl (fun K' hK => ?_)
                          rw [if_pos (by rfl)]
                          go_simp
                          refine hK.out _ _ ⟨_, hF.pure hok hla hpre rfl (Below.refl _ _), ?fr⟩
                          case fr => simp only [putO, layL]
                  · replace hge : 16 ≤ i := hgt
                    clear hgt
                    rcases Nat.lt_or_ge i 19 with hlt | hgt
                    · replace hi := hlt
                      clear hlt
                      rcases Nat.lt_or_ge i 17 with hlt | hgt
                      · replace hi := hlt
                        clear hlt
                        obtain rfl := eqi hi hge
                        have p15 := hpre 15 (by kernel_rfl)
                        have e15 : s15 = .agg #[.int .i64 5, .string { data := #[] }, .string { data := #[] }, .string { data := #[] }, .bool false, .int .i64 0, .int .i64 1, .int .i64 (k : Int), .slice (some ⟨g2, 0, none⟩) k cap2] := hF.get 15 _ rfl (.inr p15)
                        subst e15
                        have p14 := hpre 14 (by kernel_rfl)
                        have e14 : s14 = .bool true := hF.get 14 _ rfl (.inr p14)
                        subst e14
                        refine step_of ⟨some 74, _, _, _, _, _⟩ rfl (fun K' hK => ?_)
                        rw [if_pos (by rfl)]
                        go_simp
                        refine hK.out _ _ ⟨_, hF.row hok hla hpre rfl, ?fr⟩
                        case fr => simp only [putO, layL]
                      · replace hge : 17 ≤ i := hgt
                        clear hgt
                        rcases Nat.lt_or_ge i 18 with hlt | hgt
                        · replace hi := hlt
                          clear hlt
                          obtain rfl := eqi hi hge
                          have p16 := hpre 16 (by kernel_rfl)
                          obtain ⟨G, eG, _, hGB⟩ : ∃ G, s16 = .slice (some ⟨G, 0, none⟩) 1 1 ∧ _ ≤ G ∧ Wr.heap[G]? = some (.cells #[.int .i64 5, .string { data := #[] }, .string { data := #[] }, .string { data := #[] }, .bool false, .int .i64 0, .int .i64 1, .int .i64 (k : Int), .slice (some ⟨g2, 0, none⟩) k cap2] 27 (0, 0)) := hF.get 16 _ rfl (.inr p16)
                          subst eG
                          have p14 := hpre 14 (by kernel_rfl)
                          have e14 : s14 = .bool true := hF.get 14 _ rfl (.inr p14)
                          subst e14
                          refine step_of ⟨some 75, _, _, _, _, _⟩ rfl (fun K' hK => ?_)
                          rw [if_pos (by rfl)]
                          go_simp
                          go_at_call 9
                          (with_reducible refine (R1.on QrD2.out _ _ _ _ hGB (HVb.out.below (below_none hF.low)) (HE.out.below (below_none hF.low))).mono ?_)
                          rintro e Wq ⟨rfl, hq⟩
                          refine hK.out _ _ ⟨_, hF.pure hok hla hpre rfl hq, ?fr⟩
                          case fr => simp only [putO, layL]
                        · replace hge : 18 ≤ i := hgt
                          clear hgt
                          obtain rfl := eqi hi hge
                          have p14 := hpre 14 (by kernel_rfl)
                          have e14 : s14 = .bool true := hF.get 14 _ rfl (.inr p14)
                          subst e14
                          have hcc := (nine_at (keep_block H5.out (below_none hF.low))).1
                          have cH50 := hcc.1
                          have cH51 := hcc.2.1
                          have cH52 := hcc.2.2.1
                          have cH53 := hcc.2.2.2.1
                          have cH54 := hcc.2.2.2.2.1
                          have cH55 := hcc.2.2.2.2.2.1
                          have cH56 := hcc.2.2.2.2.2.2.1
                          have cH57 := hcc.2.2.2.2.2.2.2.1
                          have cH58 := hcc.2.2.2.2.2.2.2.2
                          clear hcc
                          refine step_of ⟨some 76, _, _, _, _, _⟩ rfl (fun K' hK => ?_)
                          rw [if_pos (by rfl)]
                          go_simp
                          refine hK.out _ _ ⟨_, hF.pure hok hla hpre rfl (Below.refl _ _), ?fr⟩
                          case fr => simp only [putO, layL]
                    · replace hge : 19 ≤ i := hgt
                      clear hgt
                      rcases Nat.lt_or_ge i 20 with hlt | hgt
                      · replace hi := hlt
                        clear hlt
                        obtain rfl := eqi hi hge
                        have p18 := hpre 18 (by kernel_rfl)
                        have e18 : s18 = .agg #[.int .i64 5, .string { data := #[] }, .string { data := #[] }, .string { data := #[] }, .bool false, .int .i64 0, .int .i64 1, .int .i64 (k : Int), .slice (some ⟨g, 0, none⟩) k cap] := hF.get 18 _ rfl (.inr p18)
                        subst e18
                        have p14 := hpre 14 (by kernel_rfl)
                        have e14 : s14 = .bool true := hF.get 14 _ rfl (.inr p14)
                        subst e14
                        refine step_of ⟨some 77, _, _, _, _, _⟩ rfl (fun K' hK => ?_)
                        rw [if_pos (by rfl)]
                        go_simp
                        refine hK.out _ _ ⟨_, hF.row hok hla hpre rfl, ?fr⟩
                        case fr => simp only [putO, layL]
                      · replace hge : 20 ≤ i := hgt
                        clear hgt
                        rcases Nat.lt_or_ge i 21 with hlt | hgt
                        · replace hi := hlt
                          clear hlt
                          obtain rfl := eqi hi hge
                          have p19 := hpre 19 (by kernel_rfl)
                          obtain ⟨G, eG, _, hGB⟩ : ∃ G, s19 = .slice (some ⟨G, 0, none⟩) 1 1 ∧ _ ≤ G ∧ Wr.heap[G]? = some (.cells #[.int .i64 5, .string { data := #[] }, .string { data := #[] }, .string { data := #[] }, .bool false, .int .i64 0, .int .i64 1, .int .i64 (k : Int), .slice (some ⟨g, 0, none⟩) k cap] 27 (0, 0)) := hF.get 19 _ rfl (.inr p19)
                          subst eG
                          have p14 := hpre 14 (by kernel_rfl)
                          have e14 : s14 = .bool true := hF.get 14 _ rfl (.inr p14)
                          subst e14
                          refine step_of ⟨some 78, _, _, _, _, _⟩ rfl (fun K' hK => ?_)
                          rw [if_pos (by rfl)]
                          go_simp
                          go_at_call 9
                          (with_reducible refine (R1.on QrD.out _ _ _ _ hGB (HV.out.below (below_none hF.low)) (HE.out.below (below_none hF.low))).mono ?_)
                          rintro e Wq ⟨rfl, hq⟩
                          refine hK.out _ _ ⟨_, hF.pure hok hla hpre rfl hq, ?fr⟩
                          case fr => simp only [putO, layL]
                        · replace hge : 21 ≤ i := hgt
                          clear hgt
                          obtain rfl := eqi hi hge
                          have p17 := hpre 17 (by kernel_rfl)
                          have e17 : s17 = .agg #[.int .i64 1, .string (numS u), .string (denS u), .string { data := #[] }, .bool false, .int .i64 0, .int .i64 0, .int .i64 0, .slice none 0 0] := hF.get 17 _ rfl (.inr p17)
                          subst e17
                          have p20 := hpre 20 (by kernel_rfl)
                          have e20 : s20 = .agg #[.int .i64 1, .string (numS u), .string (denS u), .string { data := #[] }, .bool false, .int .i64 0, .int .i64 0, .int .i64 0, .slice none 0 0] := hF.get 20 _ rfl (.inr p20)
                          subst e20
                          have p14 := hpre 14 (by kernel_rfl)
                          have e14 : s14 = .bool true := hF.get 14 _ rfl (.inr p14)
                          subst e14
                          refine step_of ⟨some 79, _, _, _, _, _⟩ rfl (fun K' hK => ?_)
                          rw [if_pos (by rfl)]
                          go_simp
                          go_at_call 11
                          (with_reducible refine (same_one u _).mono ?_)
                          rintro e Wq ⟨rfl, hq⟩
                          refine hK.out _ _ ⟨_, hF.pure hok hla hpre rfl hq, ?fr⟩
                          case fr => simp only [putO, layL]
              · replace hge : 22 ≤ i := hgt
                clear hgt
                rcases Nat.lt_or_ge i 33 with hlt | hgt
                · replace hi := hlt
                  clear hlt
                  rcases Nat.lt_or_ge i 27 with hlt | hgt
                  · replace hi := hlt
                    clear hlt
                    rcases Nat.lt_or_ge i 24 with hlt | hgt
                    · replace hi := hlt
                      clear hlt
                      rcases Nat.lt_or_ge i 23 with hlt | hgt
                      · replace hi := hlt
                        clear hlt
                        obtain rfl := eqi hi hge
                        have p14 := hpre 14 (by kernel_rfl)
                        have e14 : s14 = .bool true := hF.get 14 _ rfl (.inr p14)
                        subst e14
                        have p21 := hpre 21 (by kernel_rfl)
                        have e21 : s21 = .bool true := hF.get 21 _ rfl (.inr p21)
                        subst e21
                        refine step_of ⟨some 80, _, _, _, _, _⟩ rfl (fun K' hK => ?_)
                        go_simp
                        refine hK.out _ _ ⟨_, hF.pure hok hla hpre rfl (Below.refl _ _), ?fr⟩
                        case fr => simp only [putO, layL]
                      · replace hge : 23 ≤ i := hgt
                        clear hgt
                        obtain rfl := eqi hi hge
                        have p22 := hpre 22 (by kernel_rfl)
                        have e22 : s22 = .bool true := hF.get 22 _ rfl (.inr p22)
                        subst e22
                        refine step_of ⟨some 81, _, _, _, _, _⟩ rfl (fun K' hK => ?_)
                        go_simp
                        refine hK.out _ _ ⟨_, hF.pure hok hla hpre rfl (Below.refl _ _), ?fr⟩
                        case fr => simp only [putO, layL]
                    · replace hge : 24 ≤ i := hgt
                      clear hgt
                      rcases Nat.lt_or_ge i 25 with hlt | hgt
                      · replace hi := hlt
                        clear hlt
                        obtain rfl := eqi hi hge
                        have p23 := hpre 23 (by kernel_rfl)
                        have e23 : s23 = .bool true := hF.get 23 _ rfl (.inr p23)
                        subst e23
                        have hcc := (nine_at (keep_block H11.out (below_none hF.low))).1
                        have cH110 := hcc.1
                        have cH111 := hcc.2.1
                        have cH112 := hcc.2.2.1
                        have cH113 := hcc.2.2.2.1
                        have cH114 := hcc.2.2.2.2.1
                        have cH115 := hcc.2.2.2.2.2.1
                        have cH116 := hcc.2.2.2.2.2.2.1
                        have cH117 := hcc.2.2.2.2.2.2.2.1
                        have cH118 := hcc.2.2.2.2.2.2.2.2
                        clear hcc
                        refine step_of ⟨some 82, _, _, _, _, _⟩ rfl (fun K' hK => ?_)
                        rw [if_pos (by rfl)]
                        go_simp
                        refine hK.out _ _ ⟨_, hF.pure hok hla hpre rfl (Below.refl _ _), ?fr⟩
                        case fr => simp only [putO, layL]
                      · replace hge : 25 ≤ i := hgt
                        clear hgt
                        rcases Nat.lt_or_ge i 26 with hlt | hgt
                        · replace hi := hlt
                          clear hlt
                          obtain rfl := eqi hi hge
                          have p23 := hpre 23 (by kernel_rfl)
                          have e23 : s23 = .bool true := hF.get 23 _ rfl (.inr p23)
                          subst e23
                          have hcc := (nine_at (keep_block H12.out (below_none hF.low))).1
                          have cH120 := hcc.1
                          have cH121 := hcc.2.1
                          have cH122 := hcc.2.2.1
                          have cH123 := hcc.2.2.2.1
                          have cH124 := hcc.2.2.2.2.1
                          have cH125 := hcc.2.2.2.2.2.1
                          have cH126 := hcc.2.2.2.2.2.2.1
                          have cH127 := hcc.2.2.2.2.2.2.2.1
                          have cH128 := hcc.2.2.2.2.2.2.2.2
                          clear hcc
                          refine step_of ⟨some 83, _, _, _, _, _⟩ rfl (fun K' hK => ?_)
                          rw [if_pos (by rfl)]
                          go_simp
                          refine hK.out _ _ ⟨_, hF.pure hok hla hpre rfl (Below.refl _ _), ?fr⟩
                          case fr => simp only [putO, layL]
                        · replace hge : 26 ≤ i := hgt
                          clear hgt
                          obtain rfl := eqi hi hge
                          have p24 := hpre 24 (by kernel_rfl)
                          have e24 : s24 = .agg #[.int .i64 1, .string (numS kk), .string (denS kk), .string { data := #[] }, .bool false, .int .i64 0, .int .i64 0, .int .i64 0, .slice none 0 0] := hF.get 24 _ rfl (.inr p24)
                          subst e24
                          have p25 := hpre 25 (by kernel_rfl)
                          have e25 : s25 = .agg #[.int .i64 1, .string (numS cn), .string (denS cn), .string { data := #[] }, .bool false, .int .i64 0, .int .i64 0, .int .i64 0, .slice none 0 0] := hF.get 25 _ rfl (.inr p25)
                          subst e25
                          have p23 := hpre 23 (by kernel_rfl)
                          have e23 : s23 = .bool true := hF.get 23 _ rfl (.inr p23)
                          subst e23
                          refine step_of ⟨some 84, _, _, _, _, _⟩ rfl (fun K' hK => ?_)
                          rw [if_pos (by rfl)]
                          go_simp
                          refine hK.out _ _ ⟨_, hF.row hok hla hpre rfl, ?fr⟩
                          case fr => simp only [putO, layL]
                  · replace hge : 27 ≤ i := hgt
                    clear hgt
                    rcases Nat.lt_or_ge i 30 with hlt | hgt
                    · replace hi := hlt
                      clear hlt
                      rcases Nat.lt_or_ge i 28 with hlt | hgt
                      · replace hi := hlt
                        clear hlt
                        obtain rfl := eqi hi hge
                        have p26 := hpre 26 (by kernel_rfl)
                        obtain ⟨G, eG, _, hGB⟩ : ∃ G, s26 = .slice (some ⟨G, 0, none⟩) 2 2 ∧ _ ≤ G ∧ Wr.heap[G]? = some (.cells #[.int .i64 1, .string (numS kk), .string (denS kk), .string { data := #[] }, .bool false, .int .i64 0, .int .i64 0, .int .i64 0, .slice none 0 0, .int .i64 1, .string (numS cn), .string (denS cn), .string { data := #[] }, .bool false, .int .i64 0, .int .i64 0, .int .i64 0, .slice none 0 0] 27 (0, 0)) := hF.get 26 _ rfl (.inr p26)
                        subst eG
                        have p23 := hpre 23 (by kernel_rfl)
                        have e23 : s23 = .bool true := hF.get 23 _ rfl (.inr p23)
                        subst e23
                        refine step_of ⟨some 85, _, _, _, _, _⟩ rfl (fun K' hK => ?_)
                        rw [if_pos (by rfl)]
                        go_simp
                        go_at_call 12
                        (with_reducible refine (P2.on QpK.out _ _ hGB (HE.out.below (below_none hF.low))).mono ?_)
                        rintro e Wq ⟨rfl, hq⟩
                        refine hK.out _ _ ⟨_, hF.pure hok hla hpre rfl hq, ?fr⟩
                        case fr => simp only [putO, layL]
                      · replace hge : 28 ≤ i := hgt
                        clear hgt
                        rcases Nat.lt_or_ge i 29 with hlt | hgt
                        · replace hi := hlt
                          clear hlt
                          obtain rfl := eqi hi hge
                          have p23 := hpre 23 (by kernel_rfl)
                          have e23 : s23 = .bool true := hF.get 23 _ rfl (.inr p23)
                          subst e23
                          have hcc := (nine_at (keep_block H5.out (below_none hF.low))).1
                          have cH50 := hcc.1
                          have cH51 := hcc.2.1
                          have cH52 := hcc.2.2.1
                          have cH53 := hcc.2.2.2.1
                          have cH54 := hcc.2.2.2.2.1
                          have cH55 := hcc.2.2.2.2.2.1
                          have cH56 := hcc.2.2.2.2.2.2.1
                          have cH57 := hcc.2.2.2.2.2.2.2.1
                          have cH58 := hcc.2.2.2.2.2.2.2.2
                          clear hcc
                          refine step_of ⟨some 86, _, _, _, _, _⟩ rfl (fun K' hK => ?_)
                          rw [if_pos (by rfl)]
                          go_simp
                          refine hK.out _ _ ⟨_, hF.pure hok hla hpre rfl (Below.refl _ _), ?fr⟩
                          case fr => simp only [putO, layL]
                        · replace hge : 29 ≤ i := hgt
                          clear hgt
                          obtain rfl := eqi hi hge
                          have p28 := hpre 28 (by kernel_rfl)
                          have e28 : s28 = .agg #[.int .i64 5, .string { data := #[] }, .string { data := #[] }, .string { data := #[] }, .bool false, .int .i64 0, .int .i64 1, .int .i64 (k : Int), .slice (some ⟨g, 0, none⟩) k cap] := hF.get 28 _ rfl (.inr p28)
                          subst e28
                          have p23 := hpre 23 (by kernel_rfl)
                          have e23 : s23 = .bool true := hF.get 23 _ rfl (.inr p23)
                          subst e23
                          refine step_of ⟨some 87, _, _, _, _, _⟩ rfl (fun K' hK => ?_)
                          rw [if_pos (by rfl)]
                          go_simp
                          refine hK.out _ _ ⟨_, hF.row hok hla hpre rfl, ?fr⟩
                          case fr => simp only [putO, layL]
                    · replace hge : 30 ≤ i := hgt
                      clear hgt
                      rcases Nat.lt_or_ge i 31 with hlt | hgt
                      · replace hi := hlt
                        clear hlt
                        obtain rfl := eqi hi hge
                        have p29 := hpre 29 (by kernel_rfl)
                        obtain ⟨G, eG, _, hGB⟩ : ∃ G, s29 = .slice (some ⟨G, 0, none⟩) 1 1 ∧ _ ≤ G ∧ Wr.heap[G]? = some (.cells #[.int .i64 5, .string { data := #[] }, .string { data := #[] }, .string { data := #[] }, .bool false, .int .i64 0, .int .i64 1, .int .i64 (k : Int), .slice (some ⟨g, 0, none⟩) k cap] 27 (0, 0)) := hF.get 29 _ rfl (.inr p29)
                        subst eG
                        have p23 := hpre 23 (by kernel_rfl)
                        have e23 : s23 = .bool true := hF.get 23 _ rfl (.inr p23)
                        subst e23
                        refine step_of ⟨some 88, _, _, _, _, _⟩ rfl (fun K' hK => ?_)
                        rw [if_pos (by rfl)]
                        go_simp
                        go_at_call 9
                        (with_reducible refine (R1.on QrQ.out _ _ _ _ hGB (HV.out.below (below_none hF.low)) (HE.out.below (below_none hF.low))).mono ?_)
                        rintro e Wq ⟨rfl, hq⟩
                        refine hK.out _ _ ⟨_, hF.pure hok hla hpre rfl hq, ?fr⟩
                        case fr => simp only [putO, layL]
                      · replace hge : 31 ≤ i := hgt
                        clear hgt
                        rcases Nat.lt_or_ge i 32 with hlt | hgt
                        · replace hi := hlt
                          clear hlt
                          obtain rfl := eqi hi hge
                          have p27 := hpre 27 (by kernel_rfl)
                          have e27 : s27 = .agg #[.int .i64 1, .string (numS y), .string (denS y), .string { data := #[] }, .bool false, .int .i64 0, .int .i64 0, .int .i64 0, .slice none 0 0] := hF.get 27 _ rfl (.inr p27)
                          subst e27
                          have p30 := hpre 30 (by kernel_rfl)
                          have e30 : s30 = .agg #[.int .i64 1, .string (numS y), .string (denS y), .string { data := #[] }, .bool false, .int .i64 0, .int .i64 0, .int .i64 0, .slice none 0 0] := hF.get 30 _ rfl (.inr p30)
                          subst e30
                          have p23 := hpre 23 (by kernel_rfl)
                          have e23 : s23 = .bool true := hF.get 23 _ rfl (.inr p23)
                          subst e23
                          refine step_of ⟨some 89, _, _, _, _, _⟩ rfl (fun K' hK => ?_)
                          rw [if_pos (by rfl)]
                          go_simp
                          go_at_call 11
                          (with_reducible refine (same_one y _).mono ?_)
                          rintro e Wq ⟨rfl, hq⟩
                          refine hK.out _ _ ⟨_, hF.pure hok hla hpre rfl hq, ?fr⟩
                          case fr => simp only [putO, layL]
                        · replace hge : 32 ≤ i := hgt
                          clear hgt
                          obtain rfl := eqi hi hge
                          have p23 := hpre 23 (by kernel_rfl)
                          have e23 : s23 = .bool true := hF.get 23 _ rfl (.inr p23)
                          subst e23
                          have p31 := hpre 31 (by kernel_rfl)
                          have e31 : s31 = .bool true := hF.get 31 _ rfl (.inr p31)
                          subst e31
                          refine step_of ⟨some 90, _, _, _, _, _⟩ rfl (fun K' hK => ?_)
                          go_simp
                          refine hK.out _ _ ⟨_, hF.pure hok hla hpre rfl (Below.refl _ _), ?fr⟩
                          case fr => simp only [putO, layL]
                · replace hge : 33 ≤ i := hgt
                  clear hgt
                  rcases Nat.lt_or_ge i 38 with hlt | hgt
                  · replace hi := hlt
                    clear hlt
                    rcases Nat.lt_or_ge i 35 with hlt | hgt
                    · replace hi := hlt
                      clear hlt
                      rcases Nat.lt_or_ge i 34 with hlt | hgt
                      · replace hi := hlt
                        clear hlt
                        obtain rfl := eqi hi hge
                        have p32 := hpre 32 (by kernel_rfl)
                        have e32 : s32 = .bool true := hF.get 32 _ rfl (.inr p32)
                        subst e32
                        refine step_of ⟨some 91, _, _, _, _, _⟩ rfl (fun K' hK => ?_)
                        go_simp
                        refine hK.out _ _ ⟨_, hF.pure hok hla hpre rfl (Below.refl _ _), ?fr⟩
                        case fr => simp only [putO, layL]
                      · replace hge : 34 ≤ i := hgt
                        clear hgt
                        obtain rfl := eqi hi hge
                        have p33 := hpre 33 (by kernel_rfl)
                        have e33 : s33 = .bool true := hF.get 33 _ rfl (.inr p33)
                        subst e33
                        have hcc := (nine_at (keep_block H5.out (below_none hF.low))).1
                        have cH50 := hcc.1
                        have cH51 := hcc.2.1
                        have cH52 := hcc.2.2.1
                        have cH53 := hcc.2.2.2.1
                        have cH54 := hcc.2.2.2.2.1
                        have cH55 := hcc.2.2.2.2.2.1
                        have cH56 := hcc.2.2.2.2.2.2.1
                        have cH57 := hcc.2.2.2.2.2.2.2.1
                        have cH58 := hcc.2.2.2.2.2.2.2.2
                        clear hcc
                        refine step_of ⟨some 92, _, _, _, _, _⟩ rfl (fun K' hK => ?_)
                        rw [if_pos (by rfl)]
                        go_simp
                        refine hK.out _ _ ⟨_, hF.pure hok hla hpre rfl (Below.refl _ _), ?fr⟩
                        case fr => simp only [putO, layL]
                    · replace hge : 35 ≤ i := hgt
                      clear hgt
                      rcases Nat.lt_or_ge i 36 with hlt | hgt
                      · replace hi := hlt
                        clear hlt
                        obtain rfl := eqi hi hge
                        have p33 := hpre 33 (by kernel_rfl)
                        have e33 : s33 = .bool true := hF.get 33 _ rfl (.inr p33)
                        subst e33
                        have hcc := (nine_at (keep_block H5.out (below_none hF.low))).1
                        have cH50 := hcc.1
                        have cH51 := hcc.2.1
                        have cH52 := hcc.2.2.1
                        have cH53 := hcc.2.2.2.1
                        have cH54 := hcc.2.2.2.2.1
                        have cH55 := hcc.2.2.2.2.2.1
                        have cH56 := hcc.2.2.2.2.2.2.1
                        have cH57 := hcc.2.2.2.2.2.2.2.1
                        have cH58 := hcc.2.2.2.2.2.2.2.2
                        clear hcc
                        refine step_of ⟨some 93, _, _, _, _, _⟩ rfl (fun K' hK => ?_)
                        rw [if_pos (by rfl)]
                        go_simp
                        refine hK.out _ _ ⟨_, hF.pure hok hla hpre rfl (Below.refl _ _), ?fr⟩
                        case fr => simp only [putO, layL]
                      · replace hge : 36 ≤ i := hgt
                        clear hgt
                        rcases Nat.lt_or_ge i 37 with hlt | hgt
                        · replace hi := hlt
                          clear hlt
                          obtain rfl := eqi hi hge
                          have p34 := hpre 34 (by kernel_rfl)
                          have e34 : s34 = .agg #[.int .i64 5, .string { data := #[] }, .string { data := #[] }, .string { data := #[] }, .bool false, .int .i64 0, .int .i64 1, .int .i64 (k : Int), .slice (some ⟨g, 0, none⟩) k cap] := hF.get 34 _ rfl (.inr p34)
                          subst e34
                          have p35 := hpre 35 (by kernel_rfl)
                          have e35 : s35 = .agg #[.int .i64 5, .string { data := #[] }, .string { data := #[] }, .string { data := #[] }, .bool false, .int .i64 0, .int .i64 1, .int .i64 (k : Int), .slice (some ⟨g, 0, none⟩) k cap] := hF.get 35 _ rfl (.inr p35)
                          subst e35
                          have p33 := hpre 33 (by kernel_rfl)
                          have e33 : s33 = .bool true := hF.get 33 _ rfl (.inr p33)
                          subst e33
                          refine step_of ⟨some 94, _, _, _, _, _⟩ rfl (fun K' hK => ?_)
                          rw [if_pos (by rfl)]
                          go_simp
                          refine hK.out _ _ ⟨_, hF.row hok hla hpre rfl, ?fr⟩
                          case fr => simp only [putO, layL]
                        · replace hge : 37 ≤ i := hgt
                          clear hgt
                          obtain rfl := eqi hi hge
                          have p36 := hpre 36 (by kernel_rfl)
                          obtain ⟨G, eG, _, hGB⟩ : ∃ G, s36 = .slice (some ⟨G, 0, none⟩) 2 2 ∧ _ ≤ G ∧ Wr.heap[G]? = some (.cells #[.int .i64 5, .string { data := #[] }, .string { data := #[] }, .string { data := #[] }, .bool false, .int .i64 0, .int .i64 1, .int .i64 (k : Int), .slice (some ⟨g, 0, none⟩) k cap, .int .i64 5, .string { data := #[] }, .string { data := #[] }, .string { data := #[] }, .bool false, .int .i64 0, .int .i64 1, .int .i64 (k : Int), .slice (some ⟨g, 0, none⟩) k cap] 27 (0, 0)) := hF.get 36 _ rfl (.inr p36)
                          subst eG
                          have p33 := hpre 33 (by kernel_rfl)
                          have e33 : s33 = .bool true := hF.get 33 _ rfl (.inr p33)
                          subst e33
                          refine step_of ⟨some 95, _, _, _, _, _⟩ rfl (fun K' hK => ?_)
                          rw [if_pos (by rfl)]
                          go_simp
                          go_at_call 9
                          (with_reducible refine (R2.on QrC.out _ _ _ _ hGB (HV.out.below (below_none hF.low)) (HE.out.below (below_none hF.low))).mono ?_)
                          rintro e Wq ⟨rfl, hq⟩
                          refine hK.out _ _ ⟨_, hF.pure hok hla hpre rfl hq, ?fr⟩
                          case fr => simp only [putO, layL]
                  · replace hge : 38 ≤ i := hgt
                    clear hgt
                    rcases Nat.lt_or_ge i 41 with hlt | hgt
                    · replace hi := hlt
                      clear hlt
                      rcases Nat.lt_or_ge i 39 with hlt | hgt
                      · replace hi := hlt
                        clear hlt
                        obtain rfl := eqi hi hge
                        have p33 := hpre 33 (by kernel_rfl)
                        have e33 : s33 = .bool true := hF.get 33 _ rfl (.inr p33)
                        subst e33
                        have hcc := (nine_at (keep_block H5.out (below_none hF.low))).1
                        have cH50 := hcc.1
                        have cH51 := hcc.2.1
                        have cH52 := hcc.2.2.1
                        have cH53 := hcc.2.2.2.1
                        have cH54 := hcc.2.2.2.2.1
                        have cH55 := hcc.2.2.2.2.2.1
                        have cH56 := hcc.2.2.2.2.2.2.1
                        have cH57 := hcc.2.2.2.2.2.2.2.1
                        have cH58 := hcc.2.2.2.2.2.2.2.2
                        clear hcc
                        refine step_of ⟨some 96, _, _, _, _, _⟩ rfl (fun K' hK => ?_)
                        rw [if_pos (by rfl)]
                        go_simp
                        refine hK.out _ _ ⟨_, hF.pure hok hla hpre rfl (Below.refl _ _), ?fr⟩
                        case fr => simp only [putO, layL]
                      · replace hge : 39 ≤ i := hgt
                        clear hgt
                        rcases Nat.lt_or_ge i 40 with hlt | hgt
                        · replace hi := hlt
                          clear hlt
                          obtain rfl := eqi hi hge
                          have p38 := hpre 38 (by kernel_rfl)
                          have e38 : s38 = .agg #[.int .i64 5, .string { data := #[] }, .string { data := #[] }, .string { data := #[] }, .bool false, .int .i64 0, .int .i64 1, .int .i64 (k : Int), .slice (some ⟨g, 0, none⟩) k cap] := hF.get 38 _ rfl (.inr p38)
                          subst e38
                          have p33 := hpre 33 (by kernel_rfl)
                          have e33 : s33 = .bool true := hF.get 33 _ rfl (.inr p33)
                          subst e33
                          refine step_of ⟨some 97, _, _, _, _, _⟩ rfl (fun K' hK => ?_)
                          rw [if_pos (by rfl)]
                          go_simp
                          refine hK.out _ _ ⟨_, hF.row hok hla hpre rfl, ?fr⟩
                          case fr => simp only [putO, layL]
                        · replace hge : 40 ≤ i := hgt
                          clear hgt
                          obtain rfl := eqi hi hge
                          have p39 := hpre 39 (by kernel_rfl)
                          obtain ⟨G, eG, _, hGB⟩ : ∃ G, s39 = .slice (some ⟨G, 0, none⟩) 1 1 ∧ _ ≤ G ∧ Wr.heap[G]? = some (.cells #[.int .i64 5, .string { data := #[] }, .string { data := #[] }, .string { data := #[] }, .bool false, .int .i64 0, .int .i64 1, .int .i64 (k : Int), .slice (some ⟨g, 0, none⟩) k cap] 27 (0, 0)) := hF.get 39 _ rfl (.inr p39)
                          subst eG
                          have p33 := hpre 33 (by kernel_rfl)
                          have e33 : s33 = .bool true := hF.get 33 _ rfl (.inr p33)
                          subst e33
                          refine step_of ⟨some 98, _, _, _, _, _⟩ rfl (fun K' hK => ?_)
                          rw [if_pos (by rfl)]
                          go_simp
                          go_at_call 9
                          (with_reducible refine (R1.on QrP.out _ _ _ _ hGB (HV.out.below (below_none hF.low)) (HE.out.below (below_none hF.low))).mono ?_)
                          rintro e Wq ⟨rfl, hq⟩
                          refine hK.out _ _ ⟨_, hF.pure hok hla hpre rfl hq, ?fr⟩
                          case fr => simp only [putO, layL]
                    · replace hge : 41 ≤ i := hgt
                      clear hgt
                      rcases Nat.lt_or_ge i 42 with hlt | hgt
                      · replace hi := hlt
                        clear hlt
                        obtain rfl := eqi hi hge
                        have p37 := hpre 37 (by kernel_rfl)
                        have e37 : s37 = .agg #[.int .i64 1, .string (numS vp), .string (denS vp), .string { data := #[] }, .bool false, .int .i64 0, .int .i64 0, .int .i64 0, .slice none 0 0] := hF.get 37 _ rfl (.inr p37)
                        subst e37
                        have p40 := hpre 40 (by kernel_rfl)
                        have e40 : s40 = .agg #[.int .i64 1, .string (numS vp), .string (denS vp), .string { data := #[] }, .bool false, .int .i64 0, .int .i64 0, .int .i64 0, .slice none 0 0] := hF.get 40 _ rfl (.inr p40)
                        subst e40
                        have p33 := hpre 33 (by kernel_rfl)
                        have e33 : s33 = .bool true := hF.get 33 _ rfl (.inr p33)
                        subst e33
                        refine step_of ⟨some 99, _, _, _, _, _⟩ rfl (fun K' hK => ?_)
                        rw [if_pos (by rfl)]
                        go_simp
                        go_at_call 11
                        (with_reducible refine (same_one vp _).mono ?_)
                        rintro e Wq ⟨rfl, hq⟩
                        refine hK.out _ _ ⟨_, hF.pure hok hla hpre rfl hq, ?fr⟩
                        case fr => simp only [putO, layL]
                      · replace hge : 42 ≤ i := hgt
                        clear hgt
                        rcases Nat.lt_or_ge i 43 with hlt | hgt
                        · replace hi := hlt
                          clear hlt
                          obtain rfl := eqi hi hge
                          have p33 := hpre 33 (by kernel_rfl)
                          have e33 : s33 = .bool true := hF.get 33 _ rfl (.inr p33)
                          subst e33
                          have p41 := hpre 41 (by kernel_rfl)
                          have e41 : s41 = .bool true := hF.get 41 _ rfl (.inr p41)
                          subst e41
                          refine step_of ⟨some 100, _, _, _, _, _⟩ rfl (fun K' hK => ?_)
                          go_simp
                          refine hK.out _ _ ⟨_, hF.pure hok hla hpre rfl (Below.refl _ _), ?fr⟩
                          case fr => simp only [putO, layL]
                        · replace hge : 43 ≤ i := hgt
                          clear hgt
                          obtain rfl := eqi hi hge
                          have p42 := hpre 42 (by kernel_rfl)
                          have e42 : s42 = .bool true := hF.get 42 _ rfl (.inr p42)
                          subst e42
                          refine step_of ⟨some 4, _, _, _, _, _⟩ rfl (fun K' hK => ?_)
                          go_simp
                          refine hK.out _ _ ⟨_, hF.pure hok hla hpre rfl (Below.refl _ _), ?fr⟩
                          case fr => simp only [putO, layL]
            case hd =>
              rintro listed vs WC hF hall
              obtain ⟨s0, s1, s2, s3, s4, s5, s6, s7, s8, s9, s10, s11, s12, s13, s14, s15, s16, s17, s18, s19, s20, s21, s22, s23, s24, s25, s26, s27, s28, s29, s30, s31, s32, s33, s34, s35, s36, s37, s38, s39, s40, s41, s42, s43, hvs⟩ := exl_of 44 vs (fun l => vs = l) hF.len rfl
              subst hvs
              have e43 : s43 = .bool true := hF.get 43 _ rfl (.inr (hall 43 (by decide)))
              subst e43
              have hq := below_none hF.low
              replace HE := Lib.hid (HE.out.below hq)
              replace HL := Lib.hid (HL.out.trans (hq.mono HL.out.size))
              replace H5 := Lib.hid (keep_block H5.out hq)
              replace H6 := Lib.hid (keep_block H6.out hq)
              replace H7 := Lib.hid (keep_block H7.out hq)
              replace H10 := Lib.hid (keep_block H10.out hq)
              replace H11 := Lib.hid (keep_block H11.out hq)
              replace H12 := Lib.hid (keep_block H12.out hq)
              replace HV := Lib.hid (HV.out.below hq)
              replace HVb := Lib.hid (HVb.out.below hq)
              clear hq
              clear hF hall hok hna hla
              simp only [putO, layL]
              go_wp2
              go_ret
              exact ⟨rfl, HL.out⟩
end Go.Proofs.YtemdjmaakajhjaaGreatDoor.Num.Ft
