/- Numbers as texts of digits, fractions, values and the functions of fmath: contracts of the program's functions, joined from smaller texts. Conditions stand at each theorem. -/
import Derived.Test.YtkbhlkinlcmgoaaGreatDoorPluA
import Derived.Test.YtkbhlkinlcmgoaaGreatDoorPlfB
import Derived.Test.YtkbhlkinlcmgoaaGreatDoorPlbB
import Derived.Test.YtkbhlkinlcmgoaaGreatDoorPlrA
import Derived.Deep.DeepCutAuto

set_option linter.unusedVariables false
set_option linter.unusedSimpArgs false

/- The law FmoneyPlans' own walk. Conditions: what the functions give; the tables lie as they are laid. -/
namespace Go.Proofs.YtkbhlkinlcmgoaaGreatDoor.Num.Fy
open Go.RowKit Go.Lib Num
attribute [local irreducible] wpOp
theorem itsL_far (As Is Cs Ws : Nat → Rat) (c : Nat) : ∀ d, ∃ C, itsL As Is Cs Ws (c + d) = itsL As Is Cs Ws c ++ C
  | 0 => ⟨[], by simp⟩
  | d + 1 => by
    obtain ⟨C, h⟩ := itsL_far As Is Cs Ws c d
    exact ⟨C ++ rowL As Is Cs Ws (c + d), by rw [← Nat.add_assoc, itsL_succ, h, List.append_assoc]⟩
theorem itsL_mid (As Is Cs Ws : Nat → Rat) (n c : Nat) (hc : c < n) : ∃ C, itsL As Is Cs Ws n = itsL As Is Cs Ws c ++ rowL As Is Cs Ws c ++ C := by
  obtain ⟨C, h⟩ := itsL_far As Is Cs Ws (c + 1) (n - (c + 1))
  rw [show c + 1 + (n - (c + 1)) = n by omega, itsL_succ] at h
  exact ⟨C, h⟩
/-- what the law's money gives at { data := #[80, 76, 65, 78] } -/
def PlC (n : Nat) (lq f nq kq : Rat) (its : List Rat) : Prop := ∀ (W : World) (G : Nat), W.heap[G]? = some (.cells #[.int .i64 1, .string (numS lq), .string (denS lq), .string { data := #[] }, .bool false, .int .i64 0, .int .i64 0, .int .i64 0, .slice none 0 0, .int .i64 1, .string (numS f), .string (denS f), .string { data := #[] }, .bool false, .int .i64 0, .int .i64 0, .int .i64 0, .slice none 0 0, .int .i64 1, .string (numS nq), .string (denS nq), .string { data := #[] }, .bool false, .int .i64 0, .int .i64 0, .int .i64 0, .slice none 0 0, .int .i64 1, .string (numS kq), .string (denS kq), .string { data := #[] }, .bool false, .int .i64 0, .int .i64 0, .int .i64 0, .slice none 0 0] 30 (0, 0)) → EnvY W → Calls Tryz.prog 8 #[.string { data := #[80, 76, 65, 78] }, .slice (some ⟨G, 0, none⟩) 4 4] W fun e w' => ∃ lg cap, e = .returned (.agg #[.int .i64 5, .string { data := #[] }, .string { data := #[] }, .string { data := #[] }, .bool false, .int .i64 0, .int .i64 (n : Int), .int .i64 5, .slice (some ⟨lg, 0, none⟩) (n * 5) cap]) ∧ (ValsAt w' lg 0 (numVals its) ∧ W.heap.size ≤ lg ∧ n * 5 ≤ cap) ∧ True ∧ Below W.heap.size W w'
theorem PlC.on {n : Nat} {lq f nq kq : Rat} {its : List Rat} (h : PlC n lq f nq kq its) (B : Nat) (W : World) (G : Nat) (hg : W.heap[G]? = some (.cells #[.int .i64 1, .string (numS lq), .string (denS lq), .string { data := #[] }, .bool false, .int .i64 0, .int .i64 0, .int .i64 0, .slice none 0 0, .int .i64 1, .string (numS f), .string (denS f), .string { data := #[] }, .bool false, .int .i64 0, .int .i64 0, .int .i64 0, .slice none 0 0, .int .i64 1, .string (numS nq), .string (denS nq), .string { data := #[] }, .bool false, .int .i64 0, .int .i64 0, .int .i64 0, .slice none 0 0, .int .i64 1, .string (numS kq), .string (denS kq), .string { data := #[] }, .bool false, .int .i64 0, .int .i64 0, .int .i64 0, .slice none 0 0] 30 (0, 0))) (hE : EnvY W) (hB : B ≤ W.heap.size) : Calls Tryz.prog 8 #[.string { data := #[80, 76, 65, 78] }, .slice (some ⟨G, 0, none⟩) 4 4] W fun e w' => ∃ lg cap, e = .returned (.agg #[.int .i64 5, .string { data := #[] }, .string { data := #[] }, .string { data := #[] }, .bool false, .int .i64 0, .int .i64 (n : Int), .int .i64 5, .slice (some ⟨lg, 0, none⟩) (n * 5) cap]) ∧ (ValsAt w' lg 0 (numVals its) ∧ B ≤ lg ∧ n * 5 ≤ cap) ∧ True ∧ Below W.heap.size W w' := by
  refine (h W G hg hE).mono ?_
  rintro e w' ⟨lg, cap, rfl, ⟨hv, hl, hc⟩, ht, hb⟩
  exact ⟨lg, cap, rfl, ⟨hv, Nat.le_trans hB hl, hc⟩, ht, hb⟩
/-- an array of n rows of five numbers -/
def TabR (B n : Nat) (its : List Rat) (v : Value) (W : World) : Prop := ∃ lg cap, v = .agg #[.int .i64 5, .string { data := #[] }, .string { data := #[] }, .string { data := #[] }, .bool false, .int .i64 0, .int .i64 (n : Int), .int .i64 5, .slice (some ⟨lg, 0, none⟩) (n * 5) cap] ∧ ValsAt W lg 0 (numVals its) ∧ B ≤ lg ∧ n * 5 ≤ cap
theorem tabR_lasts {B n : Nat} {its : List Rat} : (RK.any (TabR B n its)).lasts := fun _ _ _ ⟨lg, cap, e, h, h2⟩ hb => ⟨lg, cap, e, h.below hb, h2⟩
/-- a column of n numbers -/
def ColR (n : Nat) (cs : List Rat) (v : Value) (W : World) : Prop := ∃ lg cap, v = .agg #[.int .i64 5, .string { data := #[] }, .string { data := #[] }, .string { data := #[] }, .bool false, .int .i64 0, .int .i64 (n : Int), .int .i64 1, .slice (some ⟨lg, 0, none⟩) n cap] ∧ ValsAt W lg 0 (numVals cs)
def ColRow (n : Nat) (cs : List Rat) (v : Value) (W : World) : Prop := ∃ G lg cap, v = .slice (some ⟨G, 0, none⟩) 1 1 ∧ W.heap[G]? = some (.cells #[.int .i64 5, .string { data := #[] }, .string { data := #[] }, .string { data := #[] }, .bool false, .int .i64 0, .int .i64 (n : Int), .int .i64 1, .slice (some ⟨lg, 0, none⟩) n cap] 30 (0, 0)) ∧ ValsAt W lg 0 (numVals cs)
theorem colR_lasts {n : Nat} {cs : List Rat} : (RK.any (ColR n cs)).lasts := fun _ _ _ ⟨lg, cap, e, h⟩ hb => ⟨lg, cap, e, h.below hb⟩
theorem colRow_lasts {n : Nat} {cs : List Rat} : (RK.any (ColRow n cs)).lasts := fun _ _ _ ⟨G, lg, cap, e, hG, h⟩ hb => ⟨G, lg, cap, e, keep_block hG hb, h.below hb⟩
/-- what the law's look gives at { data := #[73, 78, 68, 69, 88] }; where there is one row -/
def IxC (n : Nat) (z four : Rat) (its cs : List Rat) : Prop := ∀ (W : World) (G lg cap : Nat), W.heap[G]? = some (.cells #[.int .i64 5, .string { data := #[] }, .string { data := #[] }, .string { data := #[] }, .bool false, .int .i64 0, .int .i64 (n : Int), .int .i64 5, .slice (some ⟨lg, 0, none⟩) (n * 5) cap, .int .i64 1, .string (numS z), .string (denS z), .string { data := #[] }, .bool false, .int .i64 0, .int .i64 0, .int .i64 0, .slice none 0 0, .int .i64 1, .string (numS four), .string (denS four), .string { data := #[] }, .bool false, .int .i64 0, .int .i64 0, .int .i64 0, .slice none 0 0] 30 (0, 0)) → ValsAt W lg 0 (numVals its) → EnvY W → Calls Tryz.prog 15 #[.string { data := #[73, 78, 68, 69, 88] }, .slice (some ⟨G, 0, none⟩) 3 3] W fun e w' => ∃ lg cap, e = .returned (.agg #[.int .i64 5, .string { data := #[] }, .string { data := #[] }, .string { data := #[] }, .bool false, .int .i64 0, .int .i64 (n : Int), .int .i64 1, .slice (some ⟨lg, 0, none⟩) n cap]) ∧ ValsAt w' lg 0 (numVals cs) ∧ True ∧ Below W.heap.size W w'
def IxC1 (n : Nat) (z four : Rat) (its : List Rat) (x : Rat) : Prop := ∀ (W : World) (G lg cap : Nat), W.heap[G]? = some (.cells #[.int .i64 5, .string { data := #[] }, .string { data := #[] }, .string { data := #[] }, .bool false, .int .i64 0, .int .i64 (n : Int), .int .i64 5, .slice (some ⟨lg, 0, none⟩) (n * 5) cap, .int .i64 1, .string (numS z), .string (denS z), .string { data := #[] }, .bool false, .int .i64 0, .int .i64 0, .int .i64 0, .slice none 0 0, .int .i64 1, .string (numS four), .string (denS four), .string { data := #[] }, .bool false, .int .i64 0, .int .i64 0, .int .i64 0, .slice none 0 0] 30 (0, 0)) → ValsAt W lg 0 (numVals its) → EnvY W → Calls Tryz.prog 15 #[.string { data := #[73, 78, 68, 69, 88] }, .slice (some ⟨G, 0, none⟩) 3 3] W fun e w' => e = .returned (.agg #[.int .i64 1, .string (numS x), .string (denS x), .string { data := #[] }, .bool false, .int .i64 0, .int .i64 0, .int .i64 0, .slice none 0 0]) ∧ Below W.heap.size W w'
/-- what the law's math gives at { data := #[83, 85, 77] } of a column, of a number, at { data := #[80, 82, 79, 68, 85, 67, 84] } -/
def SmC (n : Nat) (cs : List Rat) (q : Rat) : Prop := ∀ (W : World) (G lg cap : Nat), W.heap[G]? = some (.cells #[.int .i64 5, .string { data := #[] }, .string { data := #[] }, .string { data := #[] }, .bool false, .int .i64 0, .int .i64 (n : Int), .int .i64 1, .slice (some ⟨lg, 0, none⟩) n cap] 30 (0, 0)) → ValsAt W lg 0 (numVals cs) → EnvY W → Calls Tryz.prog 10 #[.string { data := #[83, 85, 77] }, .slice (some ⟨G, 0, none⟩) 1 1] W fun e w' => e = .returned (.agg #[.int .i64 1, .string (numS q), .string (denS q), .string { data := #[] }, .bool false, .int .i64 0, .int .i64 0, .int .i64 0, .slice none 0 0]) ∧ Below W.heap.size W w'
def SmC1 (x q : Rat) : Prop := ∀ (W : World) (G : Nat), W.heap[G]? = some (.cells #[.int .i64 1, .string (numS x), .string (denS x), .string { data := #[] }, .bool false, .int .i64 0, .int .i64 0, .int .i64 0, .slice none 0 0] 30 (0, 0)) → EnvY W → Calls Tryz.prog 10 #[.string { data := #[83, 85, 77] }, .slice (some ⟨G, 0, none⟩) 1 1] W fun e w' => e = .returned (.agg #[.int .i64 1, .string (numS q), .string (denS q), .string { data := #[] }, .bool false, .int .i64 0, .int .i64 0, .int .i64 0, .slice none 0 0]) ∧ Below W.heap.size W w'
def PrC (x y q : Rat) : Prop := ∀ (W : World) (G : Nat), W.heap[G]? = some (.cells #[.int .i64 1, .string (numS x), .string (denS x), .string { data := #[] }, .bool false, .int .i64 0, .int .i64 0, .int .i64 0, .slice none 0 0, .int .i64 1, .string (numS y), .string (denS y), .string { data := #[] }, .bool false, .int .i64 0, .int .i64 0, .int .i64 0, .slice none 0 0] 30 (0, 0)) → EnvY W → Calls Tryz.prog 10 #[.string { data := #[80, 82, 79, 68, 85, 67, 84] }, .slice (some ⟨G, 0, none⟩) 2 2] W fun e w' => e = .returned (.agg #[.int .i64 1, .string (numS q), .string (denS q), .string { data := #[] }, .bool false, .int .i64 0, .int .i64 0, .int .i64 0, .slice none 0 0]) ∧ Below W.heap.size W w'
theorem IxC.on {n : Nat} {z four : Rat} {its cs : List Rat} (h : IxC n z four its cs) (W : World) (G lg cap : Nat) (hg : W.heap[G]? = some (.cells #[.int .i64 5, .string { data := #[] }, .string { data := #[] }, .string { data := #[] }, .bool false, .int .i64 0, .int .i64 (n : Int), .int .i64 5, .slice (some ⟨lg, 0, none⟩) (n * 5) cap, .int .i64 1, .string (numS z), .string (denS z), .string { data := #[] }, .bool false, .int .i64 0, .int .i64 0, .int .i64 0, .slice none 0 0, .int .i64 1, .string (numS four), .string (denS four), .string { data := #[] }, .bool false, .int .i64 0, .int .i64 0, .int .i64 0, .slice none 0 0] 30 (0, 0))) (hv : ValsAt W lg 0 (numVals its)) (hE : EnvY W) : Calls Tryz.prog 15 #[.string { data := #[73, 78, 68, 69, 88] }, .slice (some ⟨G, 0, none⟩) 3 3] W fun e w' => ∃ lg cap, e = .returned (.agg #[.int .i64 5, .string { data := #[] }, .string { data := #[] }, .string { data := #[] }, .bool false, .int .i64 0, .int .i64 (n : Int), .int .i64 1, .slice (some ⟨lg, 0, none⟩) n cap]) ∧ ValsAt w' lg 0 (numVals cs) ∧ True ∧ Below W.heap.size W w' := h W G lg cap hg hv hE
theorem IxC1.on {n : Nat} {z four x : Rat} {its : List Rat} (h : IxC1 n z four its x) (W : World) (G lg cap : Nat) (hg : W.heap[G]? = some (.cells #[.int .i64 5, .string { data := #[] }, .string { data := #[] }, .string { data := #[] }, .bool false, .int .i64 0, .int .i64 (n : Int), .int .i64 5, .slice (some ⟨lg, 0, none⟩) (n * 5) cap, .int .i64 1, .string (numS z), .string (denS z), .string { data := #[] }, .bool false, .int .i64 0, .int .i64 0, .int .i64 0, .slice none 0 0, .int .i64 1, .string (numS four), .string (denS four), .string { data := #[] }, .bool false, .int .i64 0, .int .i64 0, .int .i64 0, .slice none 0 0] 30 (0, 0))) (hv : ValsAt W lg 0 (numVals its)) (hE : EnvY W) : Calls Tryz.prog 15 #[.string { data := #[73, 78, 68, 69, 88] }, .slice (some ⟨G, 0, none⟩) 3 3] W fun e w' => e = .returned (.agg #[.int .i64 1, .string (numS x), .string (denS x), .string { data := #[] }, .bool false, .int .i64 0, .int .i64 0, .int .i64 0, .slice none 0 0]) ∧ Below W.heap.size W w' := h W G lg cap hg hv hE
theorem SmC.on {n : Nat} {cs : List Rat} {q : Rat} (h : SmC n cs q) (W : World) (G lg cap : Nat) (hg : W.heap[G]? = some (.cells #[.int .i64 5, .string { data := #[] }, .string { data := #[] }, .string { data := #[] }, .bool false, .int .i64 0, .int .i64 (n : Int), .int .i64 1, .slice (some ⟨lg, 0, none⟩) n cap] 30 (0, 0))) (hv : ValsAt W lg 0 (numVals cs)) (hE : EnvY W) : Calls Tryz.prog 10 #[.string { data := #[83, 85, 77] }, .slice (some ⟨G, 0, none⟩) 1 1] W fun e w' => e = .returned (.agg #[.int .i64 1, .string (numS q), .string (denS q), .string { data := #[] }, .bool false, .int .i64 0, .int .i64 0, .int .i64 0, .slice none 0 0]) ∧ Below W.heap.size W w' := h W G lg cap hg hv hE
theorem PrC.on {x y q : Rat} (h : PrC x y q) (W : World) (G : Nat) (hg : W.heap[G]? = some (.cells #[.int .i64 1, .string (numS x), .string (denS x), .string { data := #[] }, .bool false, .int .i64 0, .int .i64 0, .int .i64 0, .slice none 0 0, .int .i64 1, .string (numS y), .string (denS y), .string { data := #[] }, .bool false, .int .i64 0, .int .i64 0, .int .i64 0, .slice none 0 0] 30 (0, 0))) (hE : EnvY W) : Calls Tryz.prog 10 #[.string { data := #[80, 82, 79, 68, 85, 67, 84] }, .slice (some ⟨G, 0, none⟩) 2 2] W fun e w' => e = .returned (.agg #[.int .i64 1, .string (numS q), .string (denS q), .string { data := #[] }, .bool false, .int .i64 0, .int .i64 0, .int .i64 0, .slice none 0 0]) ∧ Below W.heap.size W w' := h W G hg hE
theorem SmC1.on {x q : Rat} (h : SmC1 x q) (W : World) (G : Nat) (hg : W.heap[G]? = some (.cells #[.int .i64 1, .string (numS x), .string (denS x), .string { data := #[] }, .bool false, .int .i64 0, .int .i64 0, .int .i64 0, .slice none 0 0] 30 (0, 0))) (hE : EnvY W) : Calls Tryz.prog 10 #[.string { data := #[83, 85, 77] }, .slice (some ⟨G, 0, none⟩) 1 1] W fun e w' => e = .returned (.agg #[.int .i64 1, .string (numS q), .string (denS q), .string { data := #[] }, .bool false, .int .i64 0, .int .i64 0, .int .i64 0, .slice none 0 0]) ∧ Below W.heap.size W w' := h W G hg hE
theorem row_ne {W : World} {lg b : Nat} {qs : List Rat} {x1 x2 x3 x4 x5 x6 x7 x8 : Value} {T : TypeId} (h : ValsAt W lg 0 (numVals qs)) (h0 : 0 < qs.length) (hb : W.heap[b]? = some (.cells #[.int .i64 0, x1, x2, x3, x4, x5, x6, x7, x8] T (0, 0))) : lg ≠ b := by
  rintro rfl
  have h1 := (item_at h 0 h0 _ rfl).1
  rw [Nat.zero_mul, Lib.cell_of_heap hb 0] at h1
  have h2 := Option.some.inj h1
  injection h2 with _ h2
  cases h2
theorem items_in {W : World} {lg : Nat} {qs : List Rat} (h : ValsAt W lg 0 (numVals qs)) (h0 : 0 < qs.length) : lg < W.heap.size := cell_lt (h.at 0 (by rw [numVals_len]; exact h0)).1
/-- what stands while the law goes through the rows -/
structure LwI (w0 : World) (B9 B11 B12 B13 : Nat) (f lq : Rat) (n lg cap : Nat) (its : List Rat) (x : Rat) (W : World) : Prop where
  h9 : W.heap[B9]? = some (.cells #[.string (numS f), .string (denS f)] 24 (0, 0))
  h11 : W.heap[B11]? = some (.cells #[.int .i64 1, .string (numS lq), .string (denS lq), .string { data := #[] }, .bool false, .int .i64 0, .int .i64 0, .int .i64 0, .slice none 0 0] 30 (0, 0))
  h12 : W.heap[B12]? = some (.cells #[.int .i64 5, .string { data := #[] }, .string { data := #[] }, .string { data := #[] }, .bool false, .int .i64 0, .int .i64 (n : Int), .int .i64 5, .slice (some ⟨lg, 0, none⟩) (n * 5) cap] 30 (0, 0))
  h13 : W.heap[B13]? = some (.cells #[.int .i64 1, .string (numS x), .string (denS x), .string { data := #[] }, .bool false, .int .i64 0, .int .i64 0, .int .i64 0, .slice none 0 0] 30 (0, 0))
  val : ValsAt W lg 0 (numVals its)
  env : EnvY W
  low : Below w0.heap.size w0 W
  l9 : w0.heap.size ≤ B9
  l11 : B9 < B11
  l12 : B11 < B12
  l13 : B12 < B13
  ll : lg ≠ B13
  past : Past B13
section
variable {w0 W W' : World} {B9 B11 B12 B13 n lg cap : Nat} {f lq x : Rat} {its : List Rat}
theorem set9_kept (W : World) (R : Nat) (x0 x1 x2 x3 x4 x5 x6 x7 x8 : Value) : W.grownBy ((((((((((W.setCell ⟨R, 0, none⟩ x0).setCell ⟨R, 1, none⟩ x1).setCell ⟨R, 2, none⟩ x2).setCell ⟨R, 3, none⟩ x3).setCell ⟨R, 4, none⟩ x4).setCell ⟨R, 5, none⟩ x5).setCell ⟨R, 6, none⟩ x6).setCell ⟨R, 7, none⟩ x7).setCell ⟨R, 8, none⟩ x8)) (some R) :=
  only_setCell (p := ⟨R, 8, none⟩) (only_setCell (p := ⟨R, 7, none⟩) (only_setCell (p := ⟨R, 6, none⟩) (only_setCell (p := ⟨R, 5, none⟩) (only_setCell (p := ⟨R, 4, none⟩) (only_setCell (p := ⟨R, 3, none⟩) (only_setCell (p := ⟨R, 2, none⟩) (only_setCell (p := ⟨R, 1, none⟩) (only_setCell (p := ⟨R, 0, none⟩) (kept_below (Below.refl _ _)) (.inl rfl) x0) (.inl rfl) x1) (.inl rfl) x2) (.inl rfl) x3) (.inl rfl) x4) (.inl rfl) x5) (.inl rfl) x6) (.inl rfl) x7) (.inl rfl) x8
theorem LwI.step (h : LwI w0 B9 B11 B12 B13 f lq n lg cap its x W) (hb : Below W.heap.size W W') : LwI w0 B9 B11 B12 B13 f lq n lg cap its x W' :=
  ⟨keep_block h.h9 hb, keep_block h.h11 hb, keep_block h.h12 hb, keep_block h.h13 hb, h.val.below hb, h.env.below hb, h.low.trans (hb.mono h.low.size), h.l9, h.l11, h.l12, h.l13, h.ll, h.past⟩
theorem LwI.kept {q : Nat} (h : LwI w0 B9 B11 B12 B13 f lq n lg cap its x W) (hg : W.grownBy W' (some q)) (hq : B13 < q) (hl : lg < q) (hs : q < W.heap.size) : LwI w0 B9 B11 B12 B13 f lq n lg cap its x W' := by
  have a1 := h.l9; have a2 := h.l11; have a3 := h.l12; have a4 := h.l13
  exact ⟨kept_block h.h9 hg (by omega), kept_block h.h11 hg (by omega), kept_block h.h12 hg (by omega), kept_block h.h13 hg (by omega), vals_kept h.val hg (by omega) (by omega), h.env.kept hg ⟨Nat.lt_trans h.past.1 hq, Nat.lt_trans h.past.2 hq⟩, h.low.grown hg h.low.size (fun r hr => by injection hr; omega), h.l9, h.l11, h.l12, h.l13, h.ll, h.past⟩
theorem LwI.store (y : Rat) (h : LwI w0 B9 B11 B12 B13 f lq n lg cap its x W) : LwI w0 B9 B11 B12 B13 f lq n lg cap its y ((((((((((W.setCell ⟨B13, 0, none⟩ (.int .i64 1)).setCell ⟨B13, 1, none⟩ (.string (numS y))).setCell ⟨B13, 2, none⟩ (.string (denS y))).setCell ⟨B13, 3, none⟩ (.string { data := #[] })).setCell ⟨B13, 4, none⟩ (.bool false)).setCell ⟨B13, 5, none⟩ (.int .i64 0)).setCell ⟨B13, 6, none⟩ (.int .i64 0)).setCell ⟨B13, 7, none⟩ (.int .i64 0)).setCell ⟨B13, 8, none⟩ (.slice none 0 0))) := by
  have a1 := h.l9; have a2 := h.l11; have a3 := h.l12; have a4 := h.l13
  have hg : W.grownBy ((((((((((W.setCell ⟨B13, 0, none⟩ (.int .i64 1)).setCell ⟨B13, 1, none⟩ (.string (numS y))).setCell ⟨B13, 2, none⟩ (.string (denS y))).setCell ⟨B13, 3, none⟩ (.string { data := #[] })).setCell ⟨B13, 4, none⟩ (.bool false)).setCell ⟨B13, 5, none⟩ (.int .i64 0)).setCell ⟨B13, 6, none⟩ (.int .i64 0)).setCell ⟨B13, 7, none⟩ (.int .i64 0)).setCell ⟨B13, 8, none⟩ (.slice none 0 0))) (some B13) := set9_kept W B13 (.int .i64 1) (.string (numS y)) (.string (denS y)) (.string { data := #[] }) (.bool false) (.int .i64 0) (.int .i64 0) (.int .i64 0) (.slice none 0 0)
  refine ⟨kept_block h.h9 hg (by omega), kept_block h.h11 hg (by omega), kept_block h.h12 hg (by omega), set9_at h.h13 (.int .i64 1) (.string (numS y)) (.string (denS y)) (.string { data := #[] }) (.bool false) (.int .i64 0) (.int .i64 0) (.int .i64 0) (.slice none 0 0), vals_other h.val (set9_other W B13 (.int .i64 1) (.string (numS y)) (.string (denS y)) (.string { data := #[] }) (.bool false) (.int .i64 0) (.int .i64 0) (.int .i64 0) (.slice none 0 0) h.ll), h.env.kept hg h.past, ?_, h.l9, h.l11, h.l12, h.l13, h.ll, h.past⟩
  exact (h.low.trans (put9_below (show w0.heap.size ≤ B13 by omega) W (.int .i64 1) (.string (numS y)) (.string (denS y)) (.string { data := #[] }) (.bool false) (.int .i64 0) (.int .i64 0) (.int .i64 0) (.slice none 0 0)))
end
set_option linter.unusedVariables false in
/-- what the operations of region 4 yield -/
def PwKs4 (lq f nq kq : Rat) (n k B9 B11 B2 : Nat) (As Is Cs Ws : Nat → Rat) : List RK :=
  [.pure (.agg #[.int .i64 1, .string (numS lq), .string (denS lq), .string { data := #[] }, .bool false, .int .i64 0, .int .i64 0, .int .i64 0, .slice none 0 0]),
   .pure (.agg #[.string (numS f), .string (denS f)]),
   .pure (.agg #[.int .i64 1, .string (numS f), .string (denS f), .string { data := #[] }, .bool false, .int .i64 0, .int .i64 0, .int .i64 0, .slice none 0 0]),
   .pure (.int .i64 (n : Int)),
   .pure (.agg #[.int .i64 1, .string (numS nq), .string (denS nq), .string { data := #[] }, .bool false, .int .i64 0, .int .i64 0, .int .i64 0, .slice none 0 0]),
   .pure (.int .i64 (k : Int)),
   .pure (.agg #[.int .i64 1, .string (numS kq), .string (denS kq), .string { data := #[] }, .bool false, .int .i64 0, .int .i64 0, .int .i64 0, .slice none 0 0]),
   .row #[.int .i64 1, .string (numS lq), .string (denS lq), .string { data := #[] }, .bool false, .int .i64 0, .int .i64 0, .int .i64 0, .slice none 0 0, .int .i64 1, .string (numS f), .string (denS f), .string { data := #[] }, .bool false, .int .i64 0, .int .i64 0, .int .i64 0, .slice none 0 0, .int .i64 1, .string (numS nq), .string (denS nq), .string { data := #[] }, .bool false, .int .i64 0, .int .i64 0, .int .i64 0, .slice none 0 0, .int .i64 1, .string (numS kq), .string (denS kq), .string { data := #[] }, .bool false, .int .i64 0, .int .i64 0, .int .i64 0, .slice none 0 0] 30 4,
   .any (TabR B2 n (itsL As Is Cs Ws n)),
   .box none #[.int .i64 0, .string { data := #[] }, .string { data := #[] }, .string { data := #[] }, .bool false, .int .i64 0, .int .i64 0, .int .i64 0, .slice none 0 0] #[.int .i64 0, .string { data := #[] }, .string { data := #[] }, .string { data := #[] }, .bool false, .int .i64 0, .int .i64 0, .int .i64 0, .slice none 0 0] 30 12,
   .put 0]
set_option linter.unusedVariables false in
/-- what the operations of region 12 yield -/
def PwKs12 (cj mo mj : Rat) (lg a5 cap : Nat) : List RK :=
  [.pure (.slice (some ⟨lg, a5 * 9, none⟩) 5 (cap - a5)),
   .pure (.pointer (some ⟨lg, a5 * 9 + 27, none⟩)),
   .pure (.agg #[.int .i64 1, .string (numS cj), .string (denS cj), .string { data := #[] }, .bool false, .int .i64 0, .int .i64 0, .int .i64 0, .slice none 0 0]),
   .pure (.agg #[.int .i64 1, .string (numS mo), .string (denS mo), .string { data := #[] }, .bool false, .int .i64 0, .int .i64 0, .int .i64 0, .slice none 0 0]),
   .row #[.int .i64 1, .string (numS cj), .string (denS cj), .string { data := #[] }, .bool false, .int .i64 0, .int .i64 0, .int .i64 0, .slice none 0 0, .int .i64 1, .string (numS mo), .string (denS mo), .string { data := #[] }, .bool false, .int .i64 0, .int .i64 0, .int .i64 0, .slice none 0 0] 30 2,
   .pure (.agg #[.int .i64 1, .string (numS mj), .string (denS mj), .string { data := #[] }, .bool false, .int .i64 0, .int .i64 0, .int .i64 0, .slice none 0 0]),
   .box none #[.int .i64 0, .string { data := #[] }, .string { data := #[] }, .string { data := #[] }, .bool false, .int .i64 0, .int .i64 0, .int .i64 0, .slice none 0 0] #[.int .i64 1, .string (numS mj), .string (denS mj), .string { data := #[] }, .bool false, .int .i64 0, .int .i64 0, .int .i64 0, .slice none 0 0] 30 7,
   .put 6]
set_option linter.unusedVariables false in
/-- what the operations of region 13 yield -/
def PwKs13 (q0 aj ij cj wj vj mj : Rat) (n lg cap a5 j B9 b12 B13 b16 : Nat) : List RK :=
  [.pure (.slice (some ⟨lg, a5 * 9, none⟩) 5 (cap - a5)),
   .pure (.pointer (some ⟨lg, a5 * 9, none⟩)),
   .pure (.agg #[.int .i64 1, .string (numS q0), .string (denS q0), .string { data := #[] }, .bool false, .int .i64 0, .int .i64 0, .int .i64 0, .slice none 0 0]),
   .pure (.int .i64 (j : Int)),
   .pure (.int .i64 ((j : Int) + 1)),
   .pure (.agg #[.int .i64 1, .string (numS q0), .string (denS q0), .string { data := #[] }, .bool false, .int .i64 0, .int .i64 0, .int .i64 0, .slice none 0 0]),
   .pure (.bool true),
   .pure (.bool false),
   .pure (.bool false),
   .pure (.slice (some ⟨lg, a5 * 9, none⟩) 5 (cap - a5)),
   .pure (.pointer (some ⟨lg, a5 * 9 + 18, none⟩)),
   .pure (.agg #[.int .i64 1, .string (numS ij), .string (denS ij), .string { data := #[] }, .bool false, .int .i64 0, .int .i64 0, .int .i64 0, .slice none 0 0]),
   .pure (.slice (some ⟨lg, a5 * 9, none⟩) 5 (cap - a5)),
   .pure (.pointer (some ⟨lg, a5 * 9 + 27, none⟩)),
   .pure (.agg #[.int .i64 1, .string (numS cj), .string (denS cj), .string { data := #[] }, .bool false, .int .i64 0, .int .i64 0, .int .i64 0, .slice none 0 0]),
   .pure (.agg #[.int .i64 1, .string (numS aj), .string (denS aj), .string { data := #[] }, .bool false, .int .i64 0, .int .i64 0, .int .i64 0, .slice none 0 0]),
   .pure (.slice (some ⟨lg, a5 * 9, none⟩) 5 (cap - a5)),
   .pure (.pointer (some ⟨lg, a5 * 9 + 9, none⟩)),
   .pure (.agg #[.int .i64 1, .string (numS aj), .string (denS aj), .string { data := #[] }, .bool false, .int .i64 0, .int .i64 0, .int .i64 0, .slice none 0 0]),
   .pure (.bool true),
   .pure (.bool false),
   .pure (.bool false),
   .pure (.bool false),
   .pure (.agg #[.int .i64 1, .string (numS vj), .string (denS vj), .string { data := #[] }, .bool false, .int .i64 0, .int .i64 0, .int .i64 0, .slice none 0 0]),
   .pure (.agg #[.int .i64 1, .string (numS mj), .string (denS mj), .string { data := #[] }, .bool false, .int .i64 0, .int .i64 0, .int .i64 0, .slice none 0 0]),
   .pure (.agg #[.int .i64 1, .string (numS wj), .string (denS wj), .string { data := #[] }, .bool false, .int .i64 0, .int .i64 0, .int .i64 0, .slice none 0 0]),
   .pure (.slice (some ⟨lg, a5 * 9, none⟩) 5 (cap - a5)),
   .pure (.pointer (some ⟨lg, a5 * 9 + 36, none⟩)),
   .pure (.agg #[.int .i64 1, .string (numS wj), .string (denS wj), .string { data := #[] }, .bool false, .int .i64 0, .int .i64 0, .int .i64 0, .slice none 0 0]),
   .pure (.bool true),
   .pure (.bool false),
   .pure (.bool false),
   .pure (.bool false),
   .pure (.int .i64 (j : Int)),
   .pure (.int .i64 ((j : Int) + 1)),
   .pure (.int .i64 (n : Int)),
   .pure (.bool true),
   .pure (.bool true),
   .pure (.slice (some ⟨lg, a5 * 9, none⟩) 5 (cap - a5)),
   .pure (.pointer (some ⟨lg, a5 * 9 + 9, none⟩)),
   .pure (.agg #[.int .i64 1, .string (numS aj), .string (denS aj), .string { data := #[] }, .bool false, .int .i64 0, .int .i64 0, .int .i64 0, .slice none 0 0]),
   .pure (.pointer (some ⟨b12, 8, none⟩)),
   .pure (.slice (some ⟨lg, 0, none⟩) (n * 5) cap),
   .pure (.pointer (some ⟨lg, 9, none⟩)),
   .pure (.agg #[.int .i64 1, .string (numS aj), .string (denS aj), .string { data := #[] }, .bool false, .int .i64 0, .int .i64 0, .int .i64 0, .slice none 0 0]),
   .pure (.bool true),
   .pure (.bool false),
   .pure (.bool false),
   .pure (.bool false)]
set_option linter.unusedVariables false in
/-- what the operations of region 17 yield -/
def PwKs17 (ij : Rat) (lg a5 cap B17 : Nat) : List RK :=
  [.pure (.slice (some ⟨lg, a5 * 9, none⟩) 5 (cap - a5)),
   .pure (.pointer (some ⟨lg, a5 * 9 + 18, none⟩)),
   .pure (.agg #[.int .i64 1, .string (numS ij), .string (denS ij), .string { data := #[] }, .bool false, .int .i64 0, .int .i64 0, .int .i64 0, .slice none 0 0]),
   .pure (.agg #[.string (numS ij), .string (denS ij)]),
   .pure (.agg #[.int .i64 1, .string (numS ij), .string (denS ij), .string { data := #[] }, .bool false, .int .i64 0, .int .i64 0, .int .i64 0, .slice none 0 0]),
   .pure (.bool true),
   .pure (.bool false)]
set_option linter.unusedVariables false in
/-- what the operations of region 13 yield -/
def PvKs13 (q0 aj ij cj wj vj mj : Rat) (n lg cap a5 j B9 b12 B13 b16 : Nat) : List RK :=
  [.pure (.slice (some ⟨lg, a5 * 9, none⟩) 5 (cap - a5)),
   .pure (.pointer (some ⟨lg, a5 * 9, none⟩)),
   .pure (.agg #[.int .i64 1, .string (numS q0), .string (denS q0), .string { data := #[] }, .bool false, .int .i64 0, .int .i64 0, .int .i64 0, .slice none 0 0]),
   .pure (.int .i64 (j : Int)),
   .pure (.int .i64 ((j : Int) + 1)),
   .pure (.agg #[.int .i64 1, .string (numS q0), .string (denS q0), .string { data := #[] }, .bool false, .int .i64 0, .int .i64 0, .int .i64 0, .slice none 0 0]),
   .pure (.bool true),
   .pure (.bool false),
   .pure (.bool false),
   .pure (.slice (some ⟨lg, a5 * 9, none⟩) 5 (cap - a5)),
   .pure (.pointer (some ⟨lg, a5 * 9 + 18, none⟩)),
   .pure (.agg #[.int .i64 1, .string (numS ij), .string (denS ij), .string { data := #[] }, .bool false, .int .i64 0, .int .i64 0, .int .i64 0, .slice none 0 0]),
   .pure (.slice (some ⟨lg, a5 * 9, none⟩) 5 (cap - a5)),
   .pure (.pointer (some ⟨lg, a5 * 9 + 27, none⟩)),
   .pure (.agg #[.int .i64 1, .string (numS cj), .string (denS cj), .string { data := #[] }, .bool false, .int .i64 0, .int .i64 0, .int .i64 0, .slice none 0 0]),
   .pure (.agg #[.int .i64 1, .string (numS aj), .string (denS aj), .string { data := #[] }, .bool false, .int .i64 0, .int .i64 0, .int .i64 0, .slice none 0 0]),
   .pure (.slice (some ⟨lg, a5 * 9, none⟩) 5 (cap - a5)),
   .pure (.pointer (some ⟨lg, a5 * 9 + 9, none⟩)),
   .pure (.agg #[.int .i64 1, .string (numS aj), .string (denS aj), .string { data := #[] }, .bool false, .int .i64 0, .int .i64 0, .int .i64 0, .slice none 0 0]),
   .pure (.bool true),
   .pure (.bool false),
   .pure (.bool false),
   .pure (.bool false),
   .pure (.agg #[.int .i64 1, .string (numS vj), .string (denS vj), .string { data := #[] }, .bool false, .int .i64 0, .int .i64 0, .int .i64 0, .slice none 0 0]),
   .pure (.agg #[.int .i64 1, .string (numS mj), .string (denS mj), .string { data := #[] }, .bool false, .int .i64 0, .int .i64 0, .int .i64 0, .slice none 0 0]),
   .pure (.agg #[.int .i64 1, .string (numS wj), .string (denS wj), .string { data := #[] }, .bool false, .int .i64 0, .int .i64 0, .int .i64 0, .slice none 0 0]),
   .pure (.slice (some ⟨lg, a5 * 9, none⟩) 5 (cap - a5)),
   .pure (.pointer (some ⟨lg, a5 * 9 + 36, none⟩)),
   .pure (.agg #[.int .i64 1, .string (numS wj), .string (denS wj), .string { data := #[] }, .bool false, .int .i64 0, .int .i64 0, .int .i64 0, .slice none 0 0]),
   .pure (.bool true),
   .pure (.bool false),
   .pure (.bool false),
   .pure (.bool false),
   .pure (.int .i64 (j : Int)),
   .pure (.int .i64 ((j : Int) + 1)),
   .pure (.int .i64 (n : Int)),
   .pure (.bool false),
   .pure (.bool false),
   .pure (undef),
   .pure (undef),
   .pure (undef),
   .pure (undef),
   .pure (undef),
   .pure (undef),
   .pure (undef),
   .pure (undef),
   .pure (undef),
   .pure (.bool false),
   .pure (.bool false)]
set_option linter.unusedVariables false in
/-- what the operations of region 17 yield -/
def PvKs17 (ij : Rat) (lg a5 cap B17 : Nat) : List RK :=
  [.pure (.slice (some ⟨lg, a5 * 9, none⟩) 5 (cap - a5)),
   .pure (.pointer (some ⟨lg, a5 * 9 + 18, none⟩)),
   .pure (.agg #[.int .i64 1, .string (numS ij), .string (denS ij), .string { data := #[] }, .bool false, .int .i64 0, .int .i64 0, .int .i64 0, .slice none 0 0]),
   .pure (.agg #[.string (numS ij), .string (denS ij)]),
   .pure (.agg #[.int .i64 1, .string (numS ij), .string (denS ij), .string { data := #[] }, .bool false, .int .i64 0, .int .i64 0, .int .i64 0, .slice none 0 0]),
   .pure (.bool true),
   .pure (.bool false)]
set_option linter.unusedVariables false in
/-- what the operations of region 21 yield -/
def PzKs21 (lq z four c0 : Rat) (n lg cap B11 b12 B13 : Nat) (cs : List Rat) : List RK :=
  [.pure (.agg #[.int .i64 1, .string (numS z), .string (denS z), .string { data := #[] }, .bool false, .int .i64 0, .int .i64 0, .int .i64 0, .slice none 0 0]),
   .pure (.agg #[.int .i64 1, .string (numS z), .string (denS z), .string { data := #[] }, .bool false, .int .i64 0, .int .i64 0, .int .i64 0, .slice none 0 0]),
   .pure (.bool true),
   .pure (.bool true),
   .pure (.agg #[.int .i64 5, .string { data := #[] }, .string { data := #[] }, .string { data := #[] }, .bool false, .int .i64 0, .int .i64 (n : Int), .int .i64 5, .slice (some ⟨lg, 0, none⟩) (n * 5) cap]),
   .pure (.agg #[.int .i64 1, .string (numS z), .string (denS z), .string { data := #[] }, .bool false, .int .i64 0, .int .i64 0, .int .i64 0, .slice none 0 0]),
   .pure (.agg #[.int .i64 1, .string (numS four), .string (denS four), .string { data := #[] }, .bool false, .int .i64 0, .int .i64 0, .int .i64 0, .slice none 0 0]),
   .row #[.int .i64 5, .string { data := #[] }, .string { data := #[] }, .string { data := #[] }, .bool false, .int .i64 0, .int .i64 (n : Int), .int .i64 5, .slice (some ⟨lg, 0, none⟩) (n * 5) cap, .int .i64 1, .string (numS z), .string (denS z), .string { data := #[] }, .bool false, .int .i64 0, .int .i64 0, .int .i64 0, .slice none 0 0, .int .i64 1, .string (numS four), .string (denS four), .string { data := #[] }, .bool false, .int .i64 0, .int .i64 0, .int .i64 0, .slice none 0 0] 30 3,
   .pure (.agg #[.int .i64 1, .string (numS c0), .string (denS c0), .string { data := #[] }, .bool false, .int .i64 0, .int .i64 0, .int .i64 0, .slice none 0 0]),
   .row #[.int .i64 1, .string (numS c0), .string (denS c0), .string { data := #[] }, .bool false, .int .i64 0, .int .i64 0, .int .i64 0, .slice none 0 0] 30 1,
   .pure (.agg #[.int .i64 1, .string (numS lq), .string (denS lq), .string { data := #[] }, .bool false, .int .i64 0, .int .i64 0, .int .i64 0, .slice none 0 0]),
   .pure (.agg #[.int .i64 1, .string (numS lq), .string (denS lq), .string { data := #[] }, .bool false, .int .i64 0, .int .i64 0, .int .i64 0, .slice none 0 0]),
   .pure (.bool true),
   .pure (.bool true),
   .pure (.bool true)]
set_option linter.unusedVariables false in
/-- what the operations of region 21 yield -/
def PyKs21 (lq z four c0 : Rat) (n lg cap B11 b12 B13 : Nat) (cs : List Rat) : List RK :=
  [.pure (.agg #[.int .i64 1, .string (numS z), .string (denS z), .string { data := #[] }, .bool false, .int .i64 0, .int .i64 0, .int .i64 0, .slice none 0 0]),
   .pure (.agg #[.int .i64 1, .string (numS z), .string (denS z), .string { data := #[] }, .bool false, .int .i64 0, .int .i64 0, .int .i64 0, .slice none 0 0]),
   .pure (.bool true),
   .pure (.bool true),
   .pure (.agg #[.int .i64 5, .string { data := #[] }, .string { data := #[] }, .string { data := #[] }, .bool false, .int .i64 0, .int .i64 (n : Int), .int .i64 5, .slice (some ⟨lg, 0, none⟩) (n * 5) cap]),
   .pure (.agg #[.int .i64 1, .string (numS z), .string (denS z), .string { data := #[] }, .bool false, .int .i64 0, .int .i64 0, .int .i64 0, .slice none 0 0]),
   .pure (.agg #[.int .i64 1, .string (numS four), .string (denS four), .string { data := #[] }, .bool false, .int .i64 0, .int .i64 0, .int .i64 0, .slice none 0 0]),
   .row #[.int .i64 5, .string { data := #[] }, .string { data := #[] }, .string { data := #[] }, .bool false, .int .i64 0, .int .i64 (n : Int), .int .i64 5, .slice (some ⟨lg, 0, none⟩) (n * 5) cap, .int .i64 1, .string (numS z), .string (denS z), .string { data := #[] }, .bool false, .int .i64 0, .int .i64 0, .int .i64 0, .slice none 0 0, .int .i64 1, .string (numS four), .string (denS four), .string { data := #[] }, .bool false, .int .i64 0, .int .i64 0, .int .i64 0, .slice none 0 0] 30 3,
   .any (ColR n cs),
   .any (ColRow n cs),
   .pure (.agg #[.int .i64 1, .string (numS lq), .string (denS lq), .string { data := #[] }, .bool false, .int .i64 0, .int .i64 0, .int .i64 0, .slice none 0 0]),
   .pure (.agg #[.int .i64 1, .string (numS lq), .string (denS lq), .string { data := #[] }, .bool false, .int .i64 0, .int .i64 0, .int .i64 0, .slice none 0 0]),
   .pure (.bool true),
   .pure (.bool true),
   .pure (.bool true)]
set_option linter.unusedSimpArgs false in
set_option linter.unusedVariables false in
set_option maxHeartbeats 4000000 in
set_option maxRecDepth 100000 in
theorem plans_law (v0 r0 n0 k0 : Int) (v a n k : Nat) (lq f nq kq mo z four : Rat) (Vs Ms Is Cs Ws As mC : Nat → Rat) (cs : List Rat) (w : World) (hE : EnvY w)
    (hn1 : 1 ≤ n)
    (hn9 : n ≤ 40)
    (tMn : ∀ W, Calls Tryz.prog 4 #[.int .i64 n0, .int .i64 40] W fun e w' => e = .returned (.int .i64 ((n : Int) - 1)) ∧ w' = W)
    (tMk : ∀ W, Calls Tryz.prog 4 #[.int .i64 k0, .int .i64 4] W fun e w' => e = .returned (.int .i64 (k : Int)) ∧ w' = W)
    (tMr : ∀ W, Calls Tryz.prog 4 #[.int .i64 r0, .int .i64 20] W fun e w' => e = .returned (.int .i64 (a : Int)) ∧ w' = W)
    (tMv : ∀ W, Calls Tryz.prog 4 #[.int .i64 v0, .int .i64 100000] W fun e w' => e = .returned (.int .i64 (v : Int)) ∧ w' = W)
    (tR : Fun2 5 (.int .i64 (a : Int)) (.int .i64 1000) (.tuple #[.agg #[.string (numS f), .string (denS f)], .int .i64 0]))
    (tO : Fun1 7 (.int .i64 (v : Int)) (.agg #[.string (numS lq), .string (denS lq)]))
    (tN : ∀ q : Rat, q = lq ∨ q = f ∨ (∃ i, i < n ∧ q = Is i) → Fun1 6 (.agg #[.string (numS q), .string (denS q)]) (.agg #[.int .i64 1, .string (numS q), .string (denS q), .string { data := #[] }, .bool false, .int .i64 0, .int .i64 0, .int .i64 0, .slice none 0 0]))
    (tWn : Fun1 9 (.int .i64 (n : Int)) (.agg #[.int .i64 1, .string (numS nq), .string (denS nq), .string { data := #[] }, .bool false, .int .i64 0, .int .i64 0, .int .i64 0, .slice none 0 0]))
    (tWk : Fun1 9 (.int .i64 (k : Int)) (.agg #[.int .i64 1, .string (numS kq), .string (denS kq), .string { data := #[] }, .bool false, .int .i64 0, .int .i64 0, .int .i64 0, .slice none 0 0]))
    (tWm : Fun1 9 (.int .i64 (-1)) (.agg #[.int .i64 1, .string (numS mo), .string (denS mo), .string { data := #[] }, .bool false, .int .i64 0, .int .i64 0, .int .i64 0, .slice none 0 0]))
    (tW0 : Fun1 9 (.int .i64 0) (.agg #[.int .i64 1, .string (numS z), .string (denS z), .string { data := #[] }, .bool false, .int .i64 0, .int .i64 0, .int .i64 0, .slice none 0 0]))
    (tW4 : Fun1 9 (.int .i64 4) (.agg #[.int .i64 1, .string (numS four), .string (denS four), .string { data := #[] }, .bool false, .int .i64 0, .int .i64 0, .int .i64 0, .slice none 0 0]))
    (tWi : ∀ i : Nat, i < n → Fun1 9 (.int .i64 ((i : Int) + 1)) (.agg #[.int .i64 1, .string (numS (((i + 1 : Nat) : Int) : Rat)), .string (denS (((i + 1 : Nat) : Int) : Rat)), .string { data := #[] }, .bool false, .int .i64 0, .int .i64 0, .int .i64 0, .slice none 0 0]))
    (pL : PlC n lq f nq kq (itsL As Is Cs Ws n))
    (pP : ∀ i, i < n → PrC (Cs i) mo (mC i))
    (tA : ∀ i, i < n → Fun2 12 (.agg #[.int .i64 1, .string (numS (Is i)), .string (denS (Is i)), .string { data := #[] }, .bool false, .int .i64 0, .int .i64 0, .int .i64 0, .slice none 0 0]) (.agg #[.int .i64 1, .string (numS (Cs i)), .string (denS (Cs i)), .string { data := #[] }, .bool false, .int .i64 0, .int .i64 0, .int .i64 0, .slice none 0 0]) (.agg #[.int .i64 1, .string (numS (As i)), .string (denS (As i)), .string { data := #[] }, .bool false, .int .i64 0, .int .i64 0, .int .i64 0, .slice none 0 0]))
    (tB : ∀ i, i < n → Fun2 12 (.agg #[.int .i64 1, .string (numS (Vs i)), .string (denS (Vs i)), .string { data := #[] }, .bool false, .int .i64 0, .int .i64 0, .int .i64 0, .slice none 0 0]) (.agg #[.int .i64 1, .string (numS (mC i)), .string (denS (mC i)), .string { data := #[] }, .bool false, .int .i64 0, .int .i64 0, .int .i64 0, .slice none 0 0]) (.agg #[.int .i64 1, .string (numS (Ws i)), .string (denS (Ws i)), .string { data := #[] }, .bool false, .int .i64 0, .int .i64 0, .int .i64 0, .slice none 0 0]))
    (tX : ∀ i, i < n → Fun2 13 (.agg #[.string (numS (Vs i)), .string (denS (Vs i))]) (.agg #[.string (numS f), .string (denS f)]) (.tuple #[.agg #[.string (numS (Ms i)), .string (denS (Ms i))], .int .i64 0]))
    (tY : ∀ i, i < n → Fun2 14 (.agg #[.string (numS (Ms i)), .string (denS (Ms i))]) (.int .i64 (k : Int)) (.tuple #[.agg #[.string (numS (Is i)), .string (denS (Is i))], .int .i64 0]))
    (hV0 : Vs 0 = lq)
    (hVn : ∀ i, i < n → Ws i = Vs (i + 1))
    (hVz : Vs n = z)
    (hA1 : ∀ i, i + 1 < n → As i = As 0)
    (pI : 2 ≤ n → IxC n z four (itsL As Is Cs Ws n) cs)
    (pS : 2 ≤ n → SmC n cs lq)
    (pI1 : n = 1 → IxC1 n z four (itsL As Is Cs Ws n) (Cs 0))
    (pS1 : n = 1 → SmC1 (Cs 0) lq) :
    Calls Tryz.prog 3 #[.int .i64 v0, .int .i64 r0, .int .i64 n0, .int .i64 k0] w fun e w' => e = .returned (.bool true) ∧ Below w.heap.size w w' := by
  have QtMn := Lib.hid tMn
  have QtMk := Lib.hid tMk
  have QtMr := Lib.hid tMr
  have QtMv := Lib.hid tMv
  have QtR := Lib.hid tR
  have QtO := Lib.hid tO
  have QtN := Lib.hid tN
  have QtWn := Lib.hid tWn
  have QtWk := Lib.hid tWk
  have QtWm := Lib.hid tWm
  have QtW0 := Lib.hid tW0
  have QtW4 := Lib.hid tW4
  have QtWi := Lib.hid tWi
  have QpL := Lib.hid pL
  have QpP := Lib.hid pP
  have QtA := Lib.hid tA
  have QtB := Lib.hid tB
  have QtX := Lib.hid tX
  have QtY := Lib.hid tY
  have QhV0 := Lib.hid hV0
  have QhVn := Lib.hid hVn
  have QhVz := Lib.hid hVz
  have QhA1 := Lib.hid hA1
  have QpI := Lib.hid pI
  have QpS := Lib.hid pS
  have QpI1 := Lib.hid pI1
  have QpS1 := Lib.hid pS1
  unfold Fun1 at QtO QtWn QtWk QtWm QtW0 QtW4
  unfold Fun2 at QtR
  have QtNl := Lib.hid (QtN.out lq (.inl rfl))
  have QtNf := Lib.hid (QtN.out f (.inr (.inl rfl)))
  unfold Fun1 at QtNl QtNf
  have hwn : IntKind.i64.wrap (1 + ((n : Int) - 1)) = (n : Int) := by rw [show (1 : Int) + ((n : Int) - 1) = (n : Int) by omega]; exact IntWalk.i64_in _ (by omega)
  have HE := Lib.hid hE
  have HL := Lib.hid (Below.refl w.heap.size w)
  clear hE tMn tMk tMr tMv tR tO tN tWn tWk tWm tW0 tW4 tWi pL pP tA tB tX tY hV0 hVn hVz hA1 pI pS pI1 pS1
  go_enter Tryz.func3, Tryz.ntmps3
  go_wp2_with fail
  refine (QtMn.out _).mono ?_
  rintro e w1 ⟨rfl, hw⟩
  replace hw := hw.symm
  subst hw
  go_wp2_with fail
  refine (QtMk.out _).mono ?_
  rintro e w1 ⟨rfl, hw⟩
  replace hw := hw.symm
  subst hw
  go_wp2_with fail
  refine (QtMr.out _).mono ?_
  rintro e w1 ⟨rfl, hw⟩
  replace hw := hw.symm
  subst hw
  go_wp2_with fail
  refine (QtR.out _ HE.out).mono ?_
  rintro e w1 ⟨rfl, hq⟩
  replace HE := Lib.hid (HE.out.below hq)
  replace HL := Lib.hid (HL.out.trans (hq.mono HL.out.size))
  clear hq
  have hq : Below w1.heap.size w1 (w1.alloc (.cells #[.string (numS f), .string (denS f)] 24)) := (Below.refl _ _).alloc (Nat.le_refl _) _
  have H9 := Lib.hid (heap_alloc_new w1 (.cells #[.string (numS f), .string (denS f)] 24))
  have L9 := Lib.hid HL.out.size
  replace HE := Lib.hid (HE.out.below hq)
  replace HL := Lib.hid (HL.out.trans (hq.mono HL.out.size))
  clear hq
  obtain ⟨B9, hB⟩ : ∃ B, w1.heap.size = B := ⟨_, rfl⟩
  obtain ⟨W1, hW⟩ : ∃ Z, w1.alloc (.cells #[.string (numS f), .string (denS f)] 24) = Z := ⟨_, rfl⟩
  rw [hW] at H9 HE HL
  rw [hB] at H9 L9
  have EW := Lib.hid hW
  have EB := Lib.hid hB
  clear hW hB
  go_upto_region 3 with fail
  rw [EW.out, EB.out]
  go_wp2_with fail
  refine (QtMv.out _).mono ?_
  rintro e w2 ⟨rfl, hw⟩
  replace hw := hw.symm
  subst hw
  go_wp2_with fail
  refine (QtO.out _ HE.out).mono ?_
  rintro e w2 ⟨rfl, hq⟩
  replace HE := Lib.hid (HE.out.below hq)
  replace HL := Lib.hid (HL.out.trans (hq.mono HL.out.size))
  replace H9 := Lib.hid (keep_block H9.out hq)
  clear hq
  go_wp2_with fail
  refine (QtNl.out _ HE.out).mono ?_
  rintro e w3 ⟨rfl, hq⟩
  replace HE := Lib.hid (HE.out.below hq)
  replace HL := Lib.hid (HL.out.trans (hq.mono HL.out.size))
  replace H9 := Lib.hid (keep_block H9.out hq)
  have L11 := Lib.hid (heap_lt H9.out)
  have hq2 : Below w3.heap.size w3 (w3.alloc (.cells #[.int .i64 1, .string (numS lq), .string (denS lq), .string { data := #[] }, .bool false, .int .i64 0, .int .i64 0, .int .i64 0, .slice none 0 0] 30)) := (Below.refl _ _).alloc (Nat.le_refl _) _
  have H11 := Lib.hid (heap_alloc_new w3 (.cells #[.int .i64 1, .string (numS lq), .string (denS lq), .string { data := #[] }, .bool false, .int .i64 0, .int .i64 0, .int .i64 0, .slice none 0 0] 30))
  replace HE := Lib.hid (HE.out.below hq2)
  replace HL := Lib.hid (HL.out.trans (hq2.mono HL.out.size))
  replace H9 := Lib.hid (keep_block H9.out hq2)
  clear hq hq2
  obtain ⟨B11, hB⟩ : ∃ B, w3.heap.size = B := ⟨_, rfl⟩
  obtain ⟨W2, hW⟩ : ∃ Z, w3.alloc (.cells #[.int .i64 1, .string (numS lq), .string (denS lq), .string { data := #[] }, .bool false, .int .i64 0, .int .i64 0, .int .i64 0, .slice none 0 0] 30) = Z := ⟨_, rfl⟩
  rw [hW] at H9 H11 HE HL
  rw [hB] at H11 L11
  have EW2 := Lib.hid hW
  have EB2 := Lib.hid hB
  clear hW hB
  go_upto_region 4 with fail
  rw [EW2.out, EB2.out]
  have L2 := Lib.hid (heap_lt H11.out)
  have HP2 := Lib.hid (fun b (hb : W2.heap.size ≤ b) => HE.out.e.past hb)
  go_wp2_with fail
  have hok : okB 11 (PwKs4 lq f nq kq n k B9 B11 W2.heap.size As Is Cs Ws) = true := by kernel_rfl
  have hla : ∀ (ix : Nat) (kx : RK), (PwKs4 lq f nq kq n k B9 B11 W2.heap.size As Is Cs Ws)[ix]? = some kx → kx.lasts := by
    intro ix kx hk
    match ix, hk with
    | 0, hk => have hk := Option.some.inj hk; subst hk; exact trivial
    | 1, hk => have hk := Option.some.inj hk; subst hk; exact trivial
    | 2, hk => have hk := Option.some.inj hk; subst hk; exact trivial
    | 3, hk => have hk := Option.some.inj hk; subst hk; exact trivial
    | 4, hk => have hk := Option.some.inj hk; subst hk; exact trivial
    | 5, hk => have hk := Option.some.inj hk; subst hk; exact trivial
    | 6, hk => have hk := Option.some.inj hk; subst hk; exact trivial
    | 7, hk => have hk := Option.some.inj hk; subst hk; exact trivial
    | 8, hk => have hk := Option.some.inj hk; subst hk; exact (by first | exact tabR_lasts | exact colR_lasts | exact colRow_lasts)
    | 9, hk => have hk := Option.some.inj hk; subst hk; exact trivial
    | 10, hk => have hk := Option.some.inj hk; subst hk; exact trivial
    | _ + 11, hk => exact absurd hk (by simp [PwKs4])
  refine wp_region_facts_abs_r (row := none) (w := W2) 10 10 1 11 [10] (PwKs4 lq f nq kq n k B9 B11 W2.heap.size As Is Cs Ws) [some 34, some 35, some 36, some 37, some 38, some 39, some 40, some 41, some 42, some 12, none] [(11, .pointer (some ⟨B11, 0, none⟩)), (9, .pointer (some ⟨B9, 0, none⟩)), (2, .int .i64 (n : Int)), (3, .int .i64 (k : Int))] 158 (by kernel_rfl) (by kernel_rfl) (by kernel_rfl) rfl rfl (by decide) rfl (by kernel_rfl) rfl (Nat.le_of_eq rfl) rfl ?ho [undef, undef, undef, undef, undef, undef, undef, undef, undef, undef, undef] ?h00 (Fs.start rfl rfl) ?hs ?hd
  case ho =>
    intro k x hk
    match k, hk with
    | 0, hk => have hk := Option.some.inj hk; subst hk; rfl
    | 1, hk => have hk := Option.some.inj hk; subst hk; rfl
    | 2, hk => have hk := Option.some.inj hk; subst hk; rfl
    | 3, hk => have hk := Option.some.inj hk; subst hk; rfl
    | _ + 4, hk => exact absurd hk (by simp)
  case h00 => simp only [putO, layL]
  case hs =>
    rintro A listed vs Wr hF hR i hi hun hpre
    obtain ⟨s0, s1, s2, s3, s4, s5, s6, s7, s8, s9, s10, hvs⟩ := exl_of 11 vs (fun l => vs = l) hF.len rfl
    subst hvs
    have hge := Nat.zero_le i
    rcases Nat.lt_or_ge i 5 with hi | hge
    · rcases Nat.lt_or_ge i 2 with hi | hge
      · rcases Nat.lt_or_ge i 1 with hi | hge
        · obtain rfl := eqi hi hge
          have ro11 : A.tmps[11]? = some (.pointer (some ⟨B11, 0, none⟩)) := hR.out 0 _ rfl
          have hcc := (nine_at (keep_block H11.out (below_none hF.low))).1
          have cH110 := hcc.1
          have cH111 := hcc.2.1
          have cH112 := hcc.2.2.1
          have cH113 := hcc.2.2.2.1
          have cH114 := hcc.2.2.2.2.1
          have cH115 := hcc.2.2.2.2.2.1
          have cH116 := hcc.2.2.2.2.2.2.1
          have cH117 := hcc.2.2.2.2.2.2.2.1
          have cH118 := hcc.2.2.2.2.2.2.2.2
          clear hcc
          refine step_of ⟨some 34, _, _, _, _, _⟩ rfl (fun K' hK => ?_)
          go_simp
          exact hK.out _ _ ⟨_, hF.pure hok hla hpre rfl (Below.refl _ _), rfl⟩
        obtain rfl := eqi hi hge
        have ro9 : A.tmps[9]? = some (.pointer (some ⟨B9, 0, none⟩)) := hR.out 1 _ rfl
        have hcc := (two_at (keep_block H9.out (below_none hF.low))).1
        have cH90 := hcc.1
        have cH91 := hcc.2
        clear hcc
        refine step_of ⟨some 35, _, _, _, _, _⟩ rfl (fun K' hK => ?_)
        go_simp
        exact hK.out _ _ ⟨_, hF.pure hok hla hpre rfl (Below.refl _ _), rfl⟩
      rcases Nat.lt_or_ge i 3 with hi | hge
      · obtain rfl := eqi hi hge
        have p1 := hpre 1 (by kernel_rfl)
        have e1 : s1 = .agg #[.string (numS f), .string (denS f)] := hF.get 1 _ rfl (.inr p1)
        subst e1
        have r1 : A.tmps[35]? = some (.agg #[.string (numS f), .string (denS f)]) := hR.own 1 _ _ rfl rfl
        refine step_of ⟨some 36, _, _, _, _, _⟩ rfl (fun K' hK => ?_)
        go_simp
        go_at_call 6
        (with_reducible refine (QtNf.out _ (HE.out.below (below_none hF.low))).mono ?_)
        rintro e Wq ⟨rfl, hq⟩
        exact hK.out _ _ ⟨_, hF.pure hok hla hpre rfl hq, rfl⟩
      rcases Nat.lt_or_ge i 4 with hi | hge
      · obtain rfl := eqi hi hge
        have ro2 : A.tmps[2]? = some (.int .i64 (n : Int)) := hR.out 2 _ rfl
        refine step_of ⟨some 37, _, _, _, _, _⟩ rfl (fun K' hK => ?_)
        go_simp
        exact hK.out _ _ ⟨_, hF.pure hok hla hpre rfl (Below.refl _ _), rfl⟩
      obtain rfl := eqi hi hge
      have p3 := hpre 3 (by kernel_rfl)
      have e3 : s3 = .int .i64 (n : Int) := hF.get 3 _ rfl (.inr p3)
      subst e3
      have r3 : A.tmps[37]? = some (.int .i64 (n : Int)) := hR.own 3 _ _ rfl rfl
      refine step_of ⟨some 38, _, _, _, _, _⟩ rfl (fun K' hK => ?_)
      go_simp
      go_at_call 9
      (with_reducible refine (QtWn.out _ (HE.out.below (below_none hF.low))).mono ?_)
      rintro e Wq ⟨rfl, hq⟩
      exact hK.out _ _ ⟨_, hF.pure hok hla hpre rfl hq, rfl⟩
    rcases Nat.lt_or_ge i 7 with hi | hge
    · rcases Nat.lt_or_ge i 6 with hi | hge
      · obtain rfl := eqi hi hge
        have ro3 : A.tmps[3]? = some (.int .i64 (k : Int)) := hR.out 3 _ rfl
        refine step_of ⟨some 39, _, _, _, _, _⟩ rfl (fun K' hK => ?_)
        go_simp
        exact hK.out _ _ ⟨_, hF.pure hok hla hpre rfl (Below.refl _ _), rfl⟩
      obtain rfl := eqi hi hge
      have p5 := hpre 5 (by kernel_rfl)
      have e5 : s5 = .int .i64 (k : Int) := hF.get 5 _ rfl (.inr p5)
      subst e5
      have r5 : A.tmps[39]? = some (.int .i64 (k : Int)) := hR.own 5 _ _ rfl rfl
      refine step_of ⟨some 40, _, _, _, _, _⟩ rfl (fun K' hK => ?_)
      go_simp
      go_at_call 9
      (with_reducible refine (QtWk.out _ (HE.out.below (below_none hF.low))).mono ?_)
      rintro e Wq ⟨rfl, hq⟩
      exact hK.out _ _ ⟨_, hF.pure hok hla hpre rfl hq, rfl⟩
    rcases Nat.lt_or_ge i 8 with hi | hge
    · obtain rfl := eqi hi hge
      have p0 := hpre 0 (by kernel_rfl)
      have e0 : s0 = .agg #[.int .i64 1, .string (numS lq), .string (denS lq), .string { data := #[] }, .bool false, .int .i64 0, .int .i64 0, .int .i64 0, .slice none 0 0] := hF.get 0 _ rfl (.inr p0)
      subst e0
      have r0 : A.tmps[34]? = some (.agg #[.int .i64 1, .string (numS lq), .string (denS lq), .string { data := #[] }, .bool false, .int .i64 0, .int .i64 0, .int .i64 0, .slice none 0 0]) := hR.own 0 _ _ rfl rfl
      have p2 := hpre 2 (by kernel_rfl)
      have e2 : s2 = .agg #[.int .i64 1, .string (numS f), .string (denS f), .string { data := #[] }, .bool false, .int .i64 0, .int .i64 0, .int .i64 0, .slice none 0 0] := hF.get 2 _ rfl (.inr p2)
      subst e2
      have r2 : A.tmps[36]? = some (.agg #[.int .i64 1, .string (numS f), .string (denS f), .string { data := #[] }, .bool false, .int .i64 0, .int .i64 0, .int .i64 0, .slice none 0 0]) := hR.own 2 _ _ rfl rfl
      have p4 := hpre 4 (by kernel_rfl)
      have e4 : s4 = .agg #[.int .i64 1, .string (numS nq), .string (denS nq), .string { data := #[] }, .bool false, .int .i64 0, .int .i64 0, .int .i64 0, .slice none 0 0] := hF.get 4 _ rfl (.inr p4)
      subst e4
      have r4 : A.tmps[38]? = some (.agg #[.int .i64 1, .string (numS nq), .string (denS nq), .string { data := #[] }, .bool false, .int .i64 0, .int .i64 0, .int .i64 0, .slice none 0 0]) := hR.own 4 _ _ rfl rfl
      have p6 := hpre 6 (by kernel_rfl)
      have e6 : s6 = .agg #[.int .i64 1, .string (numS kq), .string (denS kq), .string { data := #[] }, .bool false, .int .i64 0, .int .i64 0, .int .i64 0, .slice none 0 0] := hF.get 6 _ rfl (.inr p6)
      subst e6
      have r6 : A.tmps[40]? = some (.agg #[.int .i64 1, .string (numS kq), .string (denS kq), .string { data := #[] }, .bool false, .int .i64 0, .int .i64 0, .int .i64 0, .slice none 0 0]) := hR.own 6 _ _ rfl rfl
      refine step_of ⟨some 41, _, _, _, _, _⟩ rfl (fun K' hK => ?_)
      go_simp
      exact hK.out _ _ ⟨_, hF.row hok hla hpre rfl, rfl⟩
    rcases Nat.lt_or_ge i 9 with hi | hge
    · obtain rfl := eqi hi hge
      have p7 := hpre 7 (by kernel_rfl)
      obtain ⟨G7, eG7, _, hGB7⟩ : ∃ G, s7 = .slice (some ⟨G, 0, none⟩) 4 4 ∧ _ ≤ G ∧ Wr.heap[G]? = some (.cells #[.int .i64 1, .string (numS lq), .string (denS lq), .string { data := #[] }, .bool false, .int .i64 0, .int .i64 0, .int .i64 0, .slice none 0 0, .int .i64 1, .string (numS f), .string (denS f), .string { data := #[] }, .bool false, .int .i64 0, .int .i64 0, .int .i64 0, .slice none 0 0, .int .i64 1, .string (numS nq), .string (denS nq), .string { data := #[] }, .bool false, .int .i64 0, .int .i64 0, .int .i64 0, .slice none 0 0, .int .i64 1, .string (numS kq), .string (denS kq), .string { data := #[] }, .bool false, .int .i64 0, .int .i64 0, .int .i64 0, .slice none 0 0] 30 (0, 0)) := hF.get 7 _ rfl (.inr p7)
      subst eG7
      have r7 : A.tmps[41]? = some (.slice (some ⟨G7, 0, none⟩) 4 4) := hR.own 7 _ _ rfl rfl
      refine step_of ⟨some 42, _, _, _, _, _⟩ rfl (fun K' hK => ?_)
      go_simp
      go_at_call 8
      (with_reducible refine (PlC.on QpL.out W2.heap.size _ G7 hGB7 (HE.out.below (below_none hF.low)) (below_none hF.low).size).mono ?_)
      rintro e Wq ⟨lq, cq, rfl, hvq, _, hq⟩
      exact hK.out _ _ ⟨_, hF.any hok hla hpre rfl hq ⟨lq, cq, rfl, hvq⟩, rfl⟩
    obtain rfl := eqi hi hge
    refine step_of ⟨some 12, _, _, _, _, _⟩ rfl (fun K' hK => ?_)
    go_simp
    exact hK.out _ _ ⟨_, hF.box hok hla hpre hun rfl, rfl⟩
  case hd =>
    rintro listed vs W4 hF hall
    obtain ⟨s0, s1, s2, s3, s4, s5, s6, s7, s8, s9, s10, hvs⟩ := exl_of 11 vs (fun l => vs = l) hF.len rfl
    subst hvs
    obtain ⟨lg8, cap8, e8, hv8⟩ := hF.get 8 _ rfl (.inr (hall 8 (by decide)))
    replace e8 : s8 = .agg #[.int .i64 5, .string { data := #[] }, .string { data := #[] }, .string { data := #[] }, .bool false, .int .i64 0, .int .i64 (n : Int), .int .i64 5, .slice (some ⟨lg8, 0, none⟩) (n * 5) cap8] := e8
    subst e8
    have HV8 := Lib.hid hv8
    obtain ⟨b12, e9, _, gq, k9⟩ : ∃ G, s9 = .pointer (some ⟨G, 0, none⟩) ∧ (∀ k, none = some k → G = k) ∧ _ ≤ G ∧ W4.heap[G]? = some (.cells (if listed.getD 12 false = true then #[.int .i64 0, .string { data := #[] }, .string { data := #[] }, .string { data := #[] }, .bool false, .int .i64 0, .int .i64 0, .int .i64 0, .slice none 0 0] else #[.int .i64 0, .string { data := #[] }, .string { data := #[] }, .string { data := #[] }, .bool false, .int .i64 0, .int .i64 0, .int .i64 0, .slice none 0 0]) 30 (0, 0)) := hF.get 9 _ rfl (.inr (hall 9 (by decide)))
    subst e9
    rw [if_neg (hF.unst (by decide))] at k9
    have H12 := Lib.hid k9
    clear k9
    have ge12 := Lib.hid gq
    clear gq
    have hq := below_none hF.low
    replace H9 := Lib.hid (keep_block H9.out hq)
    replace H11 := Lib.hid (keep_block H11.out hq)
    replace HE := Lib.hid (HE.out.below hq)
    replace HL := Lib.hid (HL.out.trans (hq.mono HL.out.size))
    clear hq
    clear hF hall hok hla
    simp only [putO, layL]
    obtain ⟨hva, hlg, hcp⟩ := HV8.out
    have HVA := Lib.hid hva
    have HLG := Lib.hid hlg
    have HCP := Lib.hid hcp
    clear hva hlg hcp HV8
    have LTT := Lib.hid (heap_lt H11.out)
    have LB := Lib.hid ge12.out
    obtain ⟨⟨x0, x1, x2, x3, x4, x5, x6, x7, x8⟩, y0, y1, y2, y3, y4, y5, y6, y7, y8⟩ := nine_at H12.out
    refine rest_one 10 ⟨none, _, _, _, _, _⟩ rfl (by kernel_rfl) rfl (fun K' hK => ?_)
    go_simp
    clear x0 x1 x2 x3 x4 x5 x6 x7 x8 y0 y1 y2 y3 y4 y5 y6 y7 y8
    refine hK.out _ _ ?_
    refine rest_end ?_
    have L12a := Lib.hid (show w.heap.size ≤ b12 by have := L9.out; have := L11.out; have := LB.out; have := L2.out; omega)
    have NE12 := row_ne HVA.out (by rw [itsL_len]; omega) H12.out
    have N9 : B9 ≠ b12 := by have := L2.out; have := L11.out; have := LB.out; omega
    have N11 : B11 ≠ b12 := by have := L2.out; have := LB.out; omega
    have q12 := set9_at H12.out (.int .i64 5) (.string { data := #[] }) (.string { data := #[] }) (.string { data := #[] }) (.bool false) (.int .i64 0) (.int .i64 (n : Int)) (.int .i64 5) (.slice (some ⟨lg8, 0, none⟩) (n * 5) cap8)
    have q9 := (set9_other W4 b12 (.int .i64 5) (.string { data := #[] }) (.string { data := #[] }) (.string { data := #[] }) (.bool false) (.int .i64 0) (.int .i64 (n : Int)) (.int .i64 5) (.slice (some ⟨lg8, 0, none⟩) (n * 5) cap8) N9).trans H9.out
    have q11 := (set9_other W4 b12 (.int .i64 5) (.string { data := #[] }) (.string { data := #[] }) (.string { data := #[] }) (.bool false) (.int .i64 0) (.int .i64 (n : Int)) (.int .i64 5) (.slice (some ⟨lg8, 0, none⟩) (n * 5) cap8) N11).trans H11.out
    have qva := vals_other HVA.out (set9_other W4 b12 (.int .i64 5) (.string { data := #[] }) (.string { data := #[] }) (.string { data := #[] }) (.bool false) (.int .i64 0) (.int .i64 (n : Int)) (.int .i64 5) (.slice (some ⟨lg8, 0, none⟩) (n * 5) cap8) NE12)
    have qe := HE.out.kept (set9_kept W4 b12 (.int .i64 5) (.string { data := #[] }) (.string { data := #[] }) (.string { data := #[] }) (.bool false) (.int .i64 0) (.int .i64 (n : Int)) (.int .i64 5) (.slice (some ⟨lg8, 0, none⟩) (n * 5) cap8)) (HP2.out b12 LB.out)
    have ql := HL.out.trans (put9_below L12a.out W4 (.int .i64 5) (.string { data := #[] }) (.string { data := #[] }) (.string { data := #[] }) (.bool false) (.int .i64 0) (.int .i64 (n : Int)) (.int .i64 5) (.slice (some ⟨lg8, 0, none⟩) (n * 5) cap8))
    obtain ⟨W5, hW⟩ : ∃ Z, (((((((((W4.setCell ⟨b12, 0, none⟩ (.int .i64 5)).setCell ⟨b12, 1, none⟩ (.string { data := #[] })).setCell ⟨b12, 2, none⟩ (.string { data := #[] })).setCell ⟨b12, 3, none⟩ (.string { data := #[] })).setCell ⟨b12, 4, none⟩ (.bool false)).setCell ⟨b12, 5, none⟩ (.int .i64 0)).setCell ⟨b12, 6, none⟩ (.int .i64 (n : Int))).setCell ⟨b12, 7, none⟩ (.int .i64 5)).setCell ⟨b12, 8, none⟩ (.slice (some ⟨lg8, 0, none⟩) (n * 5) cap8)) = Z := ⟨_, rfl⟩
    rw [hW] at q12 q9 q11 qva qe ql ⊢
    clear hW N9 N11 NE12
    replace H12 := Lib.hid q12
    replace H9 := Lib.hid q9
    replace H11 := Lib.hid q11
    replace HVA := Lib.hid qva
    replace HE := Lib.hid qe
    replace HL := Lib.hid ql
    clear q12 q9 q11 qva qe ql
    obtain ⟨lg, hlgn⟩ : ∃ z, lg8 = z := ⟨_, rfl⟩
    obtain ⟨cap, hcpn⟩ : ∃ z, cap8 = z := ⟨_, rfl⟩
    rw [hlgn] at H12 HVA HLG ⊢
    rw [hcpn] at H12 HCP ⊢
    clear hlgn hcpn
    obtain ⟨⟨x0, x1, x2, x3, x4, x5, x6, x7, x8⟩, _⟩ := nine_at H12.out
    have LG5 := Lib.hid (items_in HVA.out (by rw [itsL_len]; omega))
    have LT12 := Lib.hid (heap_lt H12.out)
    have hq2 : Below W5.heap.size W5 (W5.alloc (.cells #[.int .i64 1, .string (numS lq), .string (denS lq), .string { data := #[] }, .bool false, .int .i64 0, .int .i64 0, .int .i64 0, .slice none 0 0] 30)) := (Below.refl _ _).alloc (Nat.le_refl _) _
    have q13 := heap_alloc_new W5 (.cells #[.int .i64 1, .string (numS lq), .string (denS lq), .string { data := #[] }, .bool false, .int .i64 0, .int .i64 0, .int .i64 0, .slice none 0 0] 30)
    have HI := Lib.hid (show LwI w B9 B11 b12 W5.heap.size f lq n lg cap (itsL As Is Cs Ws n) (Vs 0) (W5.alloc (.cells #[.int .i64 1, .string (numS lq), .string (denS lq), .string { data := #[] }, .bool false, .int .i64 0, .int .i64 0, .int .i64 0, .slice none 0 0] 30)) from ⟨keep_block H9.out hq2, keep_block H11.out hq2, keep_block H12.out hq2, by rw [QhV0.out]; exact q13, HVA.out.below hq2, HE.out.below hq2, HL.out.trans (hq2.mono HL.out.size), L9.out, L11.out, by have := L2.out; have := LB.out; omega, LT12.out, by have := LG5.out; omega, HE.out.e.past (Nat.le_refl _)⟩)
    clear q13 hq2 HL HE H9 H12 HVA
    obtain ⟨⟨l0, l1, l2, l3, l4, l5, l6, l7, l8⟩, _⟩ := nine_at H11.out
    obtain ⟨B13, hB⟩ : ∃ B, W5.heap.size = B := ⟨_, rfl⟩
    obtain ⟨W6, hW⟩ : ∃ Z, W5.alloc (.cells #[.int .i64 1, .string (numS lq), .string (denS lq), .string { data := #[] }, .bool false, .int .i64 0, .int .i64 0, .int .i64 0, .slice none 0 0] 30) = Z := ⟨_, rfl⟩
    rw [hW, hB] at HI
    have EW3 := Lib.hid hW
    have EB3 := Lib.hid hB
    clear hW hB
    go_upto_region 9 with fail
    rw [EW3.out, EB3.out]
    clear x0 x1 x2 x3 x4 x5 x6 x7 x8 l0 l1 l2 l3 l4 l5 l6 l7 l8 H11 L9 L11 L2 LB LTT LG5 LT12 EW EB EW2 EB2 EW3 EB3 L12a
    go_loopg [14, 15, 18, 54] n (fun gh v14 v15 v18 v54 wx => ∃ j : Nat, v54 = .int .i64 (j : Int) ∧ j ≤ n ∧ gh = n - j ∧ LwI w B9 B11 b12 B13 f lq n lg cap (itsL As Is Cs Ws n) (Vs j) wx)
    case atStart => exact ⟨0, rfl, Nat.zero_le _, rfl, HI.out⟩
    case round =>
      clear HI
      obtain ⟨j, rfl, hj, rfl, hi⟩ := hrel
      have HI := Lib.hid hi
      clear hi
      by_cases hlt : j < n
      · skip
        have hd : decide ((j : Int) < (n : Int)) = true := decide_eq_true (by omega)
        have hd2 : decide (j < n) = true := decide_eq_true hlt
        have hwj : IntKind.i64.wrap ((j : Int) + 1) = (j : Int) + 1 := IntWalk.i64_in _ (by omega)
        obtain ⟨a5, ha5⟩ : ∃ z, j * 5 = z := ⟨_, rfl⟩
        obtain ⟨b5, hab⟩ : ∃ z, a5 + 5 = z := ⟨_, rfl⟩
        have hbn : b5 ≤ n * 5 := by omega
        have hbc : b5 ≤ cap := by have := HCP.out; omega
        have e1 : (5 : Int) * (j : Int) = (a5 : Int) := by omega
        have hw1 : IntKind.i64.wrap ((5 : Int) * (j : Int)) = (a5 : Int) := by rw [e1]; exact IntWalk.i64_in _ (by omega)
        have hw2 : IntKind.i64.wrap ((a5 : Int) + 5) = (b5 : Int) := by rw [show (a5 : Int) + 5 = (b5 : Int) by omega]; exact IntWalk.i64_in _ (by omega)
        have TA := Lib.hid (QtA.out j hlt)
        have TB := Lib.hid (QtB.out j hlt)
        have TX := Lib.hid (QtX.out j hlt)
        have TY := Lib.hid (QtY.out j hlt)
        have TP := Lib.hid (QpP.out j hlt)
        have TW := Lib.hid (QtWi.out j hlt)
        have TN := Lib.hid (QtN.out (Is j) (.inr (.inr ⟨j, hlt, rfl⟩)))
        have HVN := Lib.hid (QhVn.out j hlt)
        have HRW := Lib.hid (show ∀ W, ValsAt W lg 0 (numVals (itsL As Is Cs Ws n)) → ValsAt W lg (a5 * 9) (numVals (rowL As Is Cs Ws j)) from by
          intro W h
          obtain ⟨C, hC⟩ := itsL_mid As Is Cs Ws n j hlt
          rw [hC] at h
          exact Fl.vals_mid h (by rw [itsL_len]; exact ha5))
        have HA1 := Lib.hid (QhA1.out j)
        unfold rowL at HRW
        obtain ⟨q0, hq0⟩ : ∃ z : Rat, (((j + 1 : Nat) : Int) : Rat) = z := ⟨_, rfl⟩
        obtain ⟨aj, haj⟩ : ∃ z, As j = z := ⟨_, rfl⟩
        obtain ⟨ij, hij⟩ : ∃ z, Is j = z := ⟨_, rfl⟩
        obtain ⟨cj, hcj⟩ : ∃ z, Cs j = z := ⟨_, rfl⟩
        obtain ⟨wj, hwj2⟩ : ∃ z, Ws j = z := ⟨_, rfl⟩
        obtain ⟨vj, hvj⟩ : ∃ z, Vs j = z := ⟨_, rfl⟩
        obtain ⟨mj, hmj⟩ : ∃ z, mC j = z := ⟨_, rfl⟩
        obtain ⟨xj, hxj⟩ : ∃ z, Ms j = z := ⟨_, rfl⟩
        rw [hq0] at TW HRW
        rw [haj] at TA HRW HA1
        rw [hij] at TA TY TN HRW
        rw [hcj] at TA TP HRW
        rw [hwj2] at TB HVN HRW
        rw [hvj] at TB TX HI
        rw [hmj] at TB TP
        rw [hxj] at TX TY
        unfold Fun1 at TW TN
        unfold Fun2 at TA TB TX TY
        clear hq0 haj hij hcj hwj2 hvj hmj hxj e1
        obtain ⟨⟨x0, x1, x2, x3, x4, x5, x6, x7, x8⟩, _⟩ := nine_at HI.out.h12
        go_upto_region 12 with fail
        rw [show b5 - a5 = 5 by omega]
        clear x0 x1 x2 x3 x4 x5 x6 x7 x8 hw1 hw2
        go_wp2_with fail
        have hok : okB 8 (PwKs12 cj mo mj lg a5 cap) = true := by kernel_rfl
        have hna := noAny_of (ks := (PwKs12 cj mo mj lg a5 cap)) (by kernel_rfl)
        have hla := lasts_of hna
        refine wp_region_facts_abs (row := none) (w := wr) 8 0 8 [] (PwKs12 cj mo mj lg a5 cap) [some 65, some 66, some 67, some 68, some 69, some 70, some 16, none] [(15, .slice (some ⟨lg, a5 * 9, none⟩) 5 (cap - a5))] 158 (by kernel_rfl) (by kernel_rfl) (by kernel_rfl) rfl rfl (by decide) rfl (by kernel_rfl) rfl (Nat.le_of_eq rfl) rfl ?ho [u65, u66, u67, u68, u69, u70, u16, undef] ?h00 (Fs.start rfl rfl) ?hs ?hd
        case ho =>
          intro k x hk
          match k, hk with
          | 0, hk => have hk := Option.some.inj hk; subst hk; rfl
          | _ + 1, hk => exact absurd hk (by simp)
        case h00 => simp only [putO, layL]
        case hs =>
          rintro A listed vs Wr hF hR i hi hun hpre
          obtain ⟨s0, s1, s2, s3, s4, s5, s6, s7, hvs⟩ := exl_of 8 vs (fun l => vs = l) hF.len rfl
          subst hvs
          have hge := Nat.zero_le i
          rcases Nat.lt_or_ge i 4 with hi | hge
          · rcases Nat.lt_or_ge i 2 with hi | hge
            · rcases Nat.lt_or_ge i 1 with hi | hge
              · obtain rfl := eqi hi hge
                have ro15 : A.tmps[15]? = some (.slice (some ⟨lg, a5 * 9, none⟩) 5 (cap - a5)) := hR.out 0 _ rfl
                refine step_of ⟨some 65, _, _, _, _, _⟩ rfl (fun K' hK => ?_)
                go_simp
                exact hK.out _ _ ⟨_, hF.pure hok hla hpre rfl (Below.refl _ _), rfl⟩
              obtain rfl := eqi hi hge
              have p0 := hpre 0 (by kernel_rfl)
              have e0 : s0 = .slice (some ⟨lg, a5 * 9, none⟩) 5 (cap - a5) := hF.get 0 _ rfl (.inr p0)
              subst e0
              have r0 : A.tmps[65]? = some (.slice (some ⟨lg, a5 * 9, none⟩) 5 (cap - a5)) := hR.own 0 _ _ rfl rfl
              refine step_of ⟨some 66, _, _, _, _, _⟩ rfl (fun K' hK => ?_)
              go_simp
              exact hK.out _ _ ⟨_, hF.pure hok hla hpre rfl (Below.refl _ _), rfl⟩
            rcases Nat.lt_or_ge i 3 with hi | hge
            · obtain rfl := eqi hi hge
              have p1 := hpre 1 (by kernel_rfl)
              have e1 : s1 = .pointer (some ⟨lg, a5 * 9 + 27, none⟩) := hF.get 1 _ rfl (.inr p1)
              subst e1
              have r1 : A.tmps[66]? = some (.pointer (some ⟨lg, a5 * 9 + 27, none⟩)) := hR.own 1 _ _ rfl rfl
              obtain ⟨j0, j1, j2, j3, j4, j5, j6, j7, j8⟩ := Off.item_at (HRW.out _ (HI.out.step (below_none hF.low)).val) 3 (by simp) cj rfl
              simp only [Nat.reduceMul, Nat.add_assoc, Nat.reduceAdd, Nat.add_zero] at j0 j1 j2 j3 j4 j5 j6 j7 j8
              refine step_of ⟨some 67, _, _, _, _, _⟩ rfl (fun K' hK => ?_)
              go_simp
              exact hK.out _ _ ⟨_, hF.pure hok hla hpre rfl (Below.refl _ _), rfl⟩
            obtain rfl := eqi hi hge
            refine step_of ⟨some 68, _, _, _, _, _⟩ rfl (fun K' hK => ?_)
            go_simp
            go_at_call 9
            (with_reducible refine (QtWm.out _ (HI.out.step (below_none hF.low)).env).mono ?_)
            rintro e Wq ⟨rfl, hq⟩
            exact hK.out _ _ ⟨_, hF.pure hok hla hpre rfl hq, rfl⟩
          rcases Nat.lt_or_ge i 6 with hi | hge
          · rcases Nat.lt_or_ge i 5 with hi | hge
            · obtain rfl := eqi hi hge
              have p2 := hpre 2 (by kernel_rfl)
              have e2 : s2 = .agg #[.int .i64 1, .string (numS cj), .string (denS cj), .string { data := #[] }, .bool false, .int .i64 0, .int .i64 0, .int .i64 0, .slice none 0 0] := hF.get 2 _ rfl (.inr p2)
              subst e2
              have r2 : A.tmps[67]? = some (.agg #[.int .i64 1, .string (numS cj), .string (denS cj), .string { data := #[] }, .bool false, .int .i64 0, .int .i64 0, .int .i64 0, .slice none 0 0]) := hR.own 2 _ _ rfl rfl
              have p3 := hpre 3 (by kernel_rfl)
              have e3 : s3 = .agg #[.int .i64 1, .string (numS mo), .string (denS mo), .string { data := #[] }, .bool false, .int .i64 0, .int .i64 0, .int .i64 0, .slice none 0 0] := hF.get 3 _ rfl (.inr p3)
              subst e3
              have r3 : A.tmps[68]? = some (.agg #[.int .i64 1, .string (numS mo), .string (denS mo), .string { data := #[] }, .bool false, .int .i64 0, .int .i64 0, .int .i64 0, .slice none 0 0]) := hR.own 3 _ _ rfl rfl
              refine step_of ⟨some 69, _, _, _, _, _⟩ rfl (fun K' hK => ?_)
              go_simp
              exact hK.out _ _ ⟨_, hF.row hok hla hpre rfl, rfl⟩
            obtain rfl := eqi hi hge
            have p4 := hpre 4 (by kernel_rfl)
            obtain ⟨G4, eG4, _, hGB4⟩ : ∃ G, s4 = .slice (some ⟨G, 0, none⟩) 2 2 ∧ _ ≤ G ∧ Wr.heap[G]? = some (.cells #[.int .i64 1, .string (numS cj), .string (denS cj), .string { data := #[] }, .bool false, .int .i64 0, .int .i64 0, .int .i64 0, .slice none 0 0, .int .i64 1, .string (numS mo), .string (denS mo), .string { data := #[] }, .bool false, .int .i64 0, .int .i64 0, .int .i64 0, .slice none 0 0] 30 (0, 0)) := hF.get 4 _ rfl (.inr p4)
            subst eG4
            have r4 : A.tmps[69]? = some (.slice (some ⟨G4, 0, none⟩) 2 2) := hR.own 4 _ _ rfl rfl
            refine step_of ⟨some 70, _, _, _, _, _⟩ rfl (fun K' hK => ?_)
            go_simp
            go_at_call 10
            (with_reducible refine (PrC.on TP.out _ G4 hGB4 (HI.out.step (below_none hF.low)).env).mono ?_)
            rintro e Wq ⟨rfl, hq⟩
            exact hK.out _ _ ⟨_, hF.pure hok hla hpre rfl hq, rfl⟩
          rcases Nat.lt_or_ge i 7 with hi | hge
          · obtain rfl := eqi hi hge
            refine step_of ⟨some 16, _, _, _, _, _⟩ rfl (fun K' hK => ?_)
            go_simp
            exact hK.out _ _ ⟨_, hF.box hok hla hpre hun rfl, rfl⟩
          obtain rfl := eqi hi hge
          have p6 := hpre 6 (by kernel_rfl)
          obtain ⟨G, eG, _, hGl, hGB⟩ : ∃ G, s6 = .pointer (some ⟨G, 0, none⟩) ∧ (∀ k, none = some k → G = k) ∧ wr.heap.size ≤ G ∧ Wr.heap[G]? = some (.cells (if listed.getD 7 false = true then #[.int .i64 1, .string (numS mj), .string (denS mj), .string { data := #[] }, .bool false, .int .i64 0, .int .i64 0, .int .i64 0, .slice none 0 0] else #[.int .i64 0, .string { data := #[] }, .string { data := #[] }, .string { data := #[] }, .bool false, .int .i64 0, .int .i64 0, .int .i64 0, .slice none 0 0]) 30 (0, 0)) := hF.get 6 _ rfl (.inr p6)
          subst eG
          rw [if_neg (bit_off hun)] at hGB
          have HGB := Lib.hid hGB
          clear hGB
          have r6 : A.tmps[16]? = some (.pointer (some ⟨G, 0, none⟩)) := hR.own 6 _ _ rfl rfl
          have p5 := hpre 5 (by kernel_rfl)
          have e5 : s5 = .agg #[.int .i64 1, .string (numS mj), .string (denS mj), .string { data := #[] }, .bool false, .int .i64 0, .int .i64 0, .int .i64 0, .slice none 0 0] := hF.get 5 _ rfl (.inr p5)
          subst e5
          have r5 : A.tmps[70]? = some (.agg #[.int .i64 1, .string (numS mj), .string (denS mj), .string { data := #[] }, .bool false, .int .i64 0, .int .i64 0, .int .i64 0, .slice none 0 0]) := hR.own 5 _ _ rfl rfl
          obtain ⟨⟨y0, y1, y2, y3, y4, y5, y6, y7, y8⟩, g0, g1, g2, g3, g4, g5, g6, g7, g8⟩ := nine_at HGB.out
          refine step_of ⟨none, _, _, _, _, _⟩ rfl (fun K' hK => ?_)
          go_simp
          exact hK.out _ _ ⟨undef, hF.put hok hna hpre hun rfl undef rfl (.inr p6) rfl (set9_at HGB.out (.int .i64 1) (.string (numS mj)) (.string (denS mj)) (.string { data := #[] }) (.bool false) (.int .i64 0) (.int .i64 0) (.int .i64 0) (.slice none 0 0)) (fun k hk => set9_other _ _ (.int .i64 1) (.string (numS mj)) (.string (denS mj)) (.string { data := #[] }) (.bool false) (.int .i64 0) (.int .i64 0) (.int .i64 0) (.slice none 0 0) hk) (put9_below hGl _ (.int .i64 1) (.string (numS mj)) (.string (denS mj)) (.string { data := #[] }) (.bool false) (.int .i64 0) (.int .i64 0) (.int .i64 0) (.slice none 0 0)), rfl⟩
        case hd =>
          rintro listed vs W12 hF hall
          obtain ⟨s0, s1, s2, s3, s4, s5, s6, s7, hvs⟩ := exl_of 8 vs (fun l => vs = l) hF.len rfl
          subst hvs
          obtain ⟨b16, e6, _, gq, k6⟩ : ∃ G, s6 = .pointer (some ⟨G, 0, none⟩) ∧ (∀ k, none = some k → G = k) ∧ _ ≤ G ∧ W12.heap[G]? = some (.cells (if listed.getD 7 false = true then #[.int .i64 1, .string (numS mj), .string (denS mj), .string { data := #[] }, .bool false, .int .i64 0, .int .i64 0, .int .i64 0, .slice none 0 0] else #[.int .i64 0, .string { data := #[] }, .string { data := #[] }, .string { data := #[] }, .bool false, .int .i64 0, .int .i64 0, .int .i64 0, .slice none 0 0]) 30 (0, 0)) := hF.get 6 _ rfl (.inr (hall 6 (by decide)))
          subst e6
          rw [if_pos (hall 7 (by decide))] at k6
          have H16 := Lib.hid k6
          clear k6
          have ge16 := Lib.hid gq
          clear gq
          have hq := below_none hF.low
          replace HI := Lib.hid (HI.out.step hq)
          clear hq
          clear hF hall hok hla hna
          refine rest_end ?_
          simp only [putO, layL]
          have H12 := Lib.hid HI.out.h12
          have H13 := Lib.hid HI.out.h13
          have H9 := Lib.hid HI.out.h9
          go_wp2_with fail
          by_cases hjn : j + 1 < n
          · skip
            have hdn : decide ((j : Int) + 1 < (n : Int)) = true := decide_eq_true (by omega)
            have HA2 := Lib.hid (HA1.out hjn)
            have HR0 := Lib.hid (show ∀ W, ValsAt W lg 0 (numVals (itsL As Is Cs Ws n)) → ValsAt W lg 0 (numVals [(((0 + 1 : Nat) : Int) : Rat), aj, Is 0, Cs 0, Ws 0]) from by
              intro W h
              obtain ⟨C, hC⟩ := itsL_mid As Is Cs Ws n 0 (by omega)
              rw [hC] at h
              have h2 := Fl.vals_mid h (m := 0) (by simp [itsL_len])
              rw [Nat.zero_mul] at h2
              rw [HA2.out]
              exact h2)
            go_wp2_with fail
            have hok : okB 49 (PwKs13 q0 aj ij cj wj vj mj n lg cap a5 j B9 b12 B13 b16) = true := by kernel_rfl
            have hna := noAny_of (ks := (PwKs13 q0 aj ij cj wj vj mj n lg cap a5 j B9 b12 B13 b16)) (by kernel_rfl)
            have hla := lasts_of hna
            refine wp_region_facts_abs (row := none) (w := W12) 49 0 49 [] (PwKs13 q0 aj ij cj wj vj mj n lg cap a5 j B9 b12 B13 b16) [some 71, some 72, some 73, some 74, some 75, some 76, some 77, some 78, some 79, some 80, some 81, some 82, some 83, some 84, some 85, some 86, some 87, some 88, some 89, some 90, some 91, some 92, some 93, some 94, some 95, some 96, some 97, some 98, some 99, some 100, some 101, some 102, some 103, some 104, some 105, some 106, some 107, some 108, some 109, some 110, some 111, some 112, some 113, some 114, some 115, some 116, some 117, some 118, some 119] [(15, .slice (some ⟨lg, a5 * 9, none⟩) 5 (cap - a5)), (14, .int .i64 (j : Int)), (13, .pointer (some ⟨B13, 0, none⟩)), (16, .pointer (some ⟨b16, 0, none⟩)), (2, .int .i64 (n : Int)), (12, .pointer (some ⟨b12, 0, none⟩))] 158 (by kernel_rfl) (by kernel_rfl) (by kernel_rfl) rfl rfl (by decide) rfl (by kernel_rfl) rfl (Nat.le_of_eq rfl) rfl ?ho [u71, u72, u73, u74, u75, u76, u77, u78, u79, u80, u81, u82, u83, u84, u85, u86, u87, u88, u89, u90, u91, u92, u93, u94, u95, u96, u97, u98, u99, u100, u101, u102, u103, u104, u105, u106, u107, u108, u109, u110, u111, u112, u113, u114, u115, u116, u117, u118, u119] ?h00 (Fs.start rfl rfl) ?hs ?hd
            case ho =>
              intro k x hk
              match k, hk with
              | 0, hk => have hk := Option.some.inj hk; subst hk; rfl
              | 1, hk => have hk := Option.some.inj hk; subst hk; rfl
              | 2, hk => have hk := Option.some.inj hk; subst hk; rfl
              | 3, hk => have hk := Option.some.inj hk; subst hk; rfl
              | 4, hk => have hk := Option.some.inj hk; subst hk; rfl
              | 5, hk => have hk := Option.some.inj hk; subst hk; rfl
              | _ + 6, hk => exact absurd hk (by simp)
            case h00 => simp only [putO, layL]
            case hs =>
              rintro A listed vs Wr hF hR i hi hun hpre
              obtain ⟨s0, s1, s2, s3, s4, s5, s6, s7, s8, s9, s10, s11, s12, s13, s14, s15, s16, s17, s18, s19, s20, s21, s22, s23, s24, s25, s26, s27, s28, s29, s30, s31, s32, s33, s34, s35, s36, s37, s38, s39, s40, s41, s42, s43, s44, s45, s46, s47, s48, hvs⟩ := exl_of 49 vs (fun l => vs = l) hF.len rfl
              subst hvs
              have hge := Nat.zero_le i
              rcases Nat.lt_or_ge i 24 with hi | hge
              · rcases Nat.lt_or_ge i 12 with hi | hge
                · rcases Nat.lt_or_ge i 6 with hi | hge
                  · rcases Nat.lt_or_ge i 3 with hi | hge
                    · rcases Nat.lt_or_ge i 1 with hi | hge
                      · obtain rfl := eqi hi hge
                        have ro15 : A.tmps[15]? = some (.slice (some ⟨lg, a5 * 9, none⟩) 5 (cap - a5)) := hR.out 0 _ rfl
                        refine step_of ⟨some 71, _, _, _, _, _⟩ rfl (fun K' hK => ?_)
                        go_simp
                        exact hK.out _ _ ⟨_, hF.pure hok hla hpre rfl (Below.refl _ _), rfl⟩
                      rcases Nat.lt_or_ge i 2 with hi | hge
                      · obtain rfl := eqi hi hge
                        have p0 := hpre 0 (by kernel_rfl)
                        have e0 : s0 = .slice (some ⟨lg, a5 * 9, none⟩) 5 (cap - a5) := hF.get 0 _ rfl (.inr p0)
                        subst e0
                        have r0 : A.tmps[71]? = some (.slice (some ⟨lg, a5 * 9, none⟩) 5 (cap - a5)) := hR.own 0 _ _ rfl rfl
                        refine step_of ⟨some 72, _, _, _, _, _⟩ rfl (fun K' hK => ?_)
                        go_simp
                        exact hK.out _ _ ⟨_, hF.pure hok hla hpre rfl (Below.refl _ _), rfl⟩
                      obtain rfl := eqi hi hge
                      have p1 := hpre 1 (by kernel_rfl)
                      have e1 : s1 = .pointer (some ⟨lg, a5 * 9, none⟩) := hF.get 1 _ rfl (.inr p1)
                      subst e1
                      have r1 : A.tmps[72]? = some (.pointer (some ⟨lg, a5 * 9, none⟩)) := hR.own 1 _ _ rfl rfl
                      obtain ⟨j0, j1, j2, j3, j4, j5, j6, j7, j8⟩ := Off.item_at (HRW.out _ (HI.out.step (below_none hF.low)).val) 0 (by simp) q0 rfl
                      simp only [Nat.reduceMul, Nat.add_assoc, Nat.reduceAdd, Nat.add_zero] at j0 j1 j2 j3 j4 j5 j6 j7 j8
                      refine step_of ⟨some 73, _, _, _, _, _⟩ rfl (fun K' hK => ?_)
                      go_simp
                      exact hK.out _ _ ⟨_, hF.pure hok hla hpre rfl (Below.refl _ _), rfl⟩
                    rcases Nat.lt_or_ge i 4 with hi | hge
                    · obtain rfl := eqi hi hge
                      have ro14 : A.tmps[14]? = some (.int .i64 (j : Int)) := hR.out 1 _ rfl
                      refine step_of ⟨some 74, _, _, _, _, _⟩ rfl (fun K' hK => ?_)
                      go_simp
                      exact hK.out _ _ ⟨_, hF.pure hok hla hpre rfl (Below.refl _ _), rfl⟩
                    rcases Nat.lt_or_ge i 5 with hi | hge
                    · obtain rfl := eqi hi hge
                      have p3 := hpre 3 (by kernel_rfl)
                      have e3 : s3 = .int .i64 (j : Int) := hF.get 3 _ rfl (.inr p3)
                      subst e3
                      have r3 : A.tmps[74]? = some (.int .i64 (j : Int)) := hR.own 3 _ _ rfl rfl
                      refine step_of ⟨some 75, _, _, _, _, _⟩ rfl (fun K' hK => ?_)
                      go_simp
                      exact hK.out _ _ ⟨_, hF.pure hok hla hpre rfl (Below.refl _ _), rfl⟩
                    obtain rfl := eqi hi hge
                    have p4 := hpre 4 (by kernel_rfl)
                    have e4 : s4 = .int .i64 ((j : Int) + 1) := hF.get 4 _ rfl (.inr p4)
                    subst e4
                    have r4 : A.tmps[75]? = some (.int .i64 ((j : Int) + 1)) := hR.own 4 _ _ rfl rfl
                    refine step_of ⟨some 76, _, _, _, _, _⟩ rfl (fun K' hK => ?_)
                    go_simp
                    go_at_call 9
                    (with_reducible refine (TW.out _ (HI.out.step (below_none hF.low)).env).mono ?_)
                    rintro e Wq ⟨rfl, hq⟩
                    exact hK.out _ _ ⟨_, hF.pure hok hla hpre rfl hq, rfl⟩
                  rcases Nat.lt_or_ge i 9 with hi | hge
                  · rcases Nat.lt_or_ge i 7 with hi | hge
                    · obtain rfl := eqi hi hge
                      have p2 := hpre 2 (by kernel_rfl)
                      have e2 : s2 = .agg #[.int .i64 1, .string (numS q0), .string (denS q0), .string { data := #[] }, .bool false, .int .i64 0, .int .i64 0, .int .i64 0, .slice none 0 0] := hF.get 2 _ rfl (.inr p2)
                      subst e2
                      have r2 : A.tmps[73]? = some (.agg #[.int .i64 1, .string (numS q0), .string (denS q0), .string { data := #[] }, .bool false, .int .i64 0, .int .i64 0, .int .i64 0, .slice none 0 0]) := hR.own 2 _ _ rfl rfl
                      have p5 := hpre 5 (by kernel_rfl)
                      have e5 : s5 = .agg #[.int .i64 1, .string (numS q0), .string (denS q0), .string { data := #[] }, .bool false, .int .i64 0, .int .i64 0, .int .i64 0, .slice none 0 0] := hF.get 5 _ rfl (.inr p5)
                      subst e5
                      have r5 : A.tmps[76]? = some (.agg #[.int .i64 1, .string (numS q0), .string (denS q0), .string { data := #[] }, .bool false, .int .i64 0, .int .i64 0, .int .i64 0, .slice none 0 0]) := hR.own 5 _ _ rfl rfl
                      refine step_of ⟨some 77, _, _, _, _, _⟩ rfl (fun K' hK => ?_)
                      go_simp
                      go_at_call 11
                      (with_reducible refine (same_one q0 _).mono ?_)
                      rintro e Wq ⟨rfl, hq⟩
                      exact hK.out _ _ ⟨_, hF.pure hok hla hpre rfl hq, rfl⟩
                    rcases Nat.lt_or_ge i 8 with hi | hge
                    · obtain rfl := eqi hi hge
                      have p6 := hpre 6 (by kernel_rfl)
                      have e6 : s6 = .bool true := hF.get 6 _ rfl (.inr p6)
                      subst e6
                      have r6 : A.tmps[77]? = some (.bool true) := hR.own 6 _ _ rfl rfl
                      refine step_of ⟨some 78, _, _, _, _, _⟩ rfl (fun K' hK => ?_)
                      go_simp
                      exact hK.out _ _ ⟨_, hF.pure hok hla hpre rfl (Below.refl _ _), rfl⟩
                    obtain rfl := eqi hi hge
                    have p7 := hpre 7 (by kernel_rfl)
                    have e7 : s7 = .bool false := hF.get 7 _ rfl (.inr p7)
                    subst e7
                    have r7 : A.tmps[78]? = some (.bool false) := hR.own 7 _ _ rfl rfl
                    refine step_of ⟨some 79, _, _, _, _, _⟩ rfl (fun K' hK => ?_)
                    go_simp
                    exact hK.out _ _ ⟨_, hF.pure hok hla hpre rfl (Below.refl _ _), rfl⟩
                  rcases Nat.lt_or_ge i 10 with hi | hge
                  · obtain rfl := eqi hi hge
                    have p8 := hpre 8 (by kernel_rfl)
                    have e8 : s8 = .bool false := hF.get 8 _ rfl (.inr p8)
                    subst e8
                    have r8 : A.tmps[79]? = some (.bool false) := hR.own 8 _ _ rfl rfl
                    have ro15 : A.tmps[15]? = some (.slice (some ⟨lg, a5 * 9, none⟩) 5 (cap - a5)) := hR.out 0 _ rfl
                    refine step_of ⟨some 80, _, _, _, _, _⟩ rfl (fun K' hK => ?_)
                    rw [if_pos (by simp [Region.wanted, yielded, r8])]
                    go_simp
                    exact hK.out _ _ ⟨_, hF.pure hok hla hpre rfl (Below.refl _ _), rfl⟩
                  rcases Nat.lt_or_ge i 11 with hi | hge
                  · obtain rfl := eqi hi hge
                    have p9 := hpre 9 (by kernel_rfl)
                    have e9 : s9 = .slice (some ⟨lg, a5 * 9, none⟩) 5 (cap - a5) := hF.get 9 _ rfl (.inr p9)
                    subst e9
                    have r9 : A.tmps[80]? = some (.slice (some ⟨lg, a5 * 9, none⟩) 5 (cap - a5)) := hR.own 9 _ _ rfl rfl
                    have p8 := hpre 8 (by kernel_rfl)
                    have e8 : s8 = .bool false := hF.get 8 _ rfl (.inr p8)
                    subst e8
                    have r8 : A.tmps[79]? = some (.bool false) := hR.own 8 _ _ rfl rfl
                    refine step_of ⟨some 81, _, _, _, _, _⟩ rfl (fun K' hK => ?_)
                    rw [if_pos (by simp [Region.wanted, yielded, r8])]
                    go_simp
                    exact hK.out _ _ ⟨_, hF.pure hok hla hpre rfl (Below.refl _ _), rfl⟩
                  obtain rfl := eqi hi hge
                  have p10 := hpre 10 (by kernel_rfl)
                  have e10 : s10 = .pointer (some ⟨lg, a5 * 9 + 18, none⟩) := hF.get 10 _ rfl (.inr p10)
                  subst e10
                  have r10 : A.tmps[81]? = some (.pointer (some ⟨lg, a5 * 9 + 18, none⟩)) := hR.own 10 _ _ rfl rfl
                  have p8 := hpre 8 (by kernel_rfl)
                  have e8 : s8 = .bool false := hF.get 8 _ rfl (.inr p8)
                  subst e8
                  have r8 : A.tmps[79]? = some (.bool false) := hR.own 8 _ _ rfl rfl
                  obtain ⟨j0, j1, j2, j3, j4, j5, j6, j7, j8⟩ := Off.item_at (HRW.out _ (HI.out.step (below_none hF.low)).val) 2 (by simp) ij rfl
                  simp only [Nat.reduceMul, Nat.add_assoc, Nat.reduceAdd, Nat.add_zero] at j0 j1 j2 j3 j4 j5 j6 j7 j8
                  refine step_of ⟨some 82, _, _, _, _, _⟩ rfl (fun K' hK => ?_)
                  rw [if_pos (by simp [Region.wanted, yielded, r8])]
                  go_simp
                  exact hK.out _ _ ⟨_, hF.pure hok hla hpre rfl (Below.refl _ _), rfl⟩
                rcases Nat.lt_or_ge i 18 with hi | hge
                · rcases Nat.lt_or_ge i 15 with hi | hge
                  · rcases Nat.lt_or_ge i 13 with hi | hge
                    · obtain rfl := eqi hi hge
                      have p8 := hpre 8 (by kernel_rfl)
                      have e8 : s8 = .bool false := hF.get 8 _ rfl (.inr p8)
                      subst e8
                      have r8 : A.tmps[79]? = some (.bool false) := hR.own 8 _ _ rfl rfl
                      have ro15 : A.tmps[15]? = some (.slice (some ⟨lg, a5 * 9, none⟩) 5 (cap - a5)) := hR.out 0 _ rfl
                      refine step_of ⟨some 83, _, _, _, _, _⟩ rfl (fun K' hK => ?_)
                      rw [if_pos (by simp [Region.wanted, yielded, r8])]
                      go_simp
                      exact hK.out _ _ ⟨_, hF.pure hok hla hpre rfl (Below.refl _ _), rfl⟩
                    rcases Nat.lt_or_ge i 14 with hi | hge
                    · obtain rfl := eqi hi hge
                      have p12 := hpre 12 (by kernel_rfl)
                      have e12 : s12 = .slice (some ⟨lg, a5 * 9, none⟩) 5 (cap - a5) := hF.get 12 _ rfl (.inr p12)
                      subst e12
                      have r12 : A.tmps[83]? = some (.slice (some ⟨lg, a5 * 9, none⟩) 5 (cap - a5)) := hR.own 12 _ _ rfl rfl
                      have p8 := hpre 8 (by kernel_rfl)
                      have e8 : s8 = .bool false := hF.get 8 _ rfl (.inr p8)
                      subst e8
                      have r8 : A.tmps[79]? = some (.bool false) := hR.own 8 _ _ rfl rfl
                      refine step_of ⟨some 84, _, _, _, _, _⟩ rfl (fun K' hK => ?_)
                      rw [if_pos (by simp [Region.wanted, yielded, r8])]
                      go_simp
                      exact hK.out _ _ ⟨_, hF.pure hok hla hpre rfl (Below.refl _ _), rfl⟩
                    obtain rfl := eqi hi hge
                    have p13 := hpre 13 (by kernel_rfl)
                    have e13 : s13 = .pointer (some ⟨lg, a5 * 9 + 27, none⟩) := hF.get 13 _ rfl (.inr p13)
                    subst e13
                    have r13 : A.tmps[84]? = some (.pointer (some ⟨lg, a5 * 9 + 27, none⟩)) := hR.own 13 _ _ rfl rfl
                    have p8 := hpre 8 (by kernel_rfl)
                    have e8 : s8 = .bool false := hF.get 8 _ rfl (.inr p8)
                    subst e8
                    have r8 : A.tmps[79]? = some (.bool false) := hR.own 8 _ _ rfl rfl
                    obtain ⟨j0, j1, j2, j3, j4, j5, j6, j7, j8⟩ := Off.item_at (HRW.out _ (HI.out.step (below_none hF.low)).val) 3 (by simp) cj rfl
                    simp only [Nat.reduceMul, Nat.add_assoc, Nat.reduceAdd, Nat.add_zero] at j0 j1 j2 j3 j4 j5 j6 j7 j8
                    refine step_of ⟨some 85, _, _, _, _, _⟩ rfl (fun K' hK => ?_)
                    rw [if_pos (by simp [Region.wanted, yielded, r8])]
                    go_simp
                    exact hK.out _ _ ⟨_, hF.pure hok hla hpre rfl (Below.refl _ _), rfl⟩
                  rcases Nat.lt_or_ge i 16 with hi | hge
                  · obtain rfl := eqi hi hge
                    have p11 := hpre 11 (by kernel_rfl)
                    have e11 : s11 = .agg #[.int .i64 1, .string (numS ij), .string (denS ij), .string { data := #[] }, .bool false, .int .i64 0, .int .i64 0, .int .i64 0, .slice none 0 0] := hF.get 11 _ rfl (.inr p11)
                    subst e11
                    have r11 : A.tmps[82]? = some (.agg #[.int .i64 1, .string (numS ij), .string (denS ij), .string { data := #[] }, .bool false, .int .i64 0, .int .i64 0, .int .i64 0, .slice none 0 0]) := hR.own 11 _ _ rfl rfl
                    have p14 := hpre 14 (by kernel_rfl)
                    have e14 : s14 = .agg #[.int .i64 1, .string (numS cj), .string (denS cj), .string { data := #[] }, .bool false, .int .i64 0, .int .i64 0, .int .i64 0, .slice none 0 0] := hF.get 14 _ rfl (.inr p14)
                    subst e14
                    have r14 : A.tmps[85]? = some (.agg #[.int .i64 1, .string (numS cj), .string (denS cj), .string { data := #[] }, .bool false, .int .i64 0, .int .i64 0, .int .i64 0, .slice none 0 0]) := hR.own 14 _ _ rfl rfl
                    have p8 := hpre 8 (by kernel_rfl)
                    have e8 : s8 = .bool false := hF.get 8 _ rfl (.inr p8)
                    subst e8
                    have r8 : A.tmps[79]? = some (.bool false) := hR.own 8 _ _ rfl rfl
                    refine step_of ⟨some 86, _, _, _, _, _⟩ rfl (fun K' hK => ?_)
                    rw [if_pos (by simp [Region.wanted, yielded, r8])]
                    go_simp
                    go_at_call 12
                    (with_reducible refine (TA.out _ (HI.out.step (below_none hF.low)).env).mono ?_)
                    rintro e Wq ⟨rfl, hq⟩
                    exact hK.out _ _ ⟨_, hF.pure hok hla hpre rfl hq, rfl⟩
                  rcases Nat.lt_or_ge i 17 with hi | hge
                  · obtain rfl := eqi hi hge
                    have p8 := hpre 8 (by kernel_rfl)
                    have e8 : s8 = .bool false := hF.get 8 _ rfl (.inr p8)
                    subst e8
                    have r8 : A.tmps[79]? = some (.bool false) := hR.own 8 _ _ rfl rfl
                    have ro15 : A.tmps[15]? = some (.slice (some ⟨lg, a5 * 9, none⟩) 5 (cap - a5)) := hR.out 0 _ rfl
                    refine step_of ⟨some 87, _, _, _, _, _⟩ rfl (fun K' hK => ?_)
                    rw [if_pos (by simp [Region.wanted, yielded, r8])]
                    go_simp
                    exact hK.out _ _ ⟨_, hF.pure hok hla hpre rfl (Below.refl _ _), rfl⟩
                  obtain rfl := eqi hi hge
                  have p16 := hpre 16 (by kernel_rfl)
                  have e16 : s16 = .slice (some ⟨lg, a5 * 9, none⟩) 5 (cap - a5) := hF.get 16 _ rfl (.inr p16)
                  subst e16
                  have r16 : A.tmps[87]? = some (.slice (some ⟨lg, a5 * 9, none⟩) 5 (cap - a5)) := hR.own 16 _ _ rfl rfl
                  have p8 := hpre 8 (by kernel_rfl)
                  have e8 : s8 = .bool false := hF.get 8 _ rfl (.inr p8)
                  subst e8
                  have r8 : A.tmps[79]? = some (.bool false) := hR.own 8 _ _ rfl rfl
                  refine step_of ⟨some 88, _, _, _, _, _⟩ rfl (fun K' hK => ?_)
                  rw [if_pos (by simp [Region.wanted, yielded, r8])]
                  go_simp
                  exact hK.out _ _ ⟨_, hF.pure hok hla hpre rfl (Below.refl _ _), rfl⟩
                rcases Nat.lt_or_ge i 21 with hi | hge
                · rcases Nat.lt_or_ge i 19 with hi | hge
                  · obtain rfl := eqi hi hge
                    have p17 := hpre 17 (by kernel_rfl)
                    have e17 : s17 = .pointer (some ⟨lg, a5 * 9 + 9, none⟩) := hF.get 17 _ rfl (.inr p17)
                    subst e17
                    have r17 : A.tmps[88]? = some (.pointer (some ⟨lg, a5 * 9 + 9, none⟩)) := hR.own 17 _ _ rfl rfl
                    have p8 := hpre 8 (by kernel_rfl)
                    have e8 : s8 = .bool false := hF.get 8 _ rfl (.inr p8)
                    subst e8
                    have r8 : A.tmps[79]? = some (.bool false) := hR.own 8 _ _ rfl rfl
                    obtain ⟨j0, j1, j2, j3, j4, j5, j6, j7, j8⟩ := Off.item_at (HRW.out _ (HI.out.step (below_none hF.low)).val) 1 (by simp) aj rfl
                    simp only [Nat.reduceMul, Nat.add_assoc, Nat.reduceAdd, Nat.add_zero] at j0 j1 j2 j3 j4 j5 j6 j7 j8
                    refine step_of ⟨some 89, _, _, _, _, _⟩ rfl (fun K' hK => ?_)
                    rw [if_pos (by simp [Region.wanted, yielded, r8])]
                    go_simp
                    exact hK.out _ _ ⟨_, hF.pure hok hla hpre rfl (Below.refl _ _), rfl⟩
                  rcases Nat.lt_or_ge i 20 with hi | hge
                  · obtain rfl := eqi hi hge
                    have p15 := hpre 15 (by kernel_rfl)
                    have e15 : s15 = .agg #[.int .i64 1, .string (numS aj), .string (denS aj), .string { data := #[] }, .bool false, .int .i64 0, .int .i64 0, .int .i64 0, .slice none 0 0] := hF.get 15 _ rfl (.inr p15)
                    subst e15
                    have r15 : A.tmps[86]? = some (.agg #[.int .i64 1, .string (numS aj), .string (denS aj), .string { data := #[] }, .bool false, .int .i64 0, .int .i64 0, .int .i64 0, .slice none 0 0]) := hR.own 15 _ _ rfl rfl
                    have p18 := hpre 18 (by kernel_rfl)
                    have e18 : s18 = .agg #[.int .i64 1, .string (numS aj), .string (denS aj), .string { data := #[] }, .bool false, .int .i64 0, .int .i64 0, .int .i64 0, .slice none 0 0] := hF.get 18 _ rfl (.inr p18)
                    subst e18
                    have r18 : A.tmps[89]? = some (.agg #[.int .i64 1, .string (numS aj), .string (denS aj), .string { data := #[] }, .bool false, .int .i64 0, .int .i64 0, .int .i64 0, .slice none 0 0]) := hR.own 18 _ _ rfl rfl
                    have p8 := hpre 8 (by kernel_rfl)
                    have e8 : s8 = .bool false := hF.get 8 _ rfl (.inr p8)
                    subst e8
                    have r8 : A.tmps[79]? = some (.bool false) := hR.own 8 _ _ rfl rfl
                    refine step_of ⟨some 90, _, _, _, _, _⟩ rfl (fun K' hK => ?_)
                    rw [if_pos (by simp [Region.wanted, yielded, r8])]
                    go_simp
                    go_at_call 11
                    (with_reducible refine (same_one aj _).mono ?_)
                    rintro e Wq ⟨rfl, hq⟩
                    exact hK.out _ _ ⟨_, hF.pure hok hla hpre rfl hq, rfl⟩
                  obtain rfl := eqi hi hge
                  have p19 := hpre 19 (by kernel_rfl)
                  have e19 : s19 = .bool true := hF.get 19 _ rfl (.inr p19)
                  subst e19
                  have r19 : A.tmps[90]? = some (.bool true) := hR.own 19 _ _ rfl rfl
                  have p8 := hpre 8 (by kernel_rfl)
                  have e8 : s8 = .bool false := hF.get 8 _ rfl (.inr p8)
                  subst e8
                  have r8 : A.tmps[79]? = some (.bool false) := hR.own 8 _ _ rfl rfl
                  refine step_of ⟨some 91, _, _, _, _, _⟩ rfl (fun K' hK => ?_)
                  rw [if_pos (by simp [Region.wanted, yielded, r8])]
                  go_simp
                  exact hK.out _ _ ⟨_, hF.pure hok hla hpre rfl (Below.refl _ _), rfl⟩
                rcases Nat.lt_or_ge i 22 with hi | hge
                · obtain rfl := eqi hi hge
                  have p8 := hpre 8 (by kernel_rfl)
                  have e8 : s8 = .bool false := hF.get 8 _ rfl (.inr p8)
                  subst e8
                  have r8 : A.tmps[79]? = some (.bool false) := hR.own 8 _ _ rfl rfl
                  have p20 := hpre 20 (by kernel_rfl)
                  have e20 : s20 = .bool false := hF.get 20 _ rfl (.inr p20)
                  subst e20
                  have r20 : A.tmps[91]? = some (.bool false) := hR.own 20 _ _ rfl rfl
                  refine step_of ⟨some 92, _, _, _, _, _⟩ rfl (fun K' hK => ?_)
                  go_simp
                  exact hK.out _ _ ⟨_, hF.pure hok hla hpre rfl (Below.refl _ _), rfl⟩
                rcases Nat.lt_or_ge i 23 with hi | hge
                · obtain rfl := eqi hi hge
                  have p21 := hpre 21 (by kernel_rfl)
                  have e21 : s21 = .bool false := hF.get 21 _ rfl (.inr p21)
                  subst e21
                  have r21 : A.tmps[92]? = some (.bool false) := hR.own 21 _ _ rfl rfl
                  refine step_of ⟨some 93, _, _, _, _, _⟩ rfl (fun K' hK => ?_)
                  go_simp
                  exact hK.out _ _ ⟨_, hF.pure hok hla hpre rfl (Below.refl _ _), rfl⟩
                obtain rfl := eqi hi hge
                have p22 := hpre 22 (by kernel_rfl)
                have e22 : s22 = .bool false := hF.get 22 _ rfl (.inr p22)
                subst e22
                have r22 : A.tmps[93]? = some (.bool false) := hR.own 22 _ _ rfl rfl
                have ro13 : A.tmps[13]? = some (.pointer (some ⟨B13, 0, none⟩)) := hR.out 2 _ rfl
                have hcc := (nine_at (keep_block H13.out (below_none hF.low))).1
                have cH130 := hcc.1
                have cH131 := hcc.2.1
                have cH132 := hcc.2.2.1
                have cH133 := hcc.2.2.2.1
                have cH134 := hcc.2.2.2.2.1
                have cH135 := hcc.2.2.2.2.2.1
                have cH136 := hcc.2.2.2.2.2.2.1
                have cH137 := hcc.2.2.2.2.2.2.2.1
                have cH138 := hcc.2.2.2.2.2.2.2.2
                clear hcc
                refine step_of ⟨some 94, _, _, _, _, _⟩ rfl (fun K' hK => ?_)
                rw [if_pos (by simp [Region.wanted, yielded, r22])]
                go_simp
                exact hK.out _ _ ⟨_, hF.pure hok hla hpre rfl (Below.refl _ _), rfl⟩
              rcases Nat.lt_or_ge i 36 with hi | hge
              · rcases Nat.lt_or_ge i 30 with hi | hge
                · rcases Nat.lt_or_ge i 27 with hi | hge
                  · rcases Nat.lt_or_ge i 25 with hi | hge
                    · obtain rfl := eqi hi hge
                      have p22 := hpre 22 (by kernel_rfl)
                      have e22 : s22 = .bool false := hF.get 22 _ rfl (.inr p22)
                      subst e22
                      have r22 : A.tmps[93]? = some (.bool false) := hR.own 22 _ _ rfl rfl
                      have ro16 : A.tmps[16]? = some (.pointer (some ⟨b16, 0, none⟩)) := hR.out 3 _ rfl
                      have hcc := (nine_at (keep_block H16.out (below_none hF.low))).1
                      have cH160 := hcc.1
                      have cH161 := hcc.2.1
                      have cH162 := hcc.2.2.1
                      have cH163 := hcc.2.2.2.1
                      have cH164 := hcc.2.2.2.2.1
                      have cH165 := hcc.2.2.2.2.2.1
                      have cH166 := hcc.2.2.2.2.2.2.1
                      have cH167 := hcc.2.2.2.2.2.2.2.1
                      have cH168 := hcc.2.2.2.2.2.2.2.2
                      clear hcc
                      refine step_of ⟨some 95, _, _, _, _, _⟩ rfl (fun K' hK => ?_)
                      rw [if_pos (by simp [Region.wanted, yielded, r22])]
                      go_simp
                      exact hK.out _ _ ⟨_, hF.pure hok hla hpre rfl (Below.refl _ _), rfl⟩
                    rcases Nat.lt_or_ge i 26 with hi | hge
                    · obtain rfl := eqi hi hge
                      have p23 := hpre 23 (by kernel_rfl)
                      have e23 : s23 = .agg #[.int .i64 1, .string (numS vj), .string (denS vj), .string { data := #[] }, .bool false, .int .i64 0, .int .i64 0, .int .i64 0, .slice none 0 0] := hF.get 23 _ rfl (.inr p23)
                      subst e23
                      have r23 : A.tmps[94]? = some (.agg #[.int .i64 1, .string (numS vj), .string (denS vj), .string { data := #[] }, .bool false, .int .i64 0, .int .i64 0, .int .i64 0, .slice none 0 0]) := hR.own 23 _ _ rfl rfl
                      have p24 := hpre 24 (by kernel_rfl)
                      have e24 : s24 = .agg #[.int .i64 1, .string (numS mj), .string (denS mj), .string { data := #[] }, .bool false, .int .i64 0, .int .i64 0, .int .i64 0, .slice none 0 0] := hF.get 24 _ rfl (.inr p24)
                      subst e24
                      have r24 : A.tmps[95]? = some (.agg #[.int .i64 1, .string (numS mj), .string (denS mj), .string { data := #[] }, .bool false, .int .i64 0, .int .i64 0, .int .i64 0, .slice none 0 0]) := hR.own 24 _ _ rfl rfl
                      have p22 := hpre 22 (by kernel_rfl)
                      have e22 : s22 = .bool false := hF.get 22 _ rfl (.inr p22)
                      subst e22
                      have r22 : A.tmps[93]? = some (.bool false) := hR.own 22 _ _ rfl rfl
                      refine step_of ⟨some 96, _, _, _, _, _⟩ rfl (fun K' hK => ?_)
                      rw [if_pos (by simp [Region.wanted, yielded, r22])]
                      go_simp
                      go_at_call 12
                      (with_reducible refine (TB.out _ (HI.out.step (below_none hF.low)).env).mono ?_)
                      rintro e Wq ⟨rfl, hq⟩
                      exact hK.out _ _ ⟨_, hF.pure hok hla hpre rfl hq, rfl⟩
                    obtain rfl := eqi hi hge
                    have p22 := hpre 22 (by kernel_rfl)
                    have e22 : s22 = .bool false := hF.get 22 _ rfl (.inr p22)
                    subst e22
                    have r22 : A.tmps[93]? = some (.bool false) := hR.own 22 _ _ rfl rfl
                    have ro15 : A.tmps[15]? = some (.slice (some ⟨lg, a5 * 9, none⟩) 5 (cap - a5)) := hR.out 0 _ rfl
                    refine step_of ⟨some 97, _, _, _, _, _⟩ rfl (fun K' hK => ?_)
                    rw [if_pos (by simp [Region.wanted, yielded, r22])]
                    go_simp
                    exact hK.out _ _ ⟨_, hF.pure hok hla hpre rfl (Below.refl _ _), rfl⟩
                  rcases Nat.lt_or_ge i 28 with hi | hge
                  · obtain rfl := eqi hi hge
                    have p26 := hpre 26 (by kernel_rfl)
                    have e26 : s26 = .slice (some ⟨lg, a5 * 9, none⟩) 5 (cap - a5) := hF.get 26 _ rfl (.inr p26)
                    subst e26
                    have r26 : A.tmps[97]? = some (.slice (some ⟨lg, a5 * 9, none⟩) 5 (cap - a5)) := hR.own 26 _ _ rfl rfl
                    have p22 := hpre 22 (by kernel_rfl)
                    have e22 : s22 = .bool false := hF.get 22 _ rfl (.inr p22)
                    subst e22
                    have r22 : A.tmps[93]? = some (.bool false) := hR.own 22 _ _ rfl rfl
                    refine step_of ⟨some 98, _, _, _, _, _⟩ rfl (fun K' hK => ?_)
                    rw [if_pos (by simp [Region.wanted, yielded, r22])]
                    go_simp
                    exact hK.out _ _ ⟨_, hF.pure hok hla hpre rfl (Below.refl _ _), rfl⟩
                  rcases Nat.lt_or_ge i 29 with hi | hge
                  · obtain rfl := eqi hi hge
                    have p27 := hpre 27 (by kernel_rfl)
                    have e27 : s27 = .pointer (some ⟨lg, a5 * 9 + 36, none⟩) := hF.get 27 _ rfl (.inr p27)
                    subst e27
                    have r27 : A.tmps[98]? = some (.pointer (some ⟨lg, a5 * 9 + 36, none⟩)) := hR.own 27 _ _ rfl rfl
                    have p22 := hpre 22 (by kernel_rfl)
                    have e22 : s22 = .bool false := hF.get 22 _ rfl (.inr p22)
                    subst e22
                    have r22 : A.tmps[93]? = some (.bool false) := hR.own 22 _ _ rfl rfl
                    obtain ⟨j0, j1, j2, j3, j4, j5, j6, j7, j8⟩ := Off.item_at (HRW.out _ (HI.out.step (below_none hF.low)).val) 4 (by simp) wj rfl
                    simp only [Nat.reduceMul, Nat.add_assoc, Nat.reduceAdd, Nat.add_zero] at j0 j1 j2 j3 j4 j5 j6 j7 j8
                    refine step_of ⟨some 99, _, _, _, _, _⟩ rfl (fun K' hK => ?_)
                    rw [if_pos (by simp [Region.wanted, yielded, r22])]
                    go_simp
                    exact hK.out _ _ ⟨_, hF.pure hok hla hpre rfl (Below.refl _ _), rfl⟩
                  obtain rfl := eqi hi hge
                  have p25 := hpre 25 (by kernel_rfl)
                  have e25 : s25 = .agg #[.int .i64 1, .string (numS wj), .string (denS wj), .string { data := #[] }, .bool false, .int .i64 0, .int .i64 0, .int .i64 0, .slice none 0 0] := hF.get 25 _ rfl (.inr p25)
                  subst e25
                  have r25 : A.tmps[96]? = some (.agg #[.int .i64 1, .string (numS wj), .string (denS wj), .string { data := #[] }, .bool false, .int .i64 0, .int .i64 0, .int .i64 0, .slice none 0 0]) := hR.own 25 _ _ rfl rfl
                  have p28 := hpre 28 (by kernel_rfl)
                  have e28 : s28 = .agg #[.int .i64 1, .string (numS wj), .string (denS wj), .string { data := #[] }, .bool false, .int .i64 0, .int .i64 0, .int .i64 0, .slice none 0 0] := hF.get 28 _ rfl (.inr p28)
                  subst e28
                  have r28 : A.tmps[99]? = some (.agg #[.int .i64 1, .string (numS wj), .string (denS wj), .string { data := #[] }, .bool false, .int .i64 0, .int .i64 0, .int .i64 0, .slice none 0 0]) := hR.own 28 _ _ rfl rfl
                  have p22 := hpre 22 (by kernel_rfl)
                  have e22 : s22 = .bool false := hF.get 22 _ rfl (.inr p22)
                  subst e22
                  have r22 : A.tmps[93]? = some (.bool false) := hR.own 22 _ _ rfl rfl
                  refine step_of ⟨some 100, _, _, _, _, _⟩ rfl (fun K' hK => ?_)
                  rw [if_pos (by simp [Region.wanted, yielded, r22])]
                  go_simp
                  go_at_call 11
                  (with_reducible refine (same_one wj _).mono ?_)
                  rintro e Wq ⟨rfl, hq⟩
                  exact hK.out _ _ ⟨_, hF.pure hok hla hpre rfl hq, rfl⟩
                rcases Nat.lt_or_ge i 33 with hi | hge
                · rcases Nat.lt_or_ge i 31 with hi | hge
                  · obtain rfl := eqi hi hge
                    have p29 := hpre 29 (by kernel_rfl)
                    have e29 : s29 = .bool true := hF.get 29 _ rfl (.inr p29)
                    subst e29
                    have r29 : A.tmps[100]? = some (.bool true) := hR.own 29 _ _ rfl rfl
                    have p22 := hpre 22 (by kernel_rfl)
                    have e22 : s22 = .bool false := hF.get 22 _ rfl (.inr p22)
                    subst e22
                    have r22 : A.tmps[93]? = some (.bool false) := hR.own 22 _ _ rfl rfl
                    refine step_of ⟨some 101, _, _, _, _, _⟩ rfl (fun K' hK => ?_)
                    rw [if_pos (by simp [Region.wanted, yielded, r22])]
                    go_simp
                    exact hK.out _ _ ⟨_, hF.pure hok hla hpre rfl (Below.refl _ _), rfl⟩
                  rcases Nat.lt_or_ge i 32 with hi | hge
                  · obtain rfl := eqi hi hge
                    have p22 := hpre 22 (by kernel_rfl)
                    have e22 : s22 = .bool false := hF.get 22 _ rfl (.inr p22)
                    subst e22
                    have r22 : A.tmps[93]? = some (.bool false) := hR.own 22 _ _ rfl rfl
                    have p30 := hpre 30 (by kernel_rfl)
                    have e30 : s30 = .bool false := hF.get 30 _ rfl (.inr p30)
                    subst e30
                    have r30 : A.tmps[101]? = some (.bool false) := hR.own 30 _ _ rfl rfl
                    refine step_of ⟨some 102, _, _, _, _, _⟩ rfl (fun K' hK => ?_)
                    go_simp
                    exact hK.out _ _ ⟨_, hF.pure hok hla hpre rfl (Below.refl _ _), rfl⟩
                  obtain rfl := eqi hi hge
                  have p31 := hpre 31 (by kernel_rfl)
                  have e31 : s31 = .bool false := hF.get 31 _ rfl (.inr p31)
                  subst e31
                  have r31 : A.tmps[102]? = some (.bool false) := hR.own 31 _ _ rfl rfl
                  refine step_of ⟨some 103, _, _, _, _, _⟩ rfl (fun K' hK => ?_)
                  go_simp
                  exact hK.out _ _ ⟨_, hF.pure hok hla hpre rfl (Below.refl _ _), rfl⟩
                rcases Nat.lt_or_ge i 34 with hi | hge
                · obtain rfl := eqi hi hge
                  have p32 := hpre 32 (by kernel_rfl)
                  have e32 : s32 = .bool false := hF.get 32 _ rfl (.inr p32)
                  subst e32
                  have r32 : A.tmps[103]? = some (.bool false) := hR.own 32 _ _ rfl rfl
                  have ro14 : A.tmps[14]? = some (.int .i64 (j : Int)) := hR.out 1 _ rfl
                  refine step_of ⟨some 104, _, _, _, _, _⟩ rfl (fun K' hK => ?_)
                  rw [if_pos (by simp [Region.wanted, yielded, r32])]
                  go_simp
                  exact hK.out _ _ ⟨_, hF.pure hok hla hpre rfl (Below.refl _ _), rfl⟩
                rcases Nat.lt_or_ge i 35 with hi | hge
                · obtain rfl := eqi hi hge
                  have p33 := hpre 33 (by kernel_rfl)
                  have e33 : s33 = .int .i64 (j : Int) := hF.get 33 _ rfl (.inr p33)
                  subst e33
                  have r33 : A.tmps[104]? = some (.int .i64 (j : Int)) := hR.own 33 _ _ rfl rfl
                  have p32 := hpre 32 (by kernel_rfl)
                  have e32 : s32 = .bool false := hF.get 32 _ rfl (.inr p32)
                  subst e32
                  have r32 : A.tmps[103]? = some (.bool false) := hR.own 32 _ _ rfl rfl
                  refine step_of ⟨some 105, _, _, _, _, _⟩ rfl (fun K' hK => ?_)
                  rw [if_pos (by simp [Region.wanted, yielded, r32])]
                  go_simp
                  exact hK.out _ _ ⟨_, hF.pure hok hla hpre rfl (Below.refl _ _), rfl⟩
                obtain rfl := eqi hi hge
                have p32 := hpre 32 (by kernel_rfl)
                have e32 : s32 = .bool false := hF.get 32 _ rfl (.inr p32)
                subst e32
                have r32 : A.tmps[103]? = some (.bool false) := hR.own 32 _ _ rfl rfl
                have ro2 : A.tmps[2]? = some (.int .i64 (n : Int)) := hR.out 4 _ rfl
                refine step_of ⟨some 106, _, _, _, _, _⟩ rfl (fun K' hK => ?_)
                rw [if_pos (by simp [Region.wanted, yielded, r32])]
                go_simp
                exact hK.out _ _ ⟨_, hF.pure hok hla hpre rfl (Below.refl _ _), rfl⟩
              rcases Nat.lt_or_ge i 42 with hi | hge
              · rcases Nat.lt_or_ge i 39 with hi | hge
                · rcases Nat.lt_or_ge i 37 with hi | hge
                  · obtain rfl := eqi hi hge
                    have p34 := hpre 34 (by kernel_rfl)
                    have e34 : s34 = .int .i64 ((j : Int) + 1) := hF.get 34 _ rfl (.inr p34)
                    subst e34
                    have r34 : A.tmps[105]? = some (.int .i64 ((j : Int) + 1)) := hR.own 34 _ _ rfl rfl
                    have p35 := hpre 35 (by kernel_rfl)
                    have e35 : s35 = .int .i64 (n : Int) := hF.get 35 _ rfl (.inr p35)
                    subst e35
                    have r35 : A.tmps[106]? = some (.int .i64 (n : Int)) := hR.own 35 _ _ rfl rfl
                    have p32 := hpre 32 (by kernel_rfl)
                    have e32 : s32 = .bool false := hF.get 32 _ rfl (.inr p32)
                    subst e32
                    have r32 : A.tmps[103]? = some (.bool false) := hR.own 32 _ _ rfl rfl
                    refine step_of ⟨some 107, _, _, _, _, _⟩ rfl (fun K' hK => ?_)
                    rw [if_pos (by simp [Region.wanted, yielded, r32])]
                    go_simp
                    exact hK.out _ _ ⟨_, hF.pure hok hla hpre rfl (Below.refl _ _), rfl⟩
                  rcases Nat.lt_or_ge i 38 with hi | hge
                  · obtain rfl := eqi hi hge
                    have p36 := hpre 36 (by kernel_rfl)
                    have e36 : s36 = .bool true := hF.get 36 _ rfl (.inr p36)
                    subst e36
                    have r36 : A.tmps[107]? = some (.bool true) := hR.own 36 _ _ rfl rfl
                    have p32 := hpre 32 (by kernel_rfl)
                    have e32 : s32 = .bool false := hF.get 32 _ rfl (.inr p32)
                    subst e32
                    have r32 : A.tmps[103]? = some (.bool false) := hR.own 32 _ _ rfl rfl
                    refine step_of ⟨some 108, _, _, _, _, _⟩ rfl (fun K' hK => ?_)
                    rw [if_pos (by simp [Region.wanted, yielded, r32])]
                    go_simp
                    exact hK.out _ _ ⟨_, hF.pure hok hla hpre rfl (Below.refl _ _), rfl⟩
                  obtain rfl := eqi hi hge
                  have p37 := hpre 37 (by kernel_rfl)
                  have e37 : s37 = .bool true := hF.get 37 _ rfl (.inr p37)
                  subst e37
                  have r37 : A.tmps[108]? = some (.bool true) := hR.own 37 _ _ rfl rfl
                  have ro15 : A.tmps[15]? = some (.slice (some ⟨lg, a5 * 9, none⟩) 5 (cap - a5)) := hR.out 0 _ rfl
                  refine step_of ⟨some 109, _, _, _, _, _⟩ rfl (fun K' hK => ?_)
                  rw [if_pos (by simp [Region.wanted, yielded, r37])]
                  go_simp
                  exact hK.out _ _ ⟨_, hF.pure hok hla hpre rfl (Below.refl _ _), rfl⟩
                rcases Nat.lt_or_ge i 40 with hi | hge
                · obtain rfl := eqi hi hge
                  have p38 := hpre 38 (by kernel_rfl)
                  have e38 : s38 = .slice (some ⟨lg, a5 * 9, none⟩) 5 (cap - a5) := hF.get 38 _ rfl (.inr p38)
                  subst e38
                  have r38 : A.tmps[109]? = some (.slice (some ⟨lg, a5 * 9, none⟩) 5 (cap - a5)) := hR.own 38 _ _ rfl rfl
                  have p37 := hpre 37 (by kernel_rfl)
                  have e37 : s37 = .bool true := hF.get 37 _ rfl (.inr p37)
                  subst e37
                  have r37 : A.tmps[108]? = some (.bool true) := hR.own 37 _ _ rfl rfl
                  refine step_of ⟨some 110, _, _, _, _, _⟩ rfl (fun K' hK => ?_)
                  rw [if_pos (by simp [Region.wanted, yielded, r37])]
                  go_simp
                  exact hK.out _ _ ⟨_, hF.pure hok hla hpre rfl (Below.refl _ _), rfl⟩
                rcases Nat.lt_or_ge i 41 with hi | hge
                · obtain rfl := eqi hi hge
                  have p39 := hpre 39 (by kernel_rfl)
                  have e39 : s39 = .pointer (some ⟨lg, a5 * 9 + 9, none⟩) := hF.get 39 _ rfl (.inr p39)
                  subst e39
                  have r39 : A.tmps[110]? = some (.pointer (some ⟨lg, a5 * 9 + 9, none⟩)) := hR.own 39 _ _ rfl rfl
                  have p37 := hpre 37 (by kernel_rfl)
                  have e37 : s37 = .bool true := hF.get 37 _ rfl (.inr p37)
                  subst e37
                  have r37 : A.tmps[108]? = some (.bool true) := hR.own 37 _ _ rfl rfl
                  obtain ⟨j0, j1, j2, j3, j4, j5, j6, j7, j8⟩ := Off.item_at (HRW.out _ (HI.out.step (below_none hF.low)).val) 1 (by simp) aj rfl
                  simp only [Nat.reduceMul, Nat.add_assoc, Nat.reduceAdd, Nat.add_zero] at j0 j1 j2 j3 j4 j5 j6 j7 j8
                  refine step_of ⟨some 111, _, _, _, _, _⟩ rfl (fun K' hK => ?_)
                  rw [if_pos (by simp [Region.wanted, yielded, r37])]
                  go_simp
                  exact hK.out _ _ ⟨_, hF.pure hok hla hpre rfl (Below.refl _ _), rfl⟩
                obtain rfl := eqi hi hge
                have p37 := hpre 37 (by kernel_rfl)
                have e37 : s37 = .bool true := hF.get 37 _ rfl (.inr p37)
                subst e37
                have r37 : A.tmps[108]? = some (.bool true) := hR.own 37 _ _ rfl rfl
                have ro12 : A.tmps[12]? = some (.pointer (some ⟨b12, 0, none⟩)) := hR.out 5 _ rfl
                refine step_of ⟨some 112, _, _, _, _, _⟩ rfl (fun K' hK => ?_)
                rw [if_pos (by simp [Region.wanted, yielded, r37])]
                go_simp
                exact hK.out _ _ ⟨_, hF.pure hok hla hpre rfl (Below.refl _ _), rfl⟩
              rcases Nat.lt_or_ge i 45 with hi | hge
              · rcases Nat.lt_or_ge i 43 with hi | hge
                · obtain rfl := eqi hi hge
                  have p41 := hpre 41 (by kernel_rfl)
                  have e41 : s41 = .pointer (some ⟨b12, 8, none⟩) := hF.get 41 _ rfl (.inr p41)
                  subst e41
                  have r41 : A.tmps[112]? = some (.pointer (some ⟨b12, 8, none⟩)) := hR.own 41 _ _ rfl rfl
                  have p37 := hpre 37 (by kernel_rfl)
                  have e37 : s37 = .bool true := hF.get 37 _ rfl (.inr p37)
                  subst e37
                  have r37 : A.tmps[108]? = some (.bool true) := hR.own 37 _ _ rfl rfl
                  have hcc := (nine_at (keep_block H12.out (below_none hF.low))).1
                  have cH120 := hcc.1
                  have cH121 := hcc.2.1
                  have cH122 := hcc.2.2.1
                  have cH123 := hcc.2.2.2.1
                  have cH124 := hcc.2.2.2.2.1
                  have cH125 := hcc.2.2.2.2.2.1
                  have cH126 := hcc.2.2.2.2.2.2.1
                  have cH127 := hcc.2.2.2.2.2.2.2.1
                  have cH128 := hcc.2.2.2.2.2.2.2.2
                  clear hcc
                  refine step_of ⟨some 113, _, _, _, _, _⟩ rfl (fun K' hK => ?_)
                  rw [if_pos (by simp [Region.wanted, yielded, r37])]
                  go_simp
                  exact hK.out _ _ ⟨_, hF.pure hok hla hpre rfl (Below.refl _ _), rfl⟩
                rcases Nat.lt_or_ge i 44 with hi | hge
                · obtain rfl := eqi hi hge
                  have p42 := hpre 42 (by kernel_rfl)
                  have e42 : s42 = .slice (some ⟨lg, 0, none⟩) (n * 5) cap := hF.get 42 _ rfl (.inr p42)
                  subst e42
                  have r42 : A.tmps[113]? = some (.slice (some ⟨lg, 0, none⟩) (n * 5) cap) := hR.own 42 _ _ rfl rfl
                  have p37 := hpre 37 (by kernel_rfl)
                  have e37 : s37 = .bool true := hF.get 37 _ rfl (.inr p37)
                  subst e37
                  have r37 : A.tmps[108]? = some (.bool true) := hR.own 37 _ _ rfl rfl
                  have hi0 : (0 : Int) ≤ 1 := by decide
                  have hi1 : (1 : Int) < ((n * 5 : Nat) : Int) := by omega
                  have hi2 : (1 : Int) < (n : Int) * 5 := by omega
                  have hi3 : 1 < n * 5 := by omega
                  refine step_of ⟨some 114, _, _, _, _, _⟩ rfl (fun K' hK => ?_)
                  rw [if_pos (by simp [Region.wanted, yielded, r37])]
                  go_simp
                  exact hK.out _ _ ⟨_, hF.pure hok hla hpre rfl (Below.refl _ _), rfl⟩
                obtain rfl := eqi hi hge
                have p43 := hpre 43 (by kernel_rfl)
                have e43 : s43 = .pointer (some ⟨lg, 9, none⟩) := hF.get 43 _ rfl (.inr p43)
                subst e43
                have r43 : A.tmps[114]? = some (.pointer (some ⟨lg, 9, none⟩)) := hR.own 43 _ _ rfl rfl
                have p37 := hpre 37 (by kernel_rfl)
                have e37 : s37 = .bool true := hF.get 37 _ rfl (.inr p37)
                subst e37
                have r37 : A.tmps[108]? = some (.bool true) := hR.own 37 _ _ rfl rfl
                obtain ⟨j0, j1, j2, j3, j4, j5, j6, j7, j8⟩ := Off.item_at (HR0.out _ (HI.out.step (below_none hF.low)).val) 1 (by simp) aj rfl
                simp only [Nat.reduceMul, Nat.add_assoc, Nat.reduceAdd, Nat.zero_add, Nat.add_zero] at j0 j1 j2 j3 j4 j5 j6 j7 j8
                refine step_of ⟨some 115, _, _, _, _, _⟩ rfl (fun K' hK => ?_)
                rw [if_pos (by simp [Region.wanted, yielded, r37])]
                go_simp
                exact hK.out _ _ ⟨_, hF.pure hok hla hpre rfl (Below.refl _ _), rfl⟩
              rcases Nat.lt_or_ge i 47 with hi | hge
              · rcases Nat.lt_or_ge i 46 with hi | hge
                · obtain rfl := eqi hi hge
                  have p40 := hpre 40 (by kernel_rfl)
                  have e40 : s40 = .agg #[.int .i64 1, .string (numS aj), .string (denS aj), .string { data := #[] }, .bool false, .int .i64 0, .int .i64 0, .int .i64 0, .slice none 0 0] := hF.get 40 _ rfl (.inr p40)
                  subst e40
                  have r40 : A.tmps[111]? = some (.agg #[.int .i64 1, .string (numS aj), .string (denS aj), .string { data := #[] }, .bool false, .int .i64 0, .int .i64 0, .int .i64 0, .slice none 0 0]) := hR.own 40 _ _ rfl rfl
                  have p44 := hpre 44 (by kernel_rfl)
                  have e44 : s44 = .agg #[.int .i64 1, .string (numS aj), .string (denS aj), .string { data := #[] }, .bool false, .int .i64 0, .int .i64 0, .int .i64 0, .slice none 0 0] := hF.get 44 _ rfl (.inr p44)
                  subst e44
                  have r44 : A.tmps[115]? = some (.agg #[.int .i64 1, .string (numS aj), .string (denS aj), .string { data := #[] }, .bool false, .int .i64 0, .int .i64 0, .int .i64 0, .slice none 0 0]) := hR.own 44 _ _ rfl rfl
                  have p37 := hpre 37 (by kernel_rfl)
                  have e37 : s37 = .bool true := hF.get 37 _ rfl (.inr p37)
                  subst e37
                  have r37 : A.tmps[108]? = some (.bool true) := hR.own 37 _ _ rfl rfl
                  refine step_of ⟨some 116, _, _, _, _, _⟩ rfl (fun K' hK => ?_)
                  rw [if_pos (by simp [Region.wanted, yielded, r37])]
                  go_simp
                  go_at_call 11
                  (with_reducible refine (same_one aj _).mono ?_)
                  rintro e Wq ⟨rfl, hq⟩
                  exact hK.out _ _ ⟨_, hF.pure hok hla hpre rfl hq, rfl⟩
                obtain rfl := eqi hi hge
                have p45 := hpre 45 (by kernel_rfl)
                have e45 : s45 = .bool true := hF.get 45 _ rfl (.inr p45)
                subst e45
                have r45 : A.tmps[116]? = some (.bool true) := hR.own 45 _ _ rfl rfl
                have p37 := hpre 37 (by kernel_rfl)
                have e37 : s37 = .bool true := hF.get 37 _ rfl (.inr p37)
                subst e37
                have r37 : A.tmps[108]? = some (.bool true) := hR.own 37 _ _ rfl rfl
                refine step_of ⟨some 117, _, _, _, _, _⟩ rfl (fun K' hK => ?_)
                rw [if_pos (by simp [Region.wanted, yielded, r37])]
                go_simp
                exact hK.out _ _ ⟨_, hF.pure hok hla hpre rfl (Below.refl _ _), rfl⟩
              rcases Nat.lt_or_ge i 48 with hi | hge
              · obtain rfl := eqi hi hge
                have p37 := hpre 37 (by kernel_rfl)
                have e37 : s37 = .bool true := hF.get 37 _ rfl (.inr p37)
                subst e37
                have r37 : A.tmps[108]? = some (.bool true) := hR.own 37 _ _ rfl rfl
                have p46 := hpre 46 (by kernel_rfl)
                have e46 : s46 = .bool false := hF.get 46 _ rfl (.inr p46)
                subst e46
                have r46 : A.tmps[117]? = some (.bool false) := hR.own 46 _ _ rfl rfl
                have p32 := hpre 32 (by kernel_rfl)
                have e32 : s32 = .bool false := hF.get 32 _ rfl (.inr p32)
                subst e32
                have r32 : A.tmps[103]? = some (.bool false) := hR.own 32 _ _ rfl rfl
                refine step_of ⟨some 118, _, _, _, _, _⟩ rfl (fun K' hK => ?_)
                rw [if_pos (by simp [Region.wanted, yielded, r32])]
                go_simp
                exact hK.out _ _ ⟨_, hF.pure hok hla hpre rfl (Below.refl _ _), rfl⟩
              obtain rfl := eqi hi hge
              have p32 := hpre 32 (by kernel_rfl)
              have e32 : s32 = .bool false := hF.get 32 _ rfl (.inr p32)
              subst e32
              have r32 : A.tmps[103]? = some (.bool false) := hR.own 32 _ _ rfl rfl
              have p47 := hpre 47 (by kernel_rfl)
              have e47 : s47 = .bool false := hF.get 47 _ rfl (.inr p47)
              subst e47
              have r47 : A.tmps[118]? = some (.bool false) := hR.own 47 _ _ rfl rfl
              refine step_of ⟨some 119, _, _, _, _, _⟩ rfl (fun K' hK => ?_)
              go_simp
              exact hK.out _ _ ⟨_, hF.pure hok hla hpre rfl (Below.refl _ _), rfl⟩
            case hd =>
              rintro listed vs W13 hF hall
              obtain ⟨s0, s1, s2, s3, s4, s5, s6, s7, s8, s9, s10, s11, s12, s13, s14, s15, s16, s17, s18, s19, s20, s21, s22, s23, s24, s25, s26, s27, s28, s29, s30, s31, s32, s33, s34, s35, s36, s37, s38, s39, s40, s41, s42, s43, s44, s45, s46, s47, s48, hvs⟩ := exl_of 49 vs (fun l => vs = l) hF.len rfl
              subst hvs
              have e48 : s48 = .bool false := hF.get 48 _ rfl (.inr (hall 48 (by decide)))
              subst e48
              have hq := below_none hF.low
              replace H9 := Lib.hid (keep_block H9.out hq)
              replace H12 := Lib.hid (keep_block H12.out hq)
              replace H13 := Lib.hid (keep_block H13.out hq)
              replace H16 := Lib.hid (keep_block H16.out hq)
              replace HI := Lib.hid (HI.out.step hq)
              clear hq
              clear hF hall hok hla hna
              refine rest_end ?_
              simp only [putO, layL]
              clear H9 H12 H13 H16 hdn
              obtain ⟨⟨x0, x1, x2, x3, x4, x5, x6, x7, x8⟩, _⟩ := nine_at HI.out.h13
              obtain ⟨⟨f0, f1⟩, _⟩ := two_at HI.out.h9
              go_wp2_with fail
              refine (TX.out _ HI.out.env).mono ?_
              rintro e w3 ⟨rfl, hq⟩
              replace HI := Lib.hid (HI.out.step hq)
              clear hq x0 x1 x2 x3 x4 x5 x6 x7 x8 f0 f1
              have L17 := Lib.hid (heap_lt HI.out.h13)
              have LLG := Lib.hid (items_in HI.out.val (by rw [itsL_len]; omega))
              have hq2 : Below w3.heap.size w3 (w3.alloc (.cells #[.string (numS xj), .string (denS xj)] 24)) := (Below.refl _ _).alloc (Nat.le_refl _) _
              have H17 := Lib.hid (heap_alloc_new w3 (.cells #[.string (numS xj), .string (denS xj)] 24))
              replace HI := Lib.hid (HI.out.step hq2)
              clear hq2
              obtain ⟨B17, hB⟩ : ∃ B, w3.heap.size = B := ⟨_, rfl⟩
              obtain ⟨W7, hW⟩ : ∃ Z, w3.alloc (.cells #[.string (numS xj), .string (denS xj)] 24) = Z := ⟨_, rfl⟩
              rw [hW] at H17 HI
              rw [hB] at H17 L17 LLG
              have EW := Lib.hid hW
              have EB := Lib.hid hB
              clear hW hB
              go_upto_region 16 with fail
              rw [EW.out, EB.out]
              clear EW EB
              obtain ⟨⟨x0, x1⟩, _⟩ := two_at H17.out
              go_wp2_with fail
              refine (TY.out _ HI.out.env).mono ?_
              rintro e w4 ⟨rfl, hq⟩
              replace HI := Lib.hid (HI.out.step hq)
              replace H17 := Lib.hid (keep_block H17.out hq)
              clear hq x0 x1
              obtain ⟨⟨x0, x1⟩, y0, y1⟩ := two_at H17.out
              go_upto_region 17 with fail
              clear x0 x1 y0 y1
              have hg : w4.grownBy ((w4.setCell ⟨B17, 0, none⟩ (.string (numS ij))).setCell ⟨B17, 1, none⟩ (.string (denS ij))) (some B17) := only_setCell (p := ⟨B17, 1, none⟩) (only_setCell (p := ⟨B17, 0, none⟩) (kept_below (Below.refl _ _)) (.inl rfl) _) (.inl rfl) _
              replace HI := Lib.hid (HI.out.kept hg L17.out LLG.out (heap_lt H17.out))
              replace H17 := Lib.hid (set2_at H17.out (.string (numS ij)) (.string (denS ij)))
              clear hg
              obtain ⟨W8, hW⟩ : ∃ Z, (w4.setCell ⟨B17, 0, none⟩ (.string (numS ij))).setCell ⟨B17, 1, none⟩ (.string (denS ij)) = Z := ⟨_, rfl⟩
              rw [hW] at HI H17 ⊢
              clear hW L17 LLG
              go_wp2_with fail
              have hok : okB 7 (PwKs17 ij lg a5 cap B17) = true := by kernel_rfl
              have hna := noAny_of (ks := (PwKs17 ij lg a5 cap B17)) (by kernel_rfl)
              have hla := lasts_of hna
              refine wp_region_facts_abs (row := none) (w := W8) 7 0 7 [] (PwKs17 ij lg a5 cap B17) [some 133, some 134, some 135, some 136, some 137, some 138, some 139] [(15, .slice (some ⟨lg, a5 * 9, none⟩) 5 (cap - a5)), (17, .pointer (some ⟨B17, 0, none⟩))] 158 (by kernel_rfl) (by kernel_rfl) (by kernel_rfl) rfl rfl (by decide) rfl (by kernel_rfl) rfl (Nat.le_of_eq rfl) rfl ?ho [u133, u134, u135, u136, u137, u138, u139] ?h00 (Fs.start rfl rfl) ?hs ?hd
              case ho =>
                intro k x hk
                match k, hk with
                | 0, hk => have hk := Option.some.inj hk; subst hk; rfl
                | 1, hk => have hk := Option.some.inj hk; subst hk; rfl
                | _ + 2, hk => exact absurd hk (by simp)
              case h00 => simp only [putO, layL]
              case hs =>
                rintro A listed vs Wr hF hR i hi hun hpre
                obtain ⟨s0, s1, s2, s3, s4, s5, s6, hvs⟩ := exl_of 7 vs (fun l => vs = l) hF.len rfl
                subst hvs
                have hge := Nat.zero_le i
                rcases Nat.lt_or_ge i 3 with hi | hge
                · rcases Nat.lt_or_ge i 1 with hi | hge
                  · obtain rfl := eqi hi hge
                    have ro15 : A.tmps[15]? = some (.slice (some ⟨lg, a5 * 9, none⟩) 5 (cap - a5)) := hR.out 0 _ rfl
                    refine step_of ⟨some 133, _, _, _, _, _⟩ rfl (fun K' hK => ?_)
                    go_simp
                    exact hK.out _ _ ⟨_, hF.pure hok hla hpre rfl (Below.refl _ _), rfl⟩
                  rcases Nat.lt_or_ge i 2 with hi | hge
                  · obtain rfl := eqi hi hge
                    have p0 := hpre 0 (by kernel_rfl)
                    have e0 : s0 = .slice (some ⟨lg, a5 * 9, none⟩) 5 (cap - a5) := hF.get 0 _ rfl (.inr p0)
                    subst e0
                    have r0 : A.tmps[133]? = some (.slice (some ⟨lg, a5 * 9, none⟩) 5 (cap - a5)) := hR.own 0 _ _ rfl rfl
                    refine step_of ⟨some 134, _, _, _, _, _⟩ rfl (fun K' hK => ?_)
                    go_simp
                    exact hK.out _ _ ⟨_, hF.pure hok hla hpre rfl (Below.refl _ _), rfl⟩
                  obtain rfl := eqi hi hge
                  have p1 := hpre 1 (by kernel_rfl)
                  have e1 : s1 = .pointer (some ⟨lg, a5 * 9 + 18, none⟩) := hF.get 1 _ rfl (.inr p1)
                  subst e1
                  have r1 : A.tmps[134]? = some (.pointer (some ⟨lg, a5 * 9 + 18, none⟩)) := hR.own 1 _ _ rfl rfl
                  obtain ⟨j0, j1, j2, j3, j4, j5, j6, j7, j8⟩ := Off.item_at (HRW.out _ (HI.out.step (below_none hF.low)).val) 2 (by simp) ij rfl
                  simp only [Nat.reduceMul, Nat.add_assoc, Nat.reduceAdd, Nat.add_zero] at j0 j1 j2 j3 j4 j5 j6 j7 j8
                  refine step_of ⟨some 135, _, _, _, _, _⟩ rfl (fun K' hK => ?_)
                  go_simp
                  exact hK.out _ _ ⟨_, hF.pure hok hla hpre rfl (Below.refl _ _), rfl⟩
                rcases Nat.lt_or_ge i 5 with hi | hge
                · rcases Nat.lt_or_ge i 4 with hi | hge
                  · obtain rfl := eqi hi hge
                    have ro17 : A.tmps[17]? = some (.pointer (some ⟨B17, 0, none⟩)) := hR.out 1 _ rfl
                    have hcc := (two_at (keep_block H17.out (below_none hF.low))).1
                    have cH170 := hcc.1
                    have cH171 := hcc.2
                    clear hcc
                    refine step_of ⟨some 136, _, _, _, _, _⟩ rfl (fun K' hK => ?_)
                    go_simp
                    exact hK.out _ _ ⟨_, hF.pure hok hla hpre rfl (Below.refl _ _), rfl⟩
                  obtain rfl := eqi hi hge
                  have p3 := hpre 3 (by kernel_rfl)
                  have e3 : s3 = .agg #[.string (numS ij), .string (denS ij)] := hF.get 3 _ rfl (.inr p3)
                  subst e3
                  have r3 : A.tmps[136]? = some (.agg #[.string (numS ij), .string (denS ij)]) := hR.own 3 _ _ rfl rfl
                  refine step_of ⟨some 137, _, _, _, _, _⟩ rfl (fun K' hK => ?_)
                  go_simp
                  go_at_call 6
                  (with_reducible refine (TN.out _ (HI.out.step (below_none hF.low)).env).mono ?_)
                  rintro e Wq ⟨rfl, hq⟩
                  exact hK.out _ _ ⟨_, hF.pure hok hla hpre rfl hq, rfl⟩
                rcases Nat.lt_or_ge i 6 with hi | hge
                · obtain rfl := eqi hi hge
                  have p2 := hpre 2 (by kernel_rfl)
                  have e2 : s2 = .agg #[.int .i64 1, .string (numS ij), .string (denS ij), .string { data := #[] }, .bool false, .int .i64 0, .int .i64 0, .int .i64 0, .slice none 0 0] := hF.get 2 _ rfl (.inr p2)
                  subst e2
                  have r2 : A.tmps[135]? = some (.agg #[.int .i64 1, .string (numS ij), .string (denS ij), .string { data := #[] }, .bool false, .int .i64 0, .int .i64 0, .int .i64 0, .slice none 0 0]) := hR.own 2 _ _ rfl rfl
                  have p4 := hpre 4 (by kernel_rfl)
                  have e4 : s4 = .agg #[.int .i64 1, .string (numS ij), .string (denS ij), .string { data := #[] }, .bool false, .int .i64 0, .int .i64 0, .int .i64 0, .slice none 0 0] := hF.get 4 _ rfl (.inr p4)
                  subst e4
                  have r4 : A.tmps[137]? = some (.agg #[.int .i64 1, .string (numS ij), .string (denS ij), .string { data := #[] }, .bool false, .int .i64 0, .int .i64 0, .int .i64 0, .slice none 0 0]) := hR.own 4 _ _ rfl rfl
                  refine step_of ⟨some 138, _, _, _, _, _⟩ rfl (fun K' hK => ?_)
                  go_simp
                  go_at_call 11
                  (with_reducible refine (same_one ij _).mono ?_)
                  rintro e Wq ⟨rfl, hq⟩
                  exact hK.out _ _ ⟨_, hF.pure hok hla hpre rfl hq, rfl⟩
                obtain rfl := eqi hi hge
                have p5 := hpre 5 (by kernel_rfl)
                have e5 : s5 = .bool true := hF.get 5 _ rfl (.inr p5)
                subst e5
                have r5 : A.tmps[138]? = some (.bool true) := hR.own 5 _ _ rfl rfl
                refine step_of ⟨some 139, _, _, _, _, _⟩ rfl (fun K' hK => ?_)
                go_simp
                exact hK.out _ _ ⟨_, hF.pure hok hla hpre rfl (Below.refl _ _), rfl⟩
              case hd =>
                rintro listed vs W17 hF hall
                obtain ⟨s0, s1, s2, s3, s4, s5, s6, hvs⟩ := exl_of 7 vs (fun l => vs = l) hF.len rfl
                subst hvs
                have e6 : s6 = .bool false := hF.get 6 _ rfl (.inr (hall 6 (by decide)))
                subst e6
                have hq := below_none hF.low
                replace H17 := Lib.hid (keep_block H17.out hq)
                replace HI := Lib.hid (HI.out.step hq)
                clear hq
                clear hF hall hok hla hna
                refine rest_end ?_
                simp only [putO, layL]
                obtain ⟨j0, j1, j2, j3, j4, j5, j6, j7, j8⟩ := Off.item_at (HRW.out _ HI.out.val) 4 (by simp) wj rfl
                simp only [Nat.reduceMul, Nat.add_assoc, Nat.reduceAdd, Nat.add_zero] at j0 j1 j2 j3 j4 j5 j6 j7 j8
                obtain ⟨⟨x0, x1, x2, x3, x4, x5, x6, x7, x8⟩, y0, y1, y2, y3, y4, y5, y6, y7, y8⟩ := nine_at HI.out.h13
                have HS := Lib.hid (HI.out.store wj)
                have HS2 := Lib.hid (show wj = Vs (j + 1) from HVN.out)
                clear H17 HI TA TB TX TY TP TW TN HRW HA1 HVN
                go_upto_region 20 with fail
                clear x0 x1 x2 x3 x4 x5 x6 x7 x8 y0 y1 y2 y3 y4 y5 y6 y7 y8 j0 j1 j2 j3 j4 j5 j6 j7 j8
                go_wp2
                go_roundg (n - (j + 1))
                case measure => omega
                case rel => exact ⟨j + 1, by go_num, by omega, by omega, by rw [← HS2.out]; exact HS.out⟩
          · skip
            have hdn : decide ((j : Int) + 1 < (n : Int)) = false := decide_eq_false (by omega)
            go_wp2_with fail
            have hok : okB 49 (PvKs13 q0 aj ij cj wj vj mj n lg cap a5 j B9 b12 B13 b16) = true := by kernel_rfl
            have hna := noAny_of (ks := (PvKs13 q0 aj ij cj wj vj mj n lg cap a5 j B9 b12 B13 b16)) (by kernel_rfl)
            have hla := lasts_of hna
            refine wp_region_facts_abs (row := none) (w := W12) 49 0 49 [] (PvKs13 q0 aj ij cj wj vj mj n lg cap a5 j B9 b12 B13 b16) [some 71, some 72, some 73, some 74, some 75, some 76, some 77, some 78, some 79, some 80, some 81, some 82, some 83, some 84, some 85, some 86, some 87, some 88, some 89, some 90, some 91, some 92, some 93, some 94, some 95, some 96, some 97, some 98, some 99, some 100, some 101, some 102, some 103, some 104, some 105, some 106, some 107, some 108, some 109, some 110, some 111, some 112, some 113, some 114, some 115, some 116, some 117, some 118, some 119] [(15, .slice (some ⟨lg, a5 * 9, none⟩) 5 (cap - a5)), (14, .int .i64 (j : Int)), (13, .pointer (some ⟨B13, 0, none⟩)), (16, .pointer (some ⟨b16, 0, none⟩)), (2, .int .i64 (n : Int))] 158 (by kernel_rfl) (by kernel_rfl) (by kernel_rfl) rfl rfl (by decide) rfl (by kernel_rfl) rfl (Nat.le_of_eq rfl) rfl ?ho [u71, u72, u73, u74, u75, u76, u77, u78, u79, u80, u81, u82, u83, u84, u85, u86, u87, u88, u89, u90, u91, u92, u93, u94, u95, u96, u97, u98, u99, u100, u101, u102, u103, u104, u105, u106, u107, u108, u109, u110, u111, u112, u113, u114, u115, u116, u117, u118, u119] ?h00 (Fs.start rfl rfl) ?hs ?hd
            case ho =>
              intro k x hk
              match k, hk with
              | 0, hk => have hk := Option.some.inj hk; subst hk; rfl
              | 1, hk => have hk := Option.some.inj hk; subst hk; rfl
              | 2, hk => have hk := Option.some.inj hk; subst hk; rfl
              | 3, hk => have hk := Option.some.inj hk; subst hk; rfl
              | 4, hk => have hk := Option.some.inj hk; subst hk; rfl
              | _ + 5, hk => exact absurd hk (by simp)
            case h00 => simp only [putO, layL]
            case hs =>
              rintro A listed vs Wr hF hR i hi hun hpre
              obtain ⟨s0, s1, s2, s3, s4, s5, s6, s7, s8, s9, s10, s11, s12, s13, s14, s15, s16, s17, s18, s19, s20, s21, s22, s23, s24, s25, s26, s27, s28, s29, s30, s31, s32, s33, s34, s35, s36, s37, s38, s39, s40, s41, s42, s43, s44, s45, s46, s47, s48, hvs⟩ := exl_of 49 vs (fun l => vs = l) hF.len rfl
              subst hvs
              have hge := Nat.zero_le i
              rcases Nat.lt_or_ge i 24 with hi | hge
              · rcases Nat.lt_or_ge i 12 with hi | hge
                · rcases Nat.lt_or_ge i 6 with hi | hge
                  · rcases Nat.lt_or_ge i 3 with hi | hge
                    · rcases Nat.lt_or_ge i 1 with hi | hge
                      · obtain rfl := eqi hi hge
                        have ro15 : A.tmps[15]? = some (.slice (some ⟨lg, a5 * 9, none⟩) 5 (cap - a5)) := hR.out 0 _ rfl
                        refine step_of ⟨some 71, _, _, _, _, _⟩ rfl (fun K' hK => ?_)
                        go_simp
                        exact hK.out _ _ ⟨_, hF.pure hok hla hpre rfl (Below.refl _ _), rfl⟩
                      rcases Nat.lt_or_ge i 2 with hi | hge
                      · obtain rfl := eqi hi hge
                        have p0 := hpre 0 (by kernel_rfl)
                        have e0 : s0 = .slice (some ⟨lg, a5 * 9, none⟩) 5 (cap - a5) := hF.get 0 _ rfl (.inr p0)
                        subst e0
                        have r0 : A.tmps[71]? = some (.slice (some ⟨lg, a5 * 9, none⟩) 5 (cap - a5)) := hR.own 0 _ _ rfl rfl
                        refine step_of ⟨some 72, _, _, _, _, _⟩ rfl (fun K' hK => ?_)
                        go_simp
                        exact hK.out _ _ ⟨_, hF.pure hok hla hpre rfl (Below.refl _ _), rfl⟩
                      obtain rfl := eqi hi hge
                      have p1 := hpre 1 (by kernel_rfl)
                      have e1 : s1 = .pointer (some ⟨lg, a5 * 9, none⟩) := hF.get 1 _ rfl (.inr p1)
                      subst e1
                      have r1 : A.tmps[72]? = some (.pointer (some ⟨lg, a5 * 9, none⟩)) := hR.own 1 _ _ rfl rfl
                      obtain ⟨j0, j1, j2, j3, j4, j5, j6, j7, j8⟩ := Off.item_at (HRW.out _ (HI.out.step (below_none hF.low)).val) 0 (by simp) q0 rfl
                      simp only [Nat.reduceMul, Nat.add_assoc, Nat.reduceAdd, Nat.add_zero] at j0 j1 j2 j3 j4 j5 j6 j7 j8
                      refine step_of ⟨some 73, _, _, _, _, _⟩ rfl (fun K' hK => ?_)
                      go_simp
                      exact hK.out _ _ ⟨_, hF.pure hok hla hpre rfl (Below.refl _ _), rfl⟩
                    rcases Nat.lt_or_ge i 4 with hi | hge
                    · obtain rfl := eqi hi hge
                      have ro14 : A.tmps[14]? = some (.int .i64 (j : Int)) := hR.out 1 _ rfl
                      refine step_of ⟨some 74, _, _, _, _, _⟩ rfl (fun K' hK => ?_)
                      go_simp
                      exact hK.out _ _ ⟨_, hF.pure hok hla hpre rfl (Below.refl _ _), rfl⟩
                    rcases Nat.lt_or_ge i 5 with hi | hge
                    · obtain rfl := eqi hi hge
                      have p3 := hpre 3 (by kernel_rfl)
                      have e3 : s3 = .int .i64 (j : Int) := hF.get 3 _ rfl (.inr p3)
                      subst e3
                      have r3 : A.tmps[74]? = some (.int .i64 (j : Int)) := hR.own 3 _ _ rfl rfl
                      refine step_of ⟨some 75, _, _, _, _, _⟩ rfl (fun K' hK => ?_)
                      go_simp
                      exact hK.out _ _ ⟨_, hF.pure hok hla hpre rfl (Below.refl _ _), rfl⟩
                    obtain rfl := eqi hi hge
                    have p4 := hpre 4 (by kernel_rfl)
                    have e4 : s4 = .int .i64 ((j : Int) + 1) := hF.get 4 _ rfl (.inr p4)
                    subst e4
                    have r4 : A.tmps[75]? = some (.int .i64 ((j : Int) + 1)) := hR.own 4 _ _ rfl rfl
                    refine step_of ⟨some 76, _, _, _, _, _⟩ rfl (fun K' hK => ?_)
                    go_simp
                    go_at_call 9
                    (with_reducible refine (TW.out _ (HI.out.step (below_none hF.low)).env).mono ?_)
                    rintro e Wq ⟨rfl, hq⟩
                    exact hK.out _ _ ⟨_, hF.pure hok hla hpre rfl hq, rfl⟩
                  rcases Nat.lt_or_ge i 9 with hi | hge
                  · rcases Nat.lt_or_ge i 7 with hi | hge
                    · obtain rfl := eqi hi hge
                      have p2 := hpre 2 (by kernel_rfl)
                      have e2 : s2 = .agg #[.int .i64 1, .string (numS q0), .string (denS q0), .string { data := #[] }, .bool false, .int .i64 0, .int .i64 0, .int .i64 0, .slice none 0 0] := hF.get 2 _ rfl (.inr p2)
                      subst e2
                      have r2 : A.tmps[73]? = some (.agg #[.int .i64 1, .string (numS q0), .string (denS q0), .string { data := #[] }, .bool false, .int .i64 0, .int .i64 0, .int .i64 0, .slice none 0 0]) := hR.own 2 _ _ rfl rfl
                      have p5 := hpre 5 (by kernel_rfl)
                      have e5 : s5 = .agg #[.int .i64 1, .string (numS q0), .string (denS q0), .string { data := #[] }, .bool false, .int .i64 0, .int .i64 0, .int .i64 0, .slice none 0 0] := hF.get 5 _ rfl (.inr p5)
                      subst e5
                      have r5 : A.tmps[76]? = some (.agg #[.int .i64 1, .string (numS q0), .string (denS q0), .string { data := #[] }, .bool false, .int .i64 0, .int .i64 0, .int .i64 0, .slice none 0 0]) := hR.own 5 _ _ rfl rfl
                      refine step_of ⟨some 77, _, _, _, _, _⟩ rfl (fun K' hK => ?_)
                      go_simp
                      go_at_call 11
                      (with_reducible refine (same_one q0 _).mono ?_)
                      rintro e Wq ⟨rfl, hq⟩
                      exact hK.out _ _ ⟨_, hF.pure hok hla hpre rfl hq, rfl⟩
                    rcases Nat.lt_or_ge i 8 with hi | hge
                    · obtain rfl := eqi hi hge
                      have p6 := hpre 6 (by kernel_rfl)
                      have e6 : s6 = .bool true := hF.get 6 _ rfl (.inr p6)
                      subst e6
                      have r6 : A.tmps[77]? = some (.bool true) := hR.own 6 _ _ rfl rfl
                      refine step_of ⟨some 78, _, _, _, _, _⟩ rfl (fun K' hK => ?_)
                      go_simp
                      exact hK.out _ _ ⟨_, hF.pure hok hla hpre rfl (Below.refl _ _), rfl⟩
                    obtain rfl := eqi hi hge
                    have p7 := hpre 7 (by kernel_rfl)
                    have e7 : s7 = .bool false := hF.get 7 _ rfl (.inr p7)
                    subst e7
                    have r7 : A.tmps[78]? = some (.bool false) := hR.own 7 _ _ rfl rfl
                    refine step_of ⟨some 79, _, _, _, _, _⟩ rfl (fun K' hK => ?_)
                    go_simp
                    exact hK.out _ _ ⟨_, hF.pure hok hla hpre rfl (Below.refl _ _), rfl⟩
                  rcases Nat.lt_or_ge i 10 with hi | hge
                  · obtain rfl := eqi hi hge
                    have p8 := hpre 8 (by kernel_rfl)
                    have e8 : s8 = .bool false := hF.get 8 _ rfl (.inr p8)
                    subst e8
                    have r8 : A.tmps[79]? = some (.bool false) := hR.own 8 _ _ rfl rfl
                    have ro15 : A.tmps[15]? = some (.slice (some ⟨lg, a5 * 9, none⟩) 5 (cap - a5)) := hR.out 0 _ rfl
                    refine step_of ⟨some 80, _, _, _, _, _⟩ rfl (fun K' hK => ?_)
                    rw [if_pos (by simp [Region.wanted, yielded, r8])]
                    go_simp
                    exact hK.out _ _ ⟨_, hF.pure hok hla hpre rfl (Below.refl _ _), rfl⟩
                  rcases Nat.lt_or_ge i 11 with hi | hge
                  · obtain rfl := eqi hi hge
                    have p9 := hpre 9 (by kernel_rfl)
                    have e9 : s9 = .slice (some ⟨lg, a5 * 9, none⟩) 5 (cap - a5) := hF.get 9 _ rfl (.inr p9)
                    subst e9
                    have r9 : A.tmps[80]? = some (.slice (some ⟨lg, a5 * 9, none⟩) 5 (cap - a5)) := hR.own 9 _ _ rfl rfl
                    have p8 := hpre 8 (by kernel_rfl)
                    have e8 : s8 = .bool false := hF.get 8 _ rfl (.inr p8)
                    subst e8
                    have r8 : A.tmps[79]? = some (.bool false) := hR.own 8 _ _ rfl rfl
                    refine step_of ⟨some 81, _, _, _, _, _⟩ rfl (fun K' hK => ?_)
                    rw [if_pos (by simp [Region.wanted, yielded, r8])]
                    go_simp
                    exact hK.out _ _ ⟨_, hF.pure hok hla hpre rfl (Below.refl _ _), rfl⟩
                  obtain rfl := eqi hi hge
                  have p10 := hpre 10 (by kernel_rfl)
                  have e10 : s10 = .pointer (some ⟨lg, a5 * 9 + 18, none⟩) := hF.get 10 _ rfl (.inr p10)
                  subst e10
                  have r10 : A.tmps[81]? = some (.pointer (some ⟨lg, a5 * 9 + 18, none⟩)) := hR.own 10 _ _ rfl rfl
                  have p8 := hpre 8 (by kernel_rfl)
                  have e8 : s8 = .bool false := hF.get 8 _ rfl (.inr p8)
                  subst e8
                  have r8 : A.tmps[79]? = some (.bool false) := hR.own 8 _ _ rfl rfl
                  obtain ⟨j0, j1, j2, j3, j4, j5, j6, j7, j8⟩ := Off.item_at (HRW.out _ (HI.out.step (below_none hF.low)).val) 2 (by simp) ij rfl
                  simp only [Nat.reduceMul, Nat.add_assoc, Nat.reduceAdd, Nat.add_zero] at j0 j1 j2 j3 j4 j5 j6 j7 j8
                  refine step_of ⟨some 82, _, _, _, _, _⟩ rfl (fun K' hK => ?_)
                  rw [if_pos (by simp [Region.wanted, yielded, r8])]
                  go_simp
                  exact hK.out _ _ ⟨_, hF.pure hok hla hpre rfl (Below.refl _ _), rfl⟩
                rcases Nat.lt_or_ge i 18 with hi | hge
                · rcases Nat.lt_or_ge i 15 with hi | hge
                  · rcases Nat.lt_or_ge i 13 with hi | hge
                    · obtain rfl := eqi hi hge
                      have p8 := hpre 8 (by kernel_rfl)
                      have e8 : s8 = .bool false := hF.get 8 _ rfl (.inr p8)
                      subst e8
                      have r8 : A.tmps[79]? = some (.bool false) := hR.own 8 _ _ rfl rfl
                      have ro15 : A.tmps[15]? = some (.slice (some ⟨lg, a5 * 9, none⟩) 5 (cap - a5)) := hR.out 0 _ rfl
                      refine step_of ⟨some 83, _, _, _, _, _⟩ rfl (fun K' hK => ?_)
                      rw [if_pos (by simp [Region.wanted, yielded, r8])]
                      go_simp
                      exact hK.out _ _ ⟨_, hF.pure hok hla hpre rfl (Below.refl _ _), rfl⟩
                    rcases Nat.lt_or_ge i 14 with hi | hge
                    · obtain rfl := eqi hi hge
                      have p12 := hpre 12 (by kernel_rfl)
                      have e12 : s12 = .slice (some ⟨lg, a5 * 9, none⟩) 5 (cap - a5) := hF.get 12 _ rfl (.inr p12)
                      subst e12
                      have r12 : A.tmps[83]? = some (.slice (some ⟨lg, a5 * 9, none⟩) 5 (cap - a5)) := hR.own 12 _ _ rfl rfl
                      have p8 := hpre 8 (by kernel_rfl)
                      have e8 : s8 = .bool false := hF.get 8 _ rfl (.inr p8)
                      subst e8
                      have r8 : A.tmps[79]? = some (.bool false) := hR.own 8 _ _ rfl rfl
                      refine step_of ⟨some 84, _, _, _, _, _⟩ rfl (fun K' hK => ?_)
                      rw [if_pos (by simp [Region.wanted, yielded, r8])]
                      go_simp
                      exact hK.out _ _ ⟨_, hF.pure hok hla hpre rfl (Below.refl _ _), rfl⟩
                    obtain rfl := eqi hi hge
                    have p13 := hpre 13 (by kernel_rfl)
                    have e13 : s13 = .pointer (some ⟨lg, a5 * 9 + 27, none⟩) := hF.get 13 _ rfl (.inr p13)
                    subst e13
                    have r13 : A.tmps[84]? = some (.pointer (some ⟨lg, a5 * 9 + 27, none⟩)) := hR.own 13 _ _ rfl rfl
                    have p8 := hpre 8 (by kernel_rfl)
                    have e8 : s8 = .bool false := hF.get 8 _ rfl (.inr p8)
                    subst e8
                    have r8 : A.tmps[79]? = some (.bool false) := hR.own 8 _ _ rfl rfl
                    obtain ⟨j0, j1, j2, j3, j4, j5, j6, j7, j8⟩ := Off.item_at (HRW.out _ (HI.out.step (below_none hF.low)).val) 3 (by simp) cj rfl
                    simp only [Nat.reduceMul, Nat.add_assoc, Nat.reduceAdd, Nat.add_zero] at j0 j1 j2 j3 j4 j5 j6 j7 j8
                    refine step_of ⟨some 85, _, _, _, _, _⟩ rfl (fun K' hK => ?_)
                    rw [if_pos (by simp [Region.wanted, yielded, r8])]
                    go_simp
                    exact hK.out _ _ ⟨_, hF.pure hok hla hpre rfl (Below.refl _ _), rfl⟩
                  rcases Nat.lt_or_ge i 16 with hi | hge
                  · obtain rfl := eqi hi hge
                    have p11 := hpre 11 (by kernel_rfl)
                    have e11 : s11 = .agg #[.int .i64 1, .string (numS ij), .string (denS ij), .string { data := #[] }, .bool false, .int .i64 0, .int .i64 0, .int .i64 0, .slice none 0 0] := hF.get 11 _ rfl (.inr p11)
                    subst e11
                    have r11 : A.tmps[82]? = some (.agg #[.int .i64 1, .string (numS ij), .string (denS ij), .string { data := #[] }, .bool false, .int .i64 0, .int .i64 0, .int .i64 0, .slice none 0 0]) := hR.own 11 _ _ rfl rfl
                    have p14 := hpre 14 (by kernel_rfl)
                    have e14 : s14 = .agg #[.int .i64 1, .string (numS cj), .string (denS cj), .string { data := #[] }, .bool false, .int .i64 0, .int .i64 0, .int .i64 0, .slice none 0 0] := hF.get 14 _ rfl (.inr p14)
                    subst e14
                    have r14 : A.tmps[85]? = some (.agg #[.int .i64 1, .string (numS cj), .string (denS cj), .string { data := #[] }, .bool false, .int .i64 0, .int .i64 0, .int .i64 0, .slice none 0 0]) := hR.own 14 _ _ rfl rfl
                    have p8 := hpre 8 (by kernel_rfl)
                    have e8 : s8 = .bool false := hF.get 8 _ rfl (.inr p8)
                    subst e8
                    have r8 : A.tmps[79]? = some (.bool false) := hR.own 8 _ _ rfl rfl
                    refine step_of ⟨some 86, _, _, _, _, _⟩ rfl (fun K' hK => ?_)
                    rw [if_pos (by simp [Region.wanted, yielded, r8])]
                    go_simp
                    go_at_call 12
                    (with_reducible refine (TA.out _ (HI.out.step (below_none hF.low)).env).mono ?_)
                    rintro e Wq ⟨rfl, hq⟩
                    exact hK.out _ _ ⟨_, hF.pure hok hla hpre rfl hq, rfl⟩
                  rcases Nat.lt_or_ge i 17 with hi | hge
                  · obtain rfl := eqi hi hge
                    have p8 := hpre 8 (by kernel_rfl)
                    have e8 : s8 = .bool false := hF.get 8 _ rfl (.inr p8)
                    subst e8
                    have r8 : A.tmps[79]? = some (.bool false) := hR.own 8 _ _ rfl rfl
                    have ro15 : A.tmps[15]? = some (.slice (some ⟨lg, a5 * 9, none⟩) 5 (cap - a5)) := hR.out 0 _ rfl
                    refine step_of ⟨some 87, _, _, _, _, _⟩ rfl (fun K' hK => ?_)
                    rw [if_pos (by simp [Region.wanted, yielded, r8])]
                    go_simp
                    exact hK.out _ _ ⟨_, hF.pure hok hla hpre rfl (Below.refl _ _), rfl⟩
                  obtain rfl := eqi hi hge
                  have p16 := hpre 16 (by kernel_rfl)
                  have e16 : s16 = .slice (some ⟨lg, a5 * 9, none⟩) 5 (cap - a5) := hF.get 16 _ rfl (.inr p16)
                  subst e16
                  have r16 : A.tmps[87]? = some (.slice (some ⟨lg, a5 * 9, none⟩) 5 (cap - a5)) := hR.own 16 _ _ rfl rfl
                  have p8 := hpre 8 (by kernel_rfl)
                  have e8 : s8 = .bool false := hF.get 8 _ rfl (.inr p8)
                  subst e8
                  have r8 : A.tmps[79]? = some (.bool false) := hR.own 8 _ _ rfl rfl
                  refine step_of ⟨some 88, _, _, _, _, _⟩ rfl (fun K' hK => ?_)
                  rw [if_pos (by simp [Region.wanted, yielded, r8])]
                  go_simp
                  exact hK.out _ _ ⟨_, hF.pure hok hla hpre rfl (Below.refl _ _), rfl⟩
                rcases Nat.lt_or_ge i 21 with hi | hge
                · rcases Nat.lt_or_ge i 19 with hi | hge
                  · obtain rfl := eqi hi hge
                    have p17 := hpre 17 (by kernel_rfl)
                    have e17 : s17 = .pointer (some ⟨lg, a5 * 9 + 9, none⟩) := hF.get 17 _ rfl (.inr p17)
                    subst e17
                    have r17 : A.tmps[88]? = some (.pointer (some ⟨lg, a5 * 9 + 9, none⟩)) := hR.own 17 _ _ rfl rfl
                    have p8 := hpre 8 (by kernel_rfl)
                    have e8 : s8 = .bool false := hF.get 8 _ rfl (.inr p8)
                    subst e8
                    have r8 : A.tmps[79]? = some (.bool false) := hR.own 8 _ _ rfl rfl
                    obtain ⟨j0, j1, j2, j3, j4, j5, j6, j7, j8⟩ := Off.item_at (HRW.out _ (HI.out.step (below_none hF.low)).val) 1 (by simp) aj rfl
                    simp only [Nat.reduceMul, Nat.add_assoc, Nat.reduceAdd, Nat.add_zero] at j0 j1 j2 j3 j4 j5 j6 j7 j8
                    refine step_of ⟨some 89, _, _, _, _, _⟩ rfl (fun K' hK => ?_)
                    rw [if_pos (by simp [Region.wanted, yielded, r8])]
                    go_simp
                    exact hK.out _ _ ⟨_, hF.pure hok hla hpre rfl (Below.refl _ _), rfl⟩
                  rcases Nat.lt_or_ge i 20 with hi | hge
                  · obtain rfl := eqi hi hge
                    have p15 := hpre 15 (by kernel_rfl)
                    have e15 : s15 = .agg #[.int .i64 1, .string (numS aj), .string (denS aj), .string { data := #[] }, .bool false, .int .i64 0, .int .i64 0, .int .i64 0, .slice none 0 0] := hF.get 15 _ rfl (.inr p15)
                    subst e15
                    have r15 : A.tmps[86]? = some (.agg #[.int .i64 1, .string (numS aj), .string (denS aj), .string { data := #[] }, .bool false, .int .i64 0, .int .i64 0, .int .i64 0, .slice none 0 0]) := hR.own 15 _ _ rfl rfl
                    have p18 := hpre 18 (by kernel_rfl)
                    have e18 : s18 = .agg #[.int .i64 1, .string (numS aj), .string (denS aj), .string { data := #[] }, .bool false, .int .i64 0, .int .i64 0, .int .i64 0, .slice none 0 0] := hF.get 18 _ rfl (.inr p18)
                    subst e18
                    have r18 : A.tmps[89]? = some (.agg #[.int .i64 1, .string (numS aj), .string (denS aj), .string { data := #[] }, .bool false, .int .i64 0, .int .i64 0, .int .i64 0, .slice none 0 0]) := hR.own 18 _ _ rfl rfl
                    have p8 := hpre 8 (by kernel_rfl)
                    have e8 : s8 = .bool false := hF.get 8 _ rfl (.inr p8)
                    subst e8
                    have r8 : A.tmps[79]? = some (.bool false) := hR.own 8 _ _ rfl rfl
                    refine step_of ⟨some 90, _, _, _, _, _⟩ rfl (fun K' hK => ?_)
                    rw [if_pos (by simp [Region.wanted, yielded, r8])]
                    go_simp
                    go_at_call 11
                    (with_reducible refine (same_one aj _).mono ?_)
                    rintro e Wq ⟨rfl, hq⟩
                    exact hK.out _ _ ⟨_, hF.pure hok hla hpre rfl hq, rfl⟩
                  obtain rfl := eqi hi hge
                  have p19 := hpre 19 (by kernel_rfl)
                  have e19 : s19 = .bool true := hF.get 19 _ rfl (.inr p19)
                  subst e19
                  have r19 : A.tmps[90]? = some (.bool true) := hR.own 19 _ _ rfl rfl
                  have p8 := hpre 8 (by kernel_rfl)
                  have e8 : s8 = .bool false := hF.get 8 _ rfl (.inr p8)
                  subst e8
                  have r8 : A.tmps[79]? = some (.bool false) := hR.own 8 _ _ rfl rfl
                  refine step_of ⟨some 91, _, _, _, _, _⟩ rfl (fun K' hK => ?_)
                  rw [if_pos (by simp [Region.wanted, yielded, r8])]
                  go_simp
                  exact hK.out _ _ ⟨_, hF.pure hok hla hpre rfl (Below.refl _ _), rfl⟩
                rcases Nat.lt_or_ge i 22 with hi | hge
                · obtain rfl := eqi hi hge
                  have p8 := hpre 8 (by kernel_rfl)
                  have e8 : s8 = .bool false := hF.get 8 _ rfl (.inr p8)
                  subst e8
                  have r8 : A.tmps[79]? = some (.bool false) := hR.own 8 _ _ rfl rfl
                  have p20 := hpre 20 (by kernel_rfl)
                  have e20 : s20 = .bool false := hF.get 20 _ rfl (.inr p20)
                  subst e20
                  have r20 : A.tmps[91]? = some (.bool false) := hR.own 20 _ _ rfl rfl
                  refine step_of ⟨some 92, _, _, _, _, _⟩ rfl (fun K' hK => ?_)
                  go_simp
                  exact hK.out _ _ ⟨_, hF.pure hok hla hpre rfl (Below.refl _ _), rfl⟩
                rcases Nat.lt_or_ge i 23 with hi | hge
                · obtain rfl := eqi hi hge
                  have p21 := hpre 21 (by kernel_rfl)
                  have e21 : s21 = .bool false := hF.get 21 _ rfl (.inr p21)
                  subst e21
                  have r21 : A.tmps[92]? = some (.bool false) := hR.own 21 _ _ rfl rfl
                  refine step_of ⟨some 93, _, _, _, _, _⟩ rfl (fun K' hK => ?_)
                  go_simp
                  exact hK.out _ _ ⟨_, hF.pure hok hla hpre rfl (Below.refl _ _), rfl⟩
                obtain rfl := eqi hi hge
                have p22 := hpre 22 (by kernel_rfl)
                have e22 : s22 = .bool false := hF.get 22 _ rfl (.inr p22)
                subst e22
                have r22 : A.tmps[93]? = some (.bool false) := hR.own 22 _ _ rfl rfl
                have ro13 : A.tmps[13]? = some (.pointer (some ⟨B13, 0, none⟩)) := hR.out 2 _ rfl
                have hcc := (nine_at (keep_block H13.out (below_none hF.low))).1
                have cH130 := hcc.1
                have cH131 := hcc.2.1
                have cH132 := hcc.2.2.1
                have cH133 := hcc.2.2.2.1
                have cH134 := hcc.2.2.2.2.1
                have cH135 := hcc.2.2.2.2.2.1
                have cH136 := hcc.2.2.2.2.2.2.1
                have cH137 := hcc.2.2.2.2.2.2.2.1
                have cH138 := hcc.2.2.2.2.2.2.2.2
                clear hcc
                refine step_of ⟨some 94, _, _, _, _, _⟩ rfl (fun K' hK => ?_)
                rw [if_pos (by simp [Region.wanted, yielded, r22])]
                go_simp
                exact hK.out _ _ ⟨_, hF.pure hok hla hpre rfl (Below.refl _ _), rfl⟩
              rcases Nat.lt_or_ge i 36 with hi | hge
              · rcases Nat.lt_or_ge i 30 with hi | hge
                · rcases Nat.lt_or_ge i 27 with hi | hge
                  · rcases Nat.lt_or_ge i 25 with hi | hge
                    · obtain rfl := eqi hi hge
                      have p22 := hpre 22 (by kernel_rfl)
                      have e22 : s22 = .bool false := hF.get 22 _ rfl (.inr p22)
                      subst e22
                      have r22 : A.tmps[93]? = some (.bool false) := hR.own 22 _ _ rfl rfl
                      have ro16 : A.tmps[16]? = some (.pointer (some ⟨b16, 0, none⟩)) := hR.out 3 _ rfl
                      have hcc := (nine_at (keep_block H16.out (below_none hF.low))).1
                      have cH160 := hcc.1
                      have cH161 := hcc.2.1
                      have cH162 := hcc.2.2.1
                      have cH163 := hcc.2.2.2.1
                      have cH164 := hcc.2.2.2.2.1
                      have cH165 := hcc.2.2.2.2.2.1
                      have cH166 := hcc.2.2.2.2.2.2.1
                      have cH167 := hcc.2.2.2.2.2.2.2.1
                      have cH168 := hcc.2.2.2.2.2.2.2.2
                      clear hcc
                      refine step_of ⟨some 95, _, _, _, _, _⟩ rfl (fun K' hK => ?_)
                      rw [if_pos (by simp [Region.wanted, yielded, r22])]
                      go_simp
                      exact hK.out _ _ ⟨_, hF.pure hok hla hpre rfl (Below.refl _ _), rfl⟩
                    rcases Nat.lt_or_ge i 26 with hi | hge
                    · obtain rfl := eqi hi hge
                      have p23 := hpre 23 (by kernel_rfl)
                      have e23 : s23 = .agg #[.int .i64 1, .string (numS vj), .string (denS vj), .string { data := #[] }, .bool false, .int .i64 0, .int .i64 0, .int .i64 0, .slice none 0 0] := hF.get 23 _ rfl (.inr p23)
                      subst e23
                      have r23 : A.tmps[94]? = some (.agg #[.int .i64 1, .string (numS vj), .string (denS vj), .string { data := #[] }, .bool false, .int .i64 0, .int .i64 0, .int .i64 0, .slice none 0 0]) := hR.own 23 _ _ rfl rfl
                      have p24 := hpre 24 (by kernel_rfl)
                      have e24 : s24 = .agg #[.int .i64 1, .string (numS mj), .string (denS mj), .string { data := #[] }, .bool false, .int .i64 0, .int .i64 0, .int .i64 0, .slice none 0 0] := hF.get 24 _ rfl (.inr p24)
                      subst e24
                      have r24 : A.tmps[95]? = some (.agg #[.int .i64 1, .string (numS mj), .string (denS mj), .string { data := #[] }, .bool false, .int .i64 0, .int .i64 0, .int .i64 0, .slice none 0 0]) := hR.own 24 _ _ rfl rfl
                      have p22 := hpre 22 (by kernel_rfl)
                      have e22 : s22 = .bool false := hF.get 22 _ rfl (.inr p22)
                      subst e22
                      have r22 : A.tmps[93]? = some (.bool false) := hR.own 22 _ _ rfl rfl
                      refine step_of ⟨some 96, _, _, _, _, _⟩ rfl (fun K' hK => ?_)
                      rw [if_pos (by simp [Region.wanted, yielded, r22])]
                      go_simp
                      go_at_call 12
                      (with_reducible refine (TB.out _ (HI.out.step (below_none hF.low)).env).mono ?_)
                      rintro e Wq ⟨rfl, hq⟩
                      exact hK.out _ _ ⟨_, hF.pure hok hla hpre rfl hq, rfl⟩
                    obtain rfl := eqi hi hge
                    have p22 := hpre 22 (by kernel_rfl)
                    have e22 : s22 = .bool false := hF.get 22 _ rfl (.inr p22)
                    subst e22
                    have r22 : A.tmps[93]? = some (.bool false) := hR.own 22 _ _ rfl rfl
                    have ro15 : A.tmps[15]? = some (.slice (some ⟨lg, a5 * 9, none⟩) 5 (cap - a5)) := hR.out 0 _ rfl
                    refine step_of ⟨some 97, _, _, _, _, _⟩ rfl (fun K' hK => ?_)
                    rw [if_pos (by simp [Region.wanted, yielded, r22])]
                    go_simp
                    exact hK.out _ _ ⟨_, hF.pure hok hla hpre rfl (Below.refl _ _), rfl⟩
                  rcases Nat.lt_or_ge i 28 with hi | hge
                  · obtain rfl := eqi hi hge
                    have p26 := hpre 26 (by kernel_rfl)
                    have e26 : s26 = .slice (some ⟨lg, a5 * 9, none⟩) 5 (cap - a5) := hF.get 26 _ rfl (.inr p26)
                    subst e26
                    have r26 : A.tmps[97]? = some (.slice (some ⟨lg, a5 * 9, none⟩) 5 (cap - a5)) := hR.own 26 _ _ rfl rfl
                    have p22 := hpre 22 (by kernel_rfl)
                    have e22 : s22 = .bool false := hF.get 22 _ rfl (.inr p22)
                    subst e22
                    have r22 : A.tmps[93]? = some (.bool false) := hR.own 22 _ _ rfl rfl
                    refine step_of ⟨some 98, _, _, _, _, _⟩ rfl (fun K' hK => ?_)
                    rw [if_pos (by simp [Region.wanted, yielded, r22])]
                    go_simp
                    exact hK.out _ _ ⟨_, hF.pure hok hla hpre rfl (Below.refl _ _), rfl⟩
                  rcases Nat.lt_or_ge i 29 with hi | hge
                  · obtain rfl := eqi hi hge
                    have p27 := hpre 27 (by kernel_rfl)
                    have e27 : s27 = .pointer (some ⟨lg, a5 * 9 + 36, none⟩) := hF.get 27 _ rfl (.inr p27)
                    subst e27
                    have r27 : A.tmps[98]? = some (.pointer (some ⟨lg, a5 * 9 + 36, none⟩)) := hR.own 27 _ _ rfl rfl
                    have p22 := hpre 22 (by kernel_rfl)
                    have e22 : s22 = .bool false := hF.get 22 _ rfl (.inr p22)
                    subst e22
                    have r22 : A.tmps[93]? = some (.bool false) := hR.own 22 _ _ rfl rfl
                    obtain ⟨j0, j1, j2, j3, j4, j5, j6, j7, j8⟩ := Off.item_at (HRW.out _ (HI.out.step (below_none hF.low)).val) 4 (by simp) wj rfl
                    simp only [Nat.reduceMul, Nat.add_assoc, Nat.reduceAdd, Nat.add_zero] at j0 j1 j2 j3 j4 j5 j6 j7 j8
                    refine step_of ⟨some 99, _, _, _, _, _⟩ rfl (fun K' hK => ?_)
                    rw [if_pos (by simp [Region.wanted, yielded, r22])]
                    go_simp
                    exact hK.out _ _ ⟨_, hF.pure hok hla hpre rfl (Below.refl _ _), rfl⟩
                  obtain rfl := eqi hi hge
                  have p25 := hpre 25 (by kernel_rfl)
                  have e25 : s25 = .agg #[.int .i64 1, .string (numS wj), .string (denS wj), .string { data := #[] }, .bool false, .int .i64 0, .int .i64 0, .int .i64 0, .slice none 0 0] := hF.get 25 _ rfl (.inr p25)
                  subst e25
                  have r25 : A.tmps[96]? = some (.agg #[.int .i64 1, .string (numS wj), .string (denS wj), .string { data := #[] }, .bool false, .int .i64 0, .int .i64 0, .int .i64 0, .slice none 0 0]) := hR.own 25 _ _ rfl rfl
                  have p28 := hpre 28 (by kernel_rfl)
                  have e28 : s28 = .agg #[.int .i64 1, .string (numS wj), .string (denS wj), .string { data := #[] }, .bool false, .int .i64 0, .int .i64 0, .int .i64 0, .slice none 0 0] := hF.get 28 _ rfl (.inr p28)
                  subst e28
                  have r28 : A.tmps[99]? = some (.agg #[.int .i64 1, .string (numS wj), .string (denS wj), .string { data := #[] }, .bool false, .int .i64 0, .int .i64 0, .int .i64 0, .slice none 0 0]) := hR.own 28 _ _ rfl rfl
                  have p22 := hpre 22 (by kernel_rfl)
                  have e22 : s22 = .bool false := hF.get 22 _ rfl (.inr p22)
                  subst e22
                  have r22 : A.tmps[93]? = some (.bool false) := hR.own 22 _ _ rfl rfl
                  refine step_of ⟨some 100, _, _, _, _, _⟩ rfl (fun K' hK => ?_)
                  rw [if_pos (by simp [Region.wanted, yielded, r22])]
                  go_simp
                  go_at_call 11
                  (with_reducible refine (same_one wj _).mono ?_)
                  rintro e Wq ⟨rfl, hq⟩
                  exact hK.out _ _ ⟨_, hF.pure hok hla hpre rfl hq, rfl⟩
                rcases Nat.lt_or_ge i 33 with hi | hge
                · rcases Nat.lt_or_ge i 31 with hi | hge
                  · obtain rfl := eqi hi hge
                    have p29 := hpre 29 (by kernel_rfl)
                    have e29 : s29 = .bool true := hF.get 29 _ rfl (.inr p29)
                    subst e29
                    have r29 : A.tmps[100]? = some (.bool true) := hR.own 29 _ _ rfl rfl
                    have p22 := hpre 22 (by kernel_rfl)
                    have e22 : s22 = .bool false := hF.get 22 _ rfl (.inr p22)
                    subst e22
                    have r22 : A.tmps[93]? = some (.bool false) := hR.own 22 _ _ rfl rfl
                    refine step_of ⟨some 101, _, _, _, _, _⟩ rfl (fun K' hK => ?_)
                    rw [if_pos (by simp [Region.wanted, yielded, r22])]
                    go_simp
                    exact hK.out _ _ ⟨_, hF.pure hok hla hpre rfl (Below.refl _ _), rfl⟩
                  rcases Nat.lt_or_ge i 32 with hi | hge
                  · obtain rfl := eqi hi hge
                    have p22 := hpre 22 (by kernel_rfl)
                    have e22 : s22 = .bool false := hF.get 22 _ rfl (.inr p22)
                    subst e22
                    have r22 : A.tmps[93]? = some (.bool false) := hR.own 22 _ _ rfl rfl
                    have p30 := hpre 30 (by kernel_rfl)
                    have e30 : s30 = .bool false := hF.get 30 _ rfl (.inr p30)
                    subst e30
                    have r30 : A.tmps[101]? = some (.bool false) := hR.own 30 _ _ rfl rfl
                    refine step_of ⟨some 102, _, _, _, _, _⟩ rfl (fun K' hK => ?_)
                    go_simp
                    exact hK.out _ _ ⟨_, hF.pure hok hla hpre rfl (Below.refl _ _), rfl⟩
                  obtain rfl := eqi hi hge
                  have p31 := hpre 31 (by kernel_rfl)
                  have e31 : s31 = .bool false := hF.get 31 _ rfl (.inr p31)
                  subst e31
                  have r31 : A.tmps[102]? = some (.bool false) := hR.own 31 _ _ rfl rfl
                  refine step_of ⟨some 103, _, _, _, _, _⟩ rfl (fun K' hK => ?_)
                  go_simp
                  exact hK.out _ _ ⟨_, hF.pure hok hla hpre rfl (Below.refl _ _), rfl⟩
                rcases Nat.lt_or_ge i 34 with hi | hge
                · obtain rfl := eqi hi hge
                  have p32 := hpre 32 (by kernel_rfl)
                  have e32 : s32 = .bool false := hF.get 32 _ rfl (.inr p32)
                  subst e32
                  have r32 : A.tmps[103]? = some (.bool false) := hR.own 32 _ _ rfl rfl
                  have ro14 : A.tmps[14]? = some (.int .i64 (j : Int)) := hR.out 1 _ rfl
                  refine step_of ⟨some 104, _, _, _, _, _⟩ rfl (fun K' hK => ?_)
                  rw [if_pos (by simp [Region.wanted, yielded, r32])]
                  go_simp
                  exact hK.out _ _ ⟨_, hF.pure hok hla hpre rfl (Below.refl _ _), rfl⟩
                rcases Nat.lt_or_ge i 35 with hi | hge
                · obtain rfl := eqi hi hge
                  have p33 := hpre 33 (by kernel_rfl)
                  have e33 : s33 = .int .i64 (j : Int) := hF.get 33 _ rfl (.inr p33)
                  subst e33
                  have r33 : A.tmps[104]? = some (.int .i64 (j : Int)) := hR.own 33 _ _ rfl rfl
                  have p32 := hpre 32 (by kernel_rfl)
                  have e32 : s32 = .bool false := hF.get 32 _ rfl (.inr p32)
                  subst e32
                  have r32 : A.tmps[103]? = some (.bool false) := hR.own 32 _ _ rfl rfl
                  refine step_of ⟨some 105, _, _, _, _, _⟩ rfl (fun K' hK => ?_)
                  rw [if_pos (by simp [Region.wanted, yielded, r32])]
                  go_simp
                  exact hK.out _ _ ⟨_, hF.pure hok hla hpre rfl (Below.refl _ _), rfl⟩
                obtain rfl := eqi hi hge
                have p32 := hpre 32 (by kernel_rfl)
                have e32 : s32 = .bool false := hF.get 32 _ rfl (.inr p32)
                subst e32
                have r32 : A.tmps[103]? = some (.bool false) := hR.own 32 _ _ rfl rfl
                have ro2 : A.tmps[2]? = some (.int .i64 (n : Int)) := hR.out 4 _ rfl
                refine step_of ⟨some 106, _, _, _, _, _⟩ rfl (fun K' hK => ?_)
                rw [if_pos (by simp [Region.wanted, yielded, r32])]
                go_simp
                exact hK.out _ _ ⟨_, hF.pure hok hla hpre rfl (Below.refl _ _), rfl⟩
              rcases Nat.lt_or_ge i 42 with hi | hge
              · rcases Nat.lt_or_ge i 39 with hi | hge
                · rcases Nat.lt_or_ge i 37 with hi | hge
                  · obtain rfl := eqi hi hge
                    have p34 := hpre 34 (by kernel_rfl)
                    have e34 : s34 = .int .i64 ((j : Int) + 1) := hF.get 34 _ rfl (.inr p34)
                    subst e34
                    have r34 : A.tmps[105]? = some (.int .i64 ((j : Int) + 1)) := hR.own 34 _ _ rfl rfl
                    have p35 := hpre 35 (by kernel_rfl)
                    have e35 : s35 = .int .i64 (n : Int) := hF.get 35 _ rfl (.inr p35)
                    subst e35
                    have r35 : A.tmps[106]? = some (.int .i64 (n : Int)) := hR.own 35 _ _ rfl rfl
                    have p32 := hpre 32 (by kernel_rfl)
                    have e32 : s32 = .bool false := hF.get 32 _ rfl (.inr p32)
                    subst e32
                    have r32 : A.tmps[103]? = some (.bool false) := hR.own 32 _ _ rfl rfl
                    refine step_of ⟨some 107, _, _, _, _, _⟩ rfl (fun K' hK => ?_)
                    rw [if_pos (by simp [Region.wanted, yielded, r32])]
                    go_simp
                    exact hK.out _ _ ⟨_, hF.pure hok hla hpre rfl (Below.refl _ _), rfl⟩
                  rcases Nat.lt_or_ge i 38 with hi | hge
                  · obtain rfl := eqi hi hge
                    have p36 := hpre 36 (by kernel_rfl)
                    have e36 : s36 = .bool false := hF.get 36 _ rfl (.inr p36)
                    subst e36
                    have r36 : A.tmps[107]? = some (.bool false) := hR.own 36 _ _ rfl rfl
                    have p32 := hpre 32 (by kernel_rfl)
                    have e32 : s32 = .bool false := hF.get 32 _ rfl (.inr p32)
                    subst e32
                    have r32 : A.tmps[103]? = some (.bool false) := hR.own 32 _ _ rfl rfl
                    refine step_of ⟨some 108, _, _, _, _, _⟩ rfl (fun K' hK => ?_)
                    rw [if_pos (by simp [Region.wanted, yielded, r32])]
                    go_simp
                    exact hK.out _ _ ⟨_, hF.pure hok hla hpre rfl (Below.refl _ _), rfl⟩
                  obtain rfl := eqi hi hge
                  have p37 := hpre 37 (by kernel_rfl)
                  have e37 : s37 = .bool false := hF.get 37 _ rfl (.inr p37)
                  subst e37
                  have r37 : A.tmps[108]? = some (.bool false) := hR.own 37 _ _ rfl rfl
                  refine step_of ⟨some 109, _, _, _, _, _⟩ rfl (fun K' hK => ?_)
                  rw [if_neg (by simp [Region.wanted, yielded, r37])]
                  go_simp
                  exact hK.out _ _ ⟨_, hF.pure hok hla hpre rfl (Below.refl _ _), rfl⟩
                rcases Nat.lt_or_ge i 40 with hi | hge
                · obtain rfl := eqi hi hge
                  have p37 := hpre 37 (by kernel_rfl)
                  have e37 : s37 = .bool false := hF.get 37 _ rfl (.inr p37)
                  subst e37
                  have r37 : A.tmps[108]? = some (.bool false) := hR.own 37 _ _ rfl rfl
                  refine step_of ⟨some 110, _, _, _, _, _⟩ rfl (fun K' hK => ?_)
                  rw [if_neg (by simp [Region.wanted, yielded, r37])]
                  go_simp
                  exact hK.out _ _ ⟨_, hF.pure hok hla hpre rfl (Below.refl _ _), rfl⟩
                rcases Nat.lt_or_ge i 41 with hi | hge
                · obtain rfl := eqi hi hge
                  have p37 := hpre 37 (by kernel_rfl)
                  have e37 : s37 = .bool false := hF.get 37 _ rfl (.inr p37)
                  subst e37
                  have r37 : A.tmps[108]? = some (.bool false) := hR.own 37 _ _ rfl rfl
                  refine step_of ⟨some 111, _, _, _, _, _⟩ rfl (fun K' hK => ?_)
                  rw [if_neg (by simp [Region.wanted, yielded, r37])]
                  go_simp
                  exact hK.out _ _ ⟨_, hF.pure hok hla hpre rfl (Below.refl _ _), rfl⟩
                obtain rfl := eqi hi hge
                have p37 := hpre 37 (by kernel_rfl)
                have e37 : s37 = .bool false := hF.get 37 _ rfl (.inr p37)
                subst e37
                have r37 : A.tmps[108]? = some (.bool false) := hR.own 37 _ _ rfl rfl
                refine step_of ⟨some 112, _, _, _, _, _⟩ rfl (fun K' hK => ?_)
                rw [if_neg (by simp [Region.wanted, yielded, r37])]
                go_simp
                exact hK.out _ _ ⟨_, hF.pure hok hla hpre rfl (Below.refl _ _), rfl⟩
              rcases Nat.lt_or_ge i 45 with hi | hge
              · rcases Nat.lt_or_ge i 43 with hi | hge
                · obtain rfl := eqi hi hge
                  have p37 := hpre 37 (by kernel_rfl)
                  have e37 : s37 = .bool false := hF.get 37 _ rfl (.inr p37)
                  subst e37
                  have r37 : A.tmps[108]? = some (.bool false) := hR.own 37 _ _ rfl rfl
                  refine step_of ⟨some 113, _, _, _, _, _⟩ rfl (fun K' hK => ?_)
                  rw [if_neg (by simp [Region.wanted, yielded, r37])]
                  go_simp
                  exact hK.out _ _ ⟨_, hF.pure hok hla hpre rfl (Below.refl _ _), rfl⟩
                rcases Nat.lt_or_ge i 44 with hi | hge
                · obtain rfl := eqi hi hge
                  have p37 := hpre 37 (by kernel_rfl)
                  have e37 : s37 = .bool false := hF.get 37 _ rfl (.inr p37)
                  subst e37
                  have r37 : A.tmps[108]? = some (.bool false) := hR.own 37 _ _ rfl rfl
                  refine step_of ⟨some 114, _, _, _, _, _⟩ rfl (fun K' hK => ?_)
                  rw [if_neg (by simp [Region.wanted, yielded, r37])]
                  go_simp
                  exact hK.out _ _ ⟨_, hF.pure hok hla hpre rfl (Below.refl _ _), rfl⟩
                obtain rfl := eqi hi hge
                have p37 := hpre 37 (by kernel_rfl)
                have e37 : s37 = .bool false := hF.get 37 _ rfl (.inr p37)
                subst e37
                have r37 : A.tmps[108]? = some (.bool false) := hR.own 37 _ _ rfl rfl
                refine step_of ⟨some 115, _, _, _, _, _⟩ rfl (fun K' hK => ?_)
                rw [if_neg (by simp [Region.wanted, yielded, r37])]
                go_simp
                exact hK.out _ _ ⟨_, hF.pure hok hla hpre rfl (Below.refl _ _), rfl⟩
              rcases Nat.lt_or_ge i 47 with hi | hge
              · rcases Nat.lt_or_ge i 46 with hi | hge
                · obtain rfl := eqi hi hge
                  have p37 := hpre 37 (by kernel_rfl)
                  have e37 : s37 = .bool false := hF.get 37 _ rfl (.inr p37)
                  subst e37
                  have r37 : A.tmps[108]? = some (.bool false) := hR.own 37 _ _ rfl rfl
                  refine step_of ⟨some 116, _, _, _, _, _⟩ rfl (fun K' hK => ?_)
                  rw [if_neg (by simp [Region.wanted, yielded, r37])]
                  go_simp
                  exact hK.out _ _ ⟨_, hF.pure hok hla hpre rfl (Below.refl _ _), rfl⟩
                obtain rfl := eqi hi hge
                have p37 := hpre 37 (by kernel_rfl)
                have e37 : s37 = .bool false := hF.get 37 _ rfl (.inr p37)
                subst e37
                have r37 : A.tmps[108]? = some (.bool false) := hR.own 37 _ _ rfl rfl
                refine step_of ⟨some 117, _, _, _, _, _⟩ rfl (fun K' hK => ?_)
                rw [if_neg (by simp [Region.wanted, yielded, r37])]
                go_simp
                exact hK.out _ _ ⟨_, hF.pure hok hla hpre rfl (Below.refl _ _), rfl⟩
              rcases Nat.lt_or_ge i 48 with hi | hge
              · obtain rfl := eqi hi hge
                have p37 := hpre 37 (by kernel_rfl)
                have e37 : s37 = .bool false := hF.get 37 _ rfl (.inr p37)
                subst e37
                have r37 : A.tmps[108]? = some (.bool false) := hR.own 37 _ _ rfl rfl
                have p46 := hpre 46 (by kernel_rfl)
                have e46 : s46 = undef := hF.get 46 _ rfl (.inr p46)
                subst e46
                have r46 : A.tmps[117]? = some (undef) := hR.own 46 _ _ rfl rfl
                have p32 := hpre 32 (by kernel_rfl)
                have e32 : s32 = .bool false := hF.get 32 _ rfl (.inr p32)
                subst e32
                have r32 : A.tmps[103]? = some (.bool false) := hR.own 32 _ _ rfl rfl
                refine step_of ⟨some 118, _, _, _, _, _⟩ rfl (fun K' hK => ?_)
                rw [if_pos (by simp [Region.wanted, yielded, r32])]
                go_simp
                exact hK.out _ _ ⟨_, hF.pure hok hla hpre rfl (Below.refl _ _), rfl⟩
              obtain rfl := eqi hi hge
              have p32 := hpre 32 (by kernel_rfl)
              have e32 : s32 = .bool false := hF.get 32 _ rfl (.inr p32)
              subst e32
              have r32 : A.tmps[103]? = some (.bool false) := hR.own 32 _ _ rfl rfl
              have p47 := hpre 47 (by kernel_rfl)
              have e47 : s47 = .bool false := hF.get 47 _ rfl (.inr p47)
              subst e47
              have r47 : A.tmps[118]? = some (.bool false) := hR.own 47 _ _ rfl rfl
              refine step_of ⟨some 119, _, _, _, _, _⟩ rfl (fun K' hK => ?_)
              go_simp
              exact hK.out _ _ ⟨_, hF.pure hok hla hpre rfl (Below.refl _ _), rfl⟩
            case hd =>
              rintro listed vs W13 hF hall
              obtain ⟨s0, s1, s2, s3, s4, s5, s6, s7, s8, s9, s10, s11, s12, s13, s14, s15, s16, s17, s18, s19, s20, s21, s22, s23, s24, s25, s26, s27, s28, s29, s30, s31, s32, s33, s34, s35, s36, s37, s38, s39, s40, s41, s42, s43, s44, s45, s46, s47, s48, hvs⟩ := exl_of 49 vs (fun l => vs = l) hF.len rfl
              subst hvs
              have e48 : s48 = .bool false := hF.get 48 _ rfl (.inr (hall 48 (by decide)))
              subst e48
              have hq := below_none hF.low
              replace H9 := Lib.hid (keep_block H9.out hq)
              replace H12 := Lib.hid (keep_block H12.out hq)
              replace H13 := Lib.hid (keep_block H13.out hq)
              replace H16 := Lib.hid (keep_block H16.out hq)
              replace HI := Lib.hid (HI.out.step hq)
              clear hq
              clear hF hall hok hla hna
              refine rest_end ?_
              simp only [putO, layL]
              clear H9 H12 H13 H16 hdn
              obtain ⟨⟨x0, x1, x2, x3, x4, x5, x6, x7, x8⟩, _⟩ := nine_at HI.out.h13
              obtain ⟨⟨f0, f1⟩, _⟩ := two_at HI.out.h9
              go_wp2_with fail
              refine (TX.out _ HI.out.env).mono ?_
              rintro e w3 ⟨rfl, hq⟩
              replace HI := Lib.hid (HI.out.step hq)
              clear hq x0 x1 x2 x3 x4 x5 x6 x7 x8 f0 f1
              have L17 := Lib.hid (heap_lt HI.out.h13)
              have LLG := Lib.hid (items_in HI.out.val (by rw [itsL_len]; omega))
              have hq2 : Below w3.heap.size w3 (w3.alloc (.cells #[.string (numS xj), .string (denS xj)] 24)) := (Below.refl _ _).alloc (Nat.le_refl _) _
              have H17 := Lib.hid (heap_alloc_new w3 (.cells #[.string (numS xj), .string (denS xj)] 24))
              replace HI := Lib.hid (HI.out.step hq2)
              clear hq2
              obtain ⟨B17, hB⟩ : ∃ B, w3.heap.size = B := ⟨_, rfl⟩
              obtain ⟨W7, hW⟩ : ∃ Z, w3.alloc (.cells #[.string (numS xj), .string (denS xj)] 24) = Z := ⟨_, rfl⟩
              rw [hW] at H17 HI
              rw [hB] at H17 L17 LLG
              have EW := Lib.hid hW
              have EB := Lib.hid hB
              clear hW hB
              go_upto_region 16 with fail
              rw [EW.out, EB.out]
              clear EW EB
              obtain ⟨⟨x0, x1⟩, _⟩ := two_at H17.out
              go_wp2_with fail
              refine (TY.out _ HI.out.env).mono ?_
              rintro e w4 ⟨rfl, hq⟩
              replace HI := Lib.hid (HI.out.step hq)
              replace H17 := Lib.hid (keep_block H17.out hq)
              clear hq x0 x1
              obtain ⟨⟨x0, x1⟩, y0, y1⟩ := two_at H17.out
              go_upto_region 17 with fail
              clear x0 x1 y0 y1
              have hg : w4.grownBy ((w4.setCell ⟨B17, 0, none⟩ (.string (numS ij))).setCell ⟨B17, 1, none⟩ (.string (denS ij))) (some B17) := only_setCell (p := ⟨B17, 1, none⟩) (only_setCell (p := ⟨B17, 0, none⟩) (kept_below (Below.refl _ _)) (.inl rfl) _) (.inl rfl) _
              replace HI := Lib.hid (HI.out.kept hg L17.out LLG.out (heap_lt H17.out))
              replace H17 := Lib.hid (set2_at H17.out (.string (numS ij)) (.string (denS ij)))
              clear hg
              obtain ⟨W8, hW⟩ : ∃ Z, (w4.setCell ⟨B17, 0, none⟩ (.string (numS ij))).setCell ⟨B17, 1, none⟩ (.string (denS ij)) = Z := ⟨_, rfl⟩
              rw [hW] at HI H17 ⊢
              clear hW L17 LLG
              go_wp2_with fail
              have hok : okB 7 (PvKs17 ij lg a5 cap B17) = true := by kernel_rfl
              have hna := noAny_of (ks := (PvKs17 ij lg a5 cap B17)) (by kernel_rfl)
              have hla := lasts_of hna
              refine wp_region_facts_abs (row := none) (w := W8) 7 0 7 [] (PvKs17 ij lg a5 cap B17) [some 133, some 134, some 135, some 136, some 137, some 138, some 139] [(15, .slice (some ⟨lg, a5 * 9, none⟩) 5 (cap - a5)), (17, .pointer (some ⟨B17, 0, none⟩))] 158 (by kernel_rfl) (by kernel_rfl) (by kernel_rfl) rfl rfl (by decide) rfl (by kernel_rfl) rfl (Nat.le_of_eq rfl) rfl ?ho [u133, u134, u135, u136, u137, u138, u139] ?h00 (Fs.start rfl rfl) ?hs ?hd
              case ho =>
                intro k x hk
                match k, hk with
                | 0, hk => have hk := Option.some.inj hk; subst hk; rfl
                | 1, hk => have hk := Option.some.inj hk; subst hk; rfl
                | _ + 2, hk => exact absurd hk (by simp)
              case h00 => simp only [putO, layL]
              case hs =>
                rintro A listed vs Wr hF hR i hi hun hpre
                obtain ⟨s0, s1, s2, s3, s4, s5, s6, hvs⟩ := exl_of 7 vs (fun l => vs = l) hF.len rfl
                subst hvs
                have hge := Nat.zero_le i
                rcases Nat.lt_or_ge i 3 with hi | hge
                · rcases Nat.lt_or_ge i 1 with hi | hge
                  · obtain rfl := eqi hi hge
                    have ro15 : A.tmps[15]? = some (.slice (some ⟨lg, a5 * 9, none⟩) 5 (cap - a5)) := hR.out 0 _ rfl
                    refine step_of ⟨some 133, _, _, _, _, _⟩ rfl (fun K' hK => ?_)
                    go_simp
                    exact hK.out _ _ ⟨_, hF.pure hok hla hpre rfl (Below.refl _ _), rfl⟩
                  rcases Nat.lt_or_ge i 2 with hi | hge
                  · obtain rfl := eqi hi hge
                    have p0 := hpre 0 (by kernel_rfl)
                    have e0 : s0 = .slice (some ⟨lg, a5 * 9, none⟩) 5 (cap - a5) := hF.get 0 _ rfl (.inr p0)
                    subst e0
                    have r0 : A.tmps[133]? = some (.slice (some ⟨lg, a5 * 9, none⟩) 5 (cap - a5)) := hR.own 0 _ _ rfl rfl
                    refine step_of ⟨some 134, _, _, _, _, _⟩ rfl (fun K' hK => ?_)
                    go_simp
                    exact hK.out _ _ ⟨_, hF.pure hok hla hpre rfl (Below.refl _ _), rfl⟩
                  obtain rfl := eqi hi hge
                  have p1 := hpre 1 (by kernel_rfl)
                  have e1 : s1 = .pointer (some ⟨lg, a5 * 9 + 18, none⟩) := hF.get 1 _ rfl (.inr p1)
                  subst e1
                  have r1 : A.tmps[134]? = some (.pointer (some ⟨lg, a5 * 9 + 18, none⟩)) := hR.own 1 _ _ rfl rfl
                  obtain ⟨j0, j1, j2, j3, j4, j5, j6, j7, j8⟩ := Off.item_at (HRW.out _ (HI.out.step (below_none hF.low)).val) 2 (by simp) ij rfl
                  simp only [Nat.reduceMul, Nat.add_assoc, Nat.reduceAdd, Nat.add_zero] at j0 j1 j2 j3 j4 j5 j6 j7 j8
                  refine step_of ⟨some 135, _, _, _, _, _⟩ rfl (fun K' hK => ?_)
                  go_simp
                  exact hK.out _ _ ⟨_, hF.pure hok hla hpre rfl (Below.refl _ _), rfl⟩
                rcases Nat.lt_or_ge i 5 with hi | hge
                · rcases Nat.lt_or_ge i 4 with hi | hge
                  · obtain rfl := eqi hi hge
                    have ro17 : A.tmps[17]? = some (.pointer (some ⟨B17, 0, none⟩)) := hR.out 1 _ rfl
                    have hcc := (two_at (keep_block H17.out (below_none hF.low))).1
                    have cH170 := hcc.1
                    have cH171 := hcc.2
                    clear hcc
                    refine step_of ⟨some 136, _, _, _, _, _⟩ rfl (fun K' hK => ?_)
                    go_simp
                    exact hK.out _ _ ⟨_, hF.pure hok hla hpre rfl (Below.refl _ _), rfl⟩
                  obtain rfl := eqi hi hge
                  have p3 := hpre 3 (by kernel_rfl)
                  have e3 : s3 = .agg #[.string (numS ij), .string (denS ij)] := hF.get 3 _ rfl (.inr p3)
                  subst e3
                  have r3 : A.tmps[136]? = some (.agg #[.string (numS ij), .string (denS ij)]) := hR.own 3 _ _ rfl rfl
                  refine step_of ⟨some 137, _, _, _, _, _⟩ rfl (fun K' hK => ?_)
                  go_simp
                  go_at_call 6
                  (with_reducible refine (TN.out _ (HI.out.step (below_none hF.low)).env).mono ?_)
                  rintro e Wq ⟨rfl, hq⟩
                  exact hK.out _ _ ⟨_, hF.pure hok hla hpre rfl hq, rfl⟩
                rcases Nat.lt_or_ge i 6 with hi | hge
                · obtain rfl := eqi hi hge
                  have p2 := hpre 2 (by kernel_rfl)
                  have e2 : s2 = .agg #[.int .i64 1, .string (numS ij), .string (denS ij), .string { data := #[] }, .bool false, .int .i64 0, .int .i64 0, .int .i64 0, .slice none 0 0] := hF.get 2 _ rfl (.inr p2)
                  subst e2
                  have r2 : A.tmps[135]? = some (.agg #[.int .i64 1, .string (numS ij), .string (denS ij), .string { data := #[] }, .bool false, .int .i64 0, .int .i64 0, .int .i64 0, .slice none 0 0]) := hR.own 2 _ _ rfl rfl
                  have p4 := hpre 4 (by kernel_rfl)
                  have e4 : s4 = .agg #[.int .i64 1, .string (numS ij), .string (denS ij), .string { data := #[] }, .bool false, .int .i64 0, .int .i64 0, .int .i64 0, .slice none 0 0] := hF.get 4 _ rfl (.inr p4)
                  subst e4
                  have r4 : A.tmps[137]? = some (.agg #[.int .i64 1, .string (numS ij), .string (denS ij), .string { data := #[] }, .bool false, .int .i64 0, .int .i64 0, .int .i64 0, .slice none 0 0]) := hR.own 4 _ _ rfl rfl
                  refine step_of ⟨some 138, _, _, _, _, _⟩ rfl (fun K' hK => ?_)
                  go_simp
                  go_at_call 11
                  (with_reducible refine (same_one ij _).mono ?_)
                  rintro e Wq ⟨rfl, hq⟩
                  exact hK.out _ _ ⟨_, hF.pure hok hla hpre rfl hq, rfl⟩
                obtain rfl := eqi hi hge
                have p5 := hpre 5 (by kernel_rfl)
                have e5 : s5 = .bool true := hF.get 5 _ rfl (.inr p5)
                subst e5
                have r5 : A.tmps[138]? = some (.bool true) := hR.own 5 _ _ rfl rfl
                refine step_of ⟨some 139, _, _, _, _, _⟩ rfl (fun K' hK => ?_)
                go_simp
                exact hK.out _ _ ⟨_, hF.pure hok hla hpre rfl (Below.refl _ _), rfl⟩
              case hd =>
                rintro listed vs W17 hF hall
                obtain ⟨s0, s1, s2, s3, s4, s5, s6, hvs⟩ := exl_of 7 vs (fun l => vs = l) hF.len rfl
                subst hvs
                have e6 : s6 = .bool false := hF.get 6 _ rfl (.inr (hall 6 (by decide)))
                subst e6
                have hq := below_none hF.low
                replace H17 := Lib.hid (keep_block H17.out hq)
                replace HI := Lib.hid (HI.out.step hq)
                clear hq
                clear hF hall hok hla hna
                refine rest_end ?_
                simp only [putO, layL]
                obtain ⟨j0, j1, j2, j3, j4, j5, j6, j7, j8⟩ := Off.item_at (HRW.out _ HI.out.val) 4 (by simp) wj rfl
                simp only [Nat.reduceMul, Nat.add_assoc, Nat.reduceAdd, Nat.add_zero] at j0 j1 j2 j3 j4 j5 j6 j7 j8
                obtain ⟨⟨x0, x1, x2, x3, x4, x5, x6, x7, x8⟩, y0, y1, y2, y3, y4, y5, y6, y7, y8⟩ := nine_at HI.out.h13
                have HS := Lib.hid (HI.out.store wj)
                have HS2 := Lib.hid (show wj = Vs (j + 1) from HVN.out)
                clear H17 HI TA TB TX TY TP TW TN HRW HA1 HVN
                go_upto_region 20 with fail
                clear x0 x1 x2 x3 x4 x5 x6 x7 x8 y0 y1 y2 y3 y4 y5 y6 y7 y8 j0 j1 j2 j3 j4 j5 j6 j7 j8
                go_wp2
                go_roundg (n - (j + 1))
                case measure => omega
                case rel => exact ⟨j + 1, by go_num, by omega, by omega, by rw [← HS2.out]; exact HS.out⟩
      · skip
        have hd : decide ((j : Int) < (n : Int)) = false := decide_eq_false (by omega)
        have hd2 : decide (j < n) = false := decide_eq_false hlt
        have hjn : j = n := by omega
        rw [hjn, QhVz.out] at HI
        clear hlt hj
        obtain ⟨c0, hc0⟩ : ∃ x, Cs 0 = x := ⟨_, rfl⟩
        rw [hc0] at QpI1 QpS1
        clear hc0 hjn
        have H11 := Lib.hid HI.out.h11
        have H12 := Lib.hid HI.out.h12
        have H13 := Lib.hid HI.out.h13
        rcases (show n = 1 ∨ 2 ≤ n by omega) with hone | htwo
        · skip
          have TI := Lib.hid (QpI1.out hone)
          have TS := Lib.hid (QpS1.out hone)
          clear hone
          go_wp2_with fail
          have hok : okB 15 (PzKs21 lq z four c0 n lg cap B11 b12 B13 cs) = true := by kernel_rfl
          have hna := noAny_of (ks := (PzKs21 lq z four c0 n lg cap B11 b12 B13 cs)) (by kernel_rfl)
          have hla := lasts_of hna
          refine wp_region_facts_abs (row := none) (w := wr) 15 0 15 [] (PzKs21 lq z four c0 n lg cap B11 b12 B13 cs) [some 144, some 145, some 146, some 147, some 148, some 149, some 150, some 151, some 152, some 153, some 154, some 155, some 156, some 157, some 8] [(13, .pointer (some ⟨B13, 0, none⟩)), (12, .pointer (some ⟨b12, 0, none⟩)), (11, .pointer (some ⟨B11, 0, none⟩))] 158 (by kernel_rfl) (by kernel_rfl) (by kernel_rfl) rfl rfl (by decide) rfl (by kernel_rfl) rfl (Nat.le_of_eq rfl) rfl ?ho [undef, undef, undef, undef, undef, undef, undef, undef, undef, undef, undef, undef, undef, undef, u8] ?h00 (Fs.start rfl rfl) ?hs ?hd
          case ho =>
            intro k x hk
            match k, hk with
            | 0, hk => have hk := Option.some.inj hk; subst hk; rfl
            | 1, hk => have hk := Option.some.inj hk; subst hk; rfl
            | 2, hk => have hk := Option.some.inj hk; subst hk; rfl
            | _ + 3, hk => exact absurd hk (by simp)
          case h00 => simp only [putO, layL]
          case hs =>
            rintro A listed vs Wr hF hR i hi hun hpre
            obtain ⟨s0, s1, s2, s3, s4, s5, s6, s7, s8, s9, s10, s11, s12, s13, s14, hvs⟩ := exl_of 15 vs (fun l => vs = l) hF.len rfl
            subst hvs
            have hge := Nat.zero_le i
            rcases Nat.lt_or_ge i 7 with hi | hge
            · rcases Nat.lt_or_ge i 3 with hi | hge
              · rcases Nat.lt_or_ge i 1 with hi | hge
                · obtain rfl := eqi hi hge
                  have ro13 : A.tmps[13]? = some (.pointer (some ⟨B13, 0, none⟩)) := hR.out 0 _ rfl
                  have hcc := (nine_at (keep_block H13.out (below_none hF.low))).1
                  have cH130 := hcc.1
                  have cH131 := hcc.2.1
                  have cH132 := hcc.2.2.1
                  have cH133 := hcc.2.2.2.1
                  have cH134 := hcc.2.2.2.2.1
                  have cH135 := hcc.2.2.2.2.2.1
                  have cH136 := hcc.2.2.2.2.2.2.1
                  have cH137 := hcc.2.2.2.2.2.2.2.1
                  have cH138 := hcc.2.2.2.2.2.2.2.2
                  clear hcc
                  refine step_of ⟨some 144, _, _, _, _, _⟩ rfl (fun K' hK => ?_)
                  go_simp
                  exact hK.out _ _ ⟨_, hF.pure hok hla hpre rfl (Below.refl _ _), rfl⟩
                rcases Nat.lt_or_ge i 2 with hi | hge
                · obtain rfl := eqi hi hge
                  refine step_of ⟨some 145, _, _, _, _, _⟩ rfl (fun K' hK => ?_)
                  go_simp
                  go_at_call 9
                  (with_reducible refine (QtW0.out _ (HI.out.step (below_none hF.low)).env).mono ?_)
                  rintro e Wq ⟨rfl, hq⟩
                  exact hK.out _ _ ⟨_, hF.pure hok hla hpre rfl hq, rfl⟩
                obtain rfl := eqi hi hge
                have p0 := hpre 0 (by kernel_rfl)
                have e0 : s0 = .agg #[.int .i64 1, .string (numS z), .string (denS z), .string { data := #[] }, .bool false, .int .i64 0, .int .i64 0, .int .i64 0, .slice none 0 0] := hF.get 0 _ rfl (.inr p0)
                subst e0
                have r0 : A.tmps[144]? = some (.agg #[.int .i64 1, .string (numS z), .string (denS z), .string { data := #[] }, .bool false, .int .i64 0, .int .i64 0, .int .i64 0, .slice none 0 0]) := hR.own 0 _ _ rfl rfl
                have p1 := hpre 1 (by kernel_rfl)
                have e1 : s1 = .agg #[.int .i64 1, .string (numS z), .string (denS z), .string { data := #[] }, .bool false, .int .i64 0, .int .i64 0, .int .i64 0, .slice none 0 0] := hF.get 1 _ rfl (.inr p1)
                subst e1
                have r1 : A.tmps[145]? = some (.agg #[.int .i64 1, .string (numS z), .string (denS z), .string { data := #[] }, .bool false, .int .i64 0, .int .i64 0, .int .i64 0, .slice none 0 0]) := hR.own 1 _ _ rfl rfl
                refine step_of ⟨some 146, _, _, _, _, _⟩ rfl (fun K' hK => ?_)
                go_simp
                go_at_call 11
                (with_reducible refine (same_one z _).mono ?_)
                rintro e Wq ⟨rfl, hq⟩
                exact hK.out _ _ ⟨_, hF.pure hok hla hpre rfl hq, rfl⟩
              rcases Nat.lt_or_ge i 5 with hi | hge
              · rcases Nat.lt_or_ge i 4 with hi | hge
                · obtain rfl := eqi hi hge
                  have p2 := hpre 2 (by kernel_rfl)
                  have e2 : s2 = .bool true := hF.get 2 _ rfl (.inr p2)
                  subst e2
                  have r2 : A.tmps[146]? = some (.bool true) := hR.own 2 _ _ rfl rfl
                  refine step_of ⟨some 147, _, _, _, _, _⟩ rfl (fun K' hK => ?_)
                  go_simp
                  exact hK.out _ _ ⟨_, hF.pure hok hla hpre rfl (Below.refl _ _), rfl⟩
                obtain rfl := eqi hi hge
                have p3 := hpre 3 (by kernel_rfl)
                have e3 : s3 = .bool true := hF.get 3 _ rfl (.inr p3)
                subst e3
                have r3 : A.tmps[147]? = some (.bool true) := hR.own 3 _ _ rfl rfl
                have ro12 : A.tmps[12]? = some (.pointer (some ⟨b12, 0, none⟩)) := hR.out 1 _ rfl
                have hcc := (nine_at (keep_block H12.out (below_none hF.low))).1
                have cH120 := hcc.1
                have cH121 := hcc.2.1
                have cH122 := hcc.2.2.1
                have cH123 := hcc.2.2.2.1
                have cH124 := hcc.2.2.2.2.1
                have cH125 := hcc.2.2.2.2.2.1
                have cH126 := hcc.2.2.2.2.2.2.1
                have cH127 := hcc.2.2.2.2.2.2.2.1
                have cH128 := hcc.2.2.2.2.2.2.2.2
                clear hcc
                refine step_of ⟨some 148, _, _, _, _, _⟩ rfl (fun K' hK => ?_)
                rw [if_pos (by simp [Region.wanted, yielded, r3])]
                go_simp
                exact hK.out _ _ ⟨_, hF.pure hok hla hpre rfl (Below.refl _ _), rfl⟩
              rcases Nat.lt_or_ge i 6 with hi | hge
              · obtain rfl := eqi hi hge
                have p3 := hpre 3 (by kernel_rfl)
                have e3 : s3 = .bool true := hF.get 3 _ rfl (.inr p3)
                subst e3
                have r3 : A.tmps[147]? = some (.bool true) := hR.own 3 _ _ rfl rfl
                refine step_of ⟨some 149, _, _, _, _, _⟩ rfl (fun K' hK => ?_)
                rw [if_pos (by simp [Region.wanted, yielded, r3])]
                go_simp
                go_at_call 9
                (with_reducible refine (QtW0.out _ (HI.out.step (below_none hF.low)).env).mono ?_)
                rintro e Wq ⟨rfl, hq⟩
                exact hK.out _ _ ⟨_, hF.pure hok hla hpre rfl hq, rfl⟩
              obtain rfl := eqi hi hge
              have p3 := hpre 3 (by kernel_rfl)
              have e3 : s3 = .bool true := hF.get 3 _ rfl (.inr p3)
              subst e3
              have r3 : A.tmps[147]? = some (.bool true) := hR.own 3 _ _ rfl rfl
              refine step_of ⟨some 150, _, _, _, _, _⟩ rfl (fun K' hK => ?_)
              rw [if_pos (by simp [Region.wanted, yielded, r3])]
              go_simp
              go_at_call 9
              (with_reducible refine (QtW4.out _ (HI.out.step (below_none hF.low)).env).mono ?_)
              rintro e Wq ⟨rfl, hq⟩
              exact hK.out _ _ ⟨_, hF.pure hok hla hpre rfl hq, rfl⟩
            rcases Nat.lt_or_ge i 11 with hi | hge
            · rcases Nat.lt_or_ge i 9 with hi | hge
              · rcases Nat.lt_or_ge i 8 with hi | hge
                · obtain rfl := eqi hi hge
                  have p4 := hpre 4 (by kernel_rfl)
                  have e4 : s4 = .agg #[.int .i64 5, .string { data := #[] }, .string { data := #[] }, .string { data := #[] }, .bool false, .int .i64 0, .int .i64 (n : Int), .int .i64 5, .slice (some ⟨lg, 0, none⟩) (n * 5) cap] := hF.get 4 _ rfl (.inr p4)
                  subst e4
                  have r4 : A.tmps[148]? = some (.agg #[.int .i64 5, .string { data := #[] }, .string { data := #[] }, .string { data := #[] }, .bool false, .int .i64 0, .int .i64 (n : Int), .int .i64 5, .slice (some ⟨lg, 0, none⟩) (n * 5) cap]) := hR.own 4 _ _ rfl rfl
                  have p5 := hpre 5 (by kernel_rfl)
                  have e5 : s5 = .agg #[.int .i64 1, .string (numS z), .string (denS z), .string { data := #[] }, .bool false, .int .i64 0, .int .i64 0, .int .i64 0, .slice none 0 0] := hF.get 5 _ rfl (.inr p5)
                  subst e5
                  have r5 : A.tmps[149]? = some (.agg #[.int .i64 1, .string (numS z), .string (denS z), .string { data := #[] }, .bool false, .int .i64 0, .int .i64 0, .int .i64 0, .slice none 0 0]) := hR.own 5 _ _ rfl rfl
                  have p6 := hpre 6 (by kernel_rfl)
                  have e6 : s6 = .agg #[.int .i64 1, .string (numS four), .string (denS four), .string { data := #[] }, .bool false, .int .i64 0, .int .i64 0, .int .i64 0, .slice none 0 0] := hF.get 6 _ rfl (.inr p6)
                  subst e6
                  have r6 : A.tmps[150]? = some (.agg #[.int .i64 1, .string (numS four), .string (denS four), .string { data := #[] }, .bool false, .int .i64 0, .int .i64 0, .int .i64 0, .slice none 0 0]) := hR.own 6 _ _ rfl rfl
                  have p3 := hpre 3 (by kernel_rfl)
                  have e3 : s3 = .bool true := hF.get 3 _ rfl (.inr p3)
                  subst e3
                  have r3 : A.tmps[147]? = some (.bool true) := hR.own 3 _ _ rfl rfl
                  refine step_of ⟨some 151, _, _, _, _, _⟩ rfl (fun K' hK => ?_)
                  rw [if_pos (by simp [Region.wanted, yielded, r3])]
                  go_simp
                  exact hK.out _ _ ⟨_, hF.row hok hla hpre rfl, rfl⟩
                obtain rfl := eqi hi hge
                have p7 := hpre 7 (by kernel_rfl)
                obtain ⟨G7, eG7, _, hGB7⟩ : ∃ G, s7 = .slice (some ⟨G, 0, none⟩) 3 3 ∧ _ ≤ G ∧ Wr.heap[G]? = some (.cells #[.int .i64 5, .string { data := #[] }, .string { data := #[] }, .string { data := #[] }, .bool false, .int .i64 0, .int .i64 (n : Int), .int .i64 5, .slice (some ⟨lg, 0, none⟩) (n * 5) cap, .int .i64 1, .string (numS z), .string (denS z), .string { data := #[] }, .bool false, .int .i64 0, .int .i64 0, .int .i64 0, .slice none 0 0, .int .i64 1, .string (numS four), .string (denS four), .string { data := #[] }, .bool false, .int .i64 0, .int .i64 0, .int .i64 0, .slice none 0 0] 30 (0, 0)) := hF.get 7 _ rfl (.inr p7)
                subst eG7
                have r7 : A.tmps[151]? = some (.slice (some ⟨G7, 0, none⟩) 3 3) := hR.own 7 _ _ rfl rfl
                have p3 := hpre 3 (by kernel_rfl)
                have e3 : s3 = .bool true := hF.get 3 _ rfl (.inr p3)
                subst e3
                have r3 : A.tmps[147]? = some (.bool true) := hR.own 3 _ _ rfl rfl
                refine step_of ⟨some 152, _, _, _, _, _⟩ rfl (fun K' hK => ?_)
                rw [if_pos (by simp [Region.wanted, yielded, r3])]
                go_simp
                go_at_call 15
                (with_reducible refine (IxC1.on TI.out _ G7 lg cap hGB7 (HI.out.step (below_none hF.low)).val (HI.out.step (below_none hF.low)).env).mono ?_)
                rintro e Wq ⟨rfl, hq⟩
                exact hK.out _ _ ⟨_, hF.pure hok hla hpre rfl hq, rfl⟩
              rcases Nat.lt_or_ge i 10 with hi | hge
              · obtain rfl := eqi hi hge
                have p8 := hpre 8 (by kernel_rfl)
                have e8 : s8 = .agg #[.int .i64 1, .string (numS c0), .string (denS c0), .string { data := #[] }, .bool false, .int .i64 0, .int .i64 0, .int .i64 0, .slice none 0 0] := hF.get 8 _ rfl (.inr p8)
                subst e8
                have r8 : A.tmps[152]? = some (.agg #[.int .i64 1, .string (numS c0), .string (denS c0), .string { data := #[] }, .bool false, .int .i64 0, .int .i64 0, .int .i64 0, .slice none 0 0]) := hR.own 8 _ _ rfl rfl
                have p3 := hpre 3 (by kernel_rfl)
                have e3 : s3 = .bool true := hF.get 3 _ rfl (.inr p3)
                subst e3
                have r3 : A.tmps[147]? = some (.bool true) := hR.own 3 _ _ rfl rfl
                refine step_of ⟨some 153, _, _, _, _, _⟩ rfl (fun K' hK => ?_)
                rw [if_pos (by simp [Region.wanted, yielded, r3])]
                go_simp
                exact hK.out _ _ ⟨_, hF.row hok hla hpre rfl, rfl⟩
              obtain rfl := eqi hi hge
              have p9 := hpre 9 (by kernel_rfl)
              obtain ⟨G9, eG9, _, hGB9⟩ : ∃ G, s9 = .slice (some ⟨G, 0, none⟩) 1 1 ∧ _ ≤ G ∧ Wr.heap[G]? = some (.cells #[.int .i64 1, .string (numS c0), .string (denS c0), .string { data := #[] }, .bool false, .int .i64 0, .int .i64 0, .int .i64 0, .slice none 0 0] 30 (0, 0)) := hF.get 9 _ rfl (.inr p9)
              subst eG9
              have r9 : A.tmps[153]? = some (.slice (some ⟨G9, 0, none⟩) 1 1) := hR.own 9 _ _ rfl rfl
              have p3 := hpre 3 (by kernel_rfl)
              have e3 : s3 = .bool true := hF.get 3 _ rfl (.inr p3)
              subst e3
              have r3 : A.tmps[147]? = some (.bool true) := hR.own 3 _ _ rfl rfl
              refine step_of ⟨some 154, _, _, _, _, _⟩ rfl (fun K' hK => ?_)
              rw [if_pos (by simp [Region.wanted, yielded, r3])]
              go_simp
              go_at_call 10
              (with_reducible refine (SmC1.on TS.out _ G9 hGB9 (HI.out.step (below_none hF.low)).env).mono ?_)
              rintro e Wq ⟨rfl, hq⟩
              exact hK.out _ _ ⟨_, hF.pure hok hla hpre rfl hq, rfl⟩
            rcases Nat.lt_or_ge i 13 with hi | hge
            · rcases Nat.lt_or_ge i 12 with hi | hge
              · obtain rfl := eqi hi hge
                have p3 := hpre 3 (by kernel_rfl)
                have e3 : s3 = .bool true := hF.get 3 _ rfl (.inr p3)
                subst e3
                have r3 : A.tmps[147]? = some (.bool true) := hR.own 3 _ _ rfl rfl
                have ro11 : A.tmps[11]? = some (.pointer (some ⟨B11, 0, none⟩)) := hR.out 2 _ rfl
                have hcc := (nine_at (keep_block H11.out (below_none hF.low))).1
                have cH110 := hcc.1
                have cH111 := hcc.2.1
                have cH112 := hcc.2.2.1
                have cH113 := hcc.2.2.2.1
                have cH114 := hcc.2.2.2.2.1
                have cH115 := hcc.2.2.2.2.2.1
                have cH116 := hcc.2.2.2.2.2.2.1
                have cH117 := hcc.2.2.2.2.2.2.2.1
                have cH118 := hcc.2.2.2.2.2.2.2.2
                clear hcc
                refine step_of ⟨some 155, _, _, _, _, _⟩ rfl (fun K' hK => ?_)
                rw [if_pos (by simp [Region.wanted, yielded, r3])]
                go_simp
                exact hK.out _ _ ⟨_, hF.pure hok hla hpre rfl (Below.refl _ _), rfl⟩
              obtain rfl := eqi hi hge
              have p10 := hpre 10 (by kernel_rfl)
              have e10 : s10 = .agg #[.int .i64 1, .string (numS lq), .string (denS lq), .string { data := #[] }, .bool false, .int .i64 0, .int .i64 0, .int .i64 0, .slice none 0 0] := hF.get 10 _ rfl (.inr p10)
              subst e10
              have r10 : A.tmps[154]? = some (.agg #[.int .i64 1, .string (numS lq), .string (denS lq), .string { data := #[] }, .bool false, .int .i64 0, .int .i64 0, .int .i64 0, .slice none 0 0]) := hR.own 10 _ _ rfl rfl
              have p11 := hpre 11 (by kernel_rfl)
              have e11 : s11 = .agg #[.int .i64 1, .string (numS lq), .string (denS lq), .string { data := #[] }, .bool false, .int .i64 0, .int .i64 0, .int .i64 0, .slice none 0 0] := hF.get 11 _ rfl (.inr p11)
              subst e11
              have r11 : A.tmps[155]? = some (.agg #[.int .i64 1, .string (numS lq), .string (denS lq), .string { data := #[] }, .bool false, .int .i64 0, .int .i64 0, .int .i64 0, .slice none 0 0]) := hR.own 11 _ _ rfl rfl
              have p3 := hpre 3 (by kernel_rfl)
              have e3 : s3 = .bool true := hF.get 3 _ rfl (.inr p3)
              subst e3
              have r3 : A.tmps[147]? = some (.bool true) := hR.own 3 _ _ rfl rfl
              refine step_of ⟨some 156, _, _, _, _, _⟩ rfl (fun K' hK => ?_)
              rw [if_pos (by simp [Region.wanted, yielded, r3])]
              go_simp
              go_at_call 11
              (with_reducible refine (same_one lq _).mono ?_)
              rintro e Wq ⟨rfl, hq⟩
              exact hK.out _ _ ⟨_, hF.pure hok hla hpre rfl hq, rfl⟩
            rcases Nat.lt_or_ge i 14 with hi | hge
            · obtain rfl := eqi hi hge
              have p3 := hpre 3 (by kernel_rfl)
              have e3 : s3 = .bool true := hF.get 3 _ rfl (.inr p3)
              subst e3
              have r3 : A.tmps[147]? = some (.bool true) := hR.own 3 _ _ rfl rfl
              have p12 := hpre 12 (by kernel_rfl)
              have e12 : s12 = .bool true := hF.get 12 _ rfl (.inr p12)
              subst e12
              have r12 : A.tmps[156]? = some (.bool true) := hR.own 12 _ _ rfl rfl
              refine step_of ⟨some 157, _, _, _, _, _⟩ rfl (fun K' hK => ?_)
              go_simp
              exact hK.out _ _ ⟨_, hF.pure hok hla hpre rfl (Below.refl _ _), rfl⟩
            obtain rfl := eqi hi hge
            have p13 := hpre 13 (by kernel_rfl)
            have e13 : s13 = .bool true := hF.get 13 _ rfl (.inr p13)
            subst e13
            have r13 : A.tmps[157]? = some (.bool true) := hR.own 13 _ _ rfl rfl
            refine step_of ⟨some 8, _, _, _, _, _⟩ rfl (fun K' hK => ?_)
            go_simp
            exact hK.out _ _ ⟨_, hF.pure hok hla hpre rfl (Below.refl _ _), rfl⟩
          case hd =>
            rintro listed vs W21 hF hall
            obtain ⟨s0, s1, s2, s3, s4, s5, s6, s7, s8, s9, s10, s11, s12, s13, s14, hvs⟩ := exl_of 15 vs (fun l => vs = l) hF.len rfl
            subst hvs
            have e14 : s14 = .bool true := hF.get 14 _ rfl (.inr (hall 14 (by decide)))
            subst e14
            have hq := below_none hF.low
            replace H11 := Lib.hid (keep_block H11.out hq)
            replace H12 := Lib.hid (keep_block H12.out hq)
            replace H13 := Lib.hid (keep_block H13.out hq)
            replace HI := Lib.hid (HI.out.step hq)
            clear hq
            clear hF hall hok hla hna
            refine rest_end ?_
            simp only [putO, layL]
            go_wp2
            go_ret
            exact ⟨rfl, HI.out.low⟩
        · skip
          have TI := Lib.hid (QpI.out htwo)
          have TS := Lib.hid (QpS.out htwo)
          clear htwo
          go_wp2_with fail
          have hok : okB 15 (PyKs21 lq z four c0 n lg cap B11 b12 B13 cs) = true := by kernel_rfl
          have hla : ∀ (ix : Nat) (kx : RK), (PyKs21 lq z four c0 n lg cap B11 b12 B13 cs)[ix]? = some kx → kx.lasts := by
            intro ix kx hk
            match ix, hk with
            | 0, hk => have hk := Option.some.inj hk; subst hk; exact trivial
            | 1, hk => have hk := Option.some.inj hk; subst hk; exact trivial
            | 2, hk => have hk := Option.some.inj hk; subst hk; exact trivial
            | 3, hk => have hk := Option.some.inj hk; subst hk; exact trivial
            | 4, hk => have hk := Option.some.inj hk; subst hk; exact trivial
            | 5, hk => have hk := Option.some.inj hk; subst hk; exact trivial
            | 6, hk => have hk := Option.some.inj hk; subst hk; exact trivial
            | 7, hk => have hk := Option.some.inj hk; subst hk; exact trivial
            | 8, hk => have hk := Option.some.inj hk; subst hk; exact (by first | exact tabR_lasts | exact colR_lasts | exact colRow_lasts)
            | 9, hk => have hk := Option.some.inj hk; subst hk; exact (by first | exact tabR_lasts | exact colR_lasts | exact colRow_lasts)
            | 10, hk => have hk := Option.some.inj hk; subst hk; exact trivial
            | 11, hk => have hk := Option.some.inj hk; subst hk; exact trivial
            | 12, hk => have hk := Option.some.inj hk; subst hk; exact trivial
            | 13, hk => have hk := Option.some.inj hk; subst hk; exact trivial
            | 14, hk => have hk := Option.some.inj hk; subst hk; exact trivial
            | _ + 15, hk => exact absurd hk (by simp [PyKs21])
          refine wp_region_facts_abs (row := none) (w := wr) 15 0 15 [] (PyKs21 lq z four c0 n lg cap B11 b12 B13 cs) [some 144, some 145, some 146, some 147, some 148, some 149, some 150, some 151, some 152, some 153, some 154, some 155, some 156, some 157, some 8] [(13, .pointer (some ⟨B13, 0, none⟩)), (12, .pointer (some ⟨b12, 0, none⟩)), (11, .pointer (some ⟨B11, 0, none⟩))] 158 (by kernel_rfl) (by kernel_rfl) (by kernel_rfl) rfl rfl (by decide) rfl (by kernel_rfl) rfl (Nat.le_of_eq rfl) rfl ?ho [undef, undef, undef, undef, undef, undef, undef, undef, undef, undef, undef, undef, undef, undef, u8] ?h00 (Fs.start rfl rfl) ?hs ?hd
          case ho =>
            intro k x hk
            match k, hk with
            | 0, hk => have hk := Option.some.inj hk; subst hk; rfl
            | 1, hk => have hk := Option.some.inj hk; subst hk; rfl
            | 2, hk => have hk := Option.some.inj hk; subst hk; rfl
            | _ + 3, hk => exact absurd hk (by simp)
          case h00 => simp only [putO, layL]
          case hs =>
            rintro A listed vs Wr hF hR i hi hun hpre
            obtain ⟨s0, s1, s2, s3, s4, s5, s6, s7, s8, s9, s10, s11, s12, s13, s14, hvs⟩ := exl_of 15 vs (fun l => vs = l) hF.len rfl
            subst hvs
            have hge := Nat.zero_le i
            rcases Nat.lt_or_ge i 7 with hi | hge
            · rcases Nat.lt_or_ge i 3 with hi | hge
              · rcases Nat.lt_or_ge i 1 with hi | hge
                · obtain rfl := eqi hi hge
                  have ro13 : A.tmps[13]? = some (.pointer (some ⟨B13, 0, none⟩)) := hR.out 0 _ rfl
                  have hcc := (nine_at (keep_block H13.out (below_none hF.low))).1
                  have cH130 := hcc.1
                  have cH131 := hcc.2.1
                  have cH132 := hcc.2.2.1
                  have cH133 := hcc.2.2.2.1
                  have cH134 := hcc.2.2.2.2.1
                  have cH135 := hcc.2.2.2.2.2.1
                  have cH136 := hcc.2.2.2.2.2.2.1
                  have cH137 := hcc.2.2.2.2.2.2.2.1
                  have cH138 := hcc.2.2.2.2.2.2.2.2
                  clear hcc
                  refine step_of ⟨some 144, _, _, _, _, _⟩ rfl (fun K' hK => ?_)
                  go_simp
                  exact hK.out _ _ ⟨_, hF.pure hok hla hpre rfl (Below.refl _ _), rfl⟩
                rcases Nat.lt_or_ge i 2 with hi | hge
                · obtain rfl := eqi hi hge
                  refine step_of ⟨some 145, _, _, _, _, _⟩ rfl (fun K' hK => ?_)
                  go_simp
                  go_at_call 9
                  (with_reducible refine (QtW0.out _ (HI.out.step (below_none hF.low)).env).mono ?_)
                  rintro e Wq ⟨rfl, hq⟩
                  exact hK.out _ _ ⟨_, hF.pure hok hla hpre rfl hq, rfl⟩
                obtain rfl := eqi hi hge
                have p0 := hpre 0 (by kernel_rfl)
                have e0 : s0 = .agg #[.int .i64 1, .string (numS z), .string (denS z), .string { data := #[] }, .bool false, .int .i64 0, .int .i64 0, .int .i64 0, .slice none 0 0] := hF.get 0 _ rfl (.inr p0)
                subst e0
                have r0 : A.tmps[144]? = some (.agg #[.int .i64 1, .string (numS z), .string (denS z), .string { data := #[] }, .bool false, .int .i64 0, .int .i64 0, .int .i64 0, .slice none 0 0]) := hR.own 0 _ _ rfl rfl
                have p1 := hpre 1 (by kernel_rfl)
                have e1 : s1 = .agg #[.int .i64 1, .string (numS z), .string (denS z), .string { data := #[] }, .bool false, .int .i64 0, .int .i64 0, .int .i64 0, .slice none 0 0] := hF.get 1 _ rfl (.inr p1)
                subst e1
                have r1 : A.tmps[145]? = some (.agg #[.int .i64 1, .string (numS z), .string (denS z), .string { data := #[] }, .bool false, .int .i64 0, .int .i64 0, .int .i64 0, .slice none 0 0]) := hR.own 1 _ _ rfl rfl
                refine step_of ⟨some 146, _, _, _, _, _⟩ rfl (fun K' hK => ?_)
                go_simp
                go_at_call 11
                (with_reducible refine (same_one z _).mono ?_)
                rintro e Wq ⟨rfl, hq⟩
                exact hK.out _ _ ⟨_, hF.pure hok hla hpre rfl hq, rfl⟩
              rcases Nat.lt_or_ge i 5 with hi | hge
              · rcases Nat.lt_or_ge i 4 with hi | hge
                · obtain rfl := eqi hi hge
                  have p2 := hpre 2 (by kernel_rfl)
                  have e2 : s2 = .bool true := hF.get 2 _ rfl (.inr p2)
                  subst e2
                  have r2 : A.tmps[146]? = some (.bool true) := hR.own 2 _ _ rfl rfl
                  refine step_of ⟨some 147, _, _, _, _, _⟩ rfl (fun K' hK => ?_)
                  go_simp
                  exact hK.out _ _ ⟨_, hF.pure hok hla hpre rfl (Below.refl _ _), rfl⟩
                obtain rfl := eqi hi hge
                have p3 := hpre 3 (by kernel_rfl)
                have e3 : s3 = .bool true := hF.get 3 _ rfl (.inr p3)
                subst e3
                have r3 : A.tmps[147]? = some (.bool true) := hR.own 3 _ _ rfl rfl
                have ro12 : A.tmps[12]? = some (.pointer (some ⟨b12, 0, none⟩)) := hR.out 1 _ rfl
                have hcc := (nine_at (keep_block H12.out (below_none hF.low))).1
                have cH120 := hcc.1
                have cH121 := hcc.2.1
                have cH122 := hcc.2.2.1
                have cH123 := hcc.2.2.2.1
                have cH124 := hcc.2.2.2.2.1
                have cH125 := hcc.2.2.2.2.2.1
                have cH126 := hcc.2.2.2.2.2.2.1
                have cH127 := hcc.2.2.2.2.2.2.2.1
                have cH128 := hcc.2.2.2.2.2.2.2.2
                clear hcc
                refine step_of ⟨some 148, _, _, _, _, _⟩ rfl (fun K' hK => ?_)
                rw [if_pos (by simp [Region.wanted, yielded, r3])]
                go_simp
                exact hK.out _ _ ⟨_, hF.pure hok hla hpre rfl (Below.refl _ _), rfl⟩
              rcases Nat.lt_or_ge i 6 with hi | hge
              · obtain rfl := eqi hi hge
                have p3 := hpre 3 (by kernel_rfl)
                have e3 : s3 = .bool true := hF.get 3 _ rfl (.inr p3)
                subst e3
                have r3 : A.tmps[147]? = some (.bool true) := hR.own 3 _ _ rfl rfl
                refine step_of ⟨some 149, _, _, _, _, _⟩ rfl (fun K' hK => ?_)
                rw [if_pos (by simp [Region.wanted, yielded, r3])]
                go_simp
                go_at_call 9
                (with_reducible refine (QtW0.out _ (HI.out.step (below_none hF.low)).env).mono ?_)
                rintro e Wq ⟨rfl, hq⟩
                exact hK.out _ _ ⟨_, hF.pure hok hla hpre rfl hq, rfl⟩
              obtain rfl := eqi hi hge
              have p3 := hpre 3 (by kernel_rfl)
              have e3 : s3 = .bool true := hF.get 3 _ rfl (.inr p3)
              subst e3
              have r3 : A.tmps[147]? = some (.bool true) := hR.own 3 _ _ rfl rfl
              refine step_of ⟨some 150, _, _, _, _, _⟩ rfl (fun K' hK => ?_)
              rw [if_pos (by simp [Region.wanted, yielded, r3])]
              go_simp
              go_at_call 9
              (with_reducible refine (QtW4.out _ (HI.out.step (below_none hF.low)).env).mono ?_)
              rintro e Wq ⟨rfl, hq⟩
              exact hK.out _ _ ⟨_, hF.pure hok hla hpre rfl hq, rfl⟩
            rcases Nat.lt_or_ge i 11 with hi | hge
            · rcases Nat.lt_or_ge i 9 with hi | hge
              · rcases Nat.lt_or_ge i 8 with hi | hge
                · obtain rfl := eqi hi hge
                  have p4 := hpre 4 (by kernel_rfl)
                  have e4 : s4 = .agg #[.int .i64 5, .string { data := #[] }, .string { data := #[] }, .string { data := #[] }, .bool false, .int .i64 0, .int .i64 (n : Int), .int .i64 5, .slice (some ⟨lg, 0, none⟩) (n * 5) cap] := hF.get 4 _ rfl (.inr p4)
                  subst e4
                  have r4 : A.tmps[148]? = some (.agg #[.int .i64 5, .string { data := #[] }, .string { data := #[] }, .string { data := #[] }, .bool false, .int .i64 0, .int .i64 (n : Int), .int .i64 5, .slice (some ⟨lg, 0, none⟩) (n * 5) cap]) := hR.own 4 _ _ rfl rfl
                  have p5 := hpre 5 (by kernel_rfl)
                  have e5 : s5 = .agg #[.int .i64 1, .string (numS z), .string (denS z), .string { data := #[] }, .bool false, .int .i64 0, .int .i64 0, .int .i64 0, .slice none 0 0] := hF.get 5 _ rfl (.inr p5)
                  subst e5
                  have r5 : A.tmps[149]? = some (.agg #[.int .i64 1, .string (numS z), .string (denS z), .string { data := #[] }, .bool false, .int .i64 0, .int .i64 0, .int .i64 0, .slice none 0 0]) := hR.own 5 _ _ rfl rfl
                  have p6 := hpre 6 (by kernel_rfl)
                  have e6 : s6 = .agg #[.int .i64 1, .string (numS four), .string (denS four), .string { data := #[] }, .bool false, .int .i64 0, .int .i64 0, .int .i64 0, .slice none 0 0] := hF.get 6 _ rfl (.inr p6)
                  subst e6
                  have r6 : A.tmps[150]? = some (.agg #[.int .i64 1, .string (numS four), .string (denS four), .string { data := #[] }, .bool false, .int .i64 0, .int .i64 0, .int .i64 0, .slice none 0 0]) := hR.own 6 _ _ rfl rfl
                  have p3 := hpre 3 (by kernel_rfl)
                  have e3 : s3 = .bool true := hF.get 3 _ rfl (.inr p3)
                  subst e3
                  have r3 : A.tmps[147]? = some (.bool true) := hR.own 3 _ _ rfl rfl
                  refine step_of ⟨some 151, _, _, _, _, _⟩ rfl (fun K' hK => ?_)
                  rw [if_pos (by simp [Region.wanted, yielded, r3])]
                  go_simp
                  exact hK.out _ _ ⟨_, hF.row hok hla hpre rfl, rfl⟩
                obtain rfl := eqi hi hge
                have p7 := hpre 7 (by kernel_rfl)
                obtain ⟨G7, eG7, _, hGB7⟩ : ∃ G, s7 = .slice (some ⟨G, 0, none⟩) 3 3 ∧ _ ≤ G ∧ Wr.heap[G]? = some (.cells #[.int .i64 5, .string { data := #[] }, .string { data := #[] }, .string { data := #[] }, .bool false, .int .i64 0, .int .i64 (n : Int), .int .i64 5, .slice (some ⟨lg, 0, none⟩) (n * 5) cap, .int .i64 1, .string (numS z), .string (denS z), .string { data := #[] }, .bool false, .int .i64 0, .int .i64 0, .int .i64 0, .slice none 0 0, .int .i64 1, .string (numS four), .string (denS four), .string { data := #[] }, .bool false, .int .i64 0, .int .i64 0, .int .i64 0, .slice none 0 0] 30 (0, 0)) := hF.get 7 _ rfl (.inr p7)
                subst eG7
                have r7 : A.tmps[151]? = some (.slice (some ⟨G7, 0, none⟩) 3 3) := hR.own 7 _ _ rfl rfl
                have p3 := hpre 3 (by kernel_rfl)
                have e3 : s3 = .bool true := hF.get 3 _ rfl (.inr p3)
                subst e3
                have r3 : A.tmps[147]? = some (.bool true) := hR.own 3 _ _ rfl rfl
                refine step_of ⟨some 152, _, _, _, _, _⟩ rfl (fun K' hK => ?_)
                rw [if_pos (by simp [Region.wanted, yielded, r3])]
                go_simp
                go_at_call 15
                (with_reducible refine (IxC.on TI.out _ G7 lg cap hGB7 (HI.out.step (below_none hF.low)).val (HI.out.step (below_none hF.low)).env).mono ?_)
                rintro e Wq ⟨lq, cq, rfl, hvq, _, hq⟩
                exact hK.out _ _ ⟨_, hF.any hok hla hpre rfl hq ⟨lq, cq, rfl, hvq⟩, rfl⟩
              rcases Nat.lt_or_ge i 10 with hi | hge
              · obtain rfl := eqi hi hge
                have p8 := hpre 8 (by kernel_rfl)
                obtain ⟨lg8, cap8, e8, hv8⟩ := hF.get 8 _ rfl (.inr p8)
                replace e8 : s8 = .agg #[.int .i64 5, .string { data := #[] }, .string { data := #[] }, .string { data := #[] }, .bool false, .int .i64 0, .int .i64 (n : Int), .int .i64 1, .slice (some ⟨lg8, 0, none⟩) n cap8] := e8
                subst e8
                have r8 : A.tmps[152]? = some (.agg #[.int .i64 5, .string { data := #[] }, .string { data := #[] }, .string { data := #[] }, .bool false, .int .i64 0, .int .i64 (n : Int), .int .i64 1, .slice (some ⟨lg8, 0, none⟩) n cap8]) := hR.own 8 _ _ rfl rfl
                have p3 := hpre 3 (by kernel_rfl)
                have e3 : s3 = .bool true := hF.get 3 _ rfl (.inr p3)
                subst e3
                have r3 : A.tmps[147]? = some (.bool true) := hR.own 3 _ _ rfl rfl
                refine step_of ⟨some 153, _, _, _, _, _⟩ rfl (fun K' hK => ?_)
                rw [if_pos (by simp [Region.wanted, yielded, r3])]
                go_simp
                exact hK.out _ _ ⟨_, hF.any hok hla hpre rfl ((Below.refl _ _).alloc (Nat.le_refl _) _) ⟨_, lg8, cap8, rfl, heap_alloc_new _ _, hv8.below ((Below.refl _ _).alloc (Nat.le_refl _) _)⟩, rfl⟩
              obtain rfl := eqi hi hge
              have p9 := hpre 9 (by kernel_rfl)
              obtain ⟨G9, lg9, cap9, e9, hGB9, hv9⟩ := hF.get 9 _ rfl (.inr p9)
              replace e9 : s9 = .slice (some ⟨G9, 0, none⟩) 1 1 := e9
              subst e9
              have r9 : A.tmps[153]? = some (.slice (some ⟨G9, 0, none⟩) 1 1) := hR.own 9 _ _ rfl rfl
              have p3 := hpre 3 (by kernel_rfl)
              have e3 : s3 = .bool true := hF.get 3 _ rfl (.inr p3)
              subst e3
              have r3 : A.tmps[147]? = some (.bool true) := hR.own 3 _ _ rfl rfl
              refine step_of ⟨some 154, _, _, _, _, _⟩ rfl (fun K' hK => ?_)
              rw [if_pos (by simp [Region.wanted, yielded, r3])]
              go_simp
              go_at_call 10
              (with_reducible refine (SmC.on TS.out _ G9 lg9 cap9 hGB9 hv9 (HI.out.step (below_none hF.low)).env).mono ?_)
              rintro e Wq ⟨rfl, hq⟩
              exact hK.out _ _ ⟨_, hF.pure hok hla hpre rfl hq, rfl⟩
            rcases Nat.lt_or_ge i 13 with hi | hge
            · rcases Nat.lt_or_ge i 12 with hi | hge
              · obtain rfl := eqi hi hge
                have p3 := hpre 3 (by kernel_rfl)
                have e3 : s3 = .bool true := hF.get 3 _ rfl (.inr p3)
                subst e3
                have r3 : A.tmps[147]? = some (.bool true) := hR.own 3 _ _ rfl rfl
                have ro11 : A.tmps[11]? = some (.pointer (some ⟨B11, 0, none⟩)) := hR.out 2 _ rfl
                have hcc := (nine_at (keep_block H11.out (below_none hF.low))).1
                have cH110 := hcc.1
                have cH111 := hcc.2.1
                have cH112 := hcc.2.2.1
                have cH113 := hcc.2.2.2.1
                have cH114 := hcc.2.2.2.2.1
                have cH115 := hcc.2.2.2.2.2.1
                have cH116 := hcc.2.2.2.2.2.2.1
                have cH117 := hcc.2.2.2.2.2.2.2.1
                have cH118 := hcc.2.2.2.2.2.2.2.2
                clear hcc
                refine step_of ⟨some 155, _, _, _, _, _⟩ rfl (fun K' hK => ?_)
                rw [if_pos (by simp [Region.wanted, yielded, r3])]
                go_simp
                exact hK.out _ _ ⟨_, hF.pure hok hla hpre rfl (Below.refl _ _), rfl⟩
              obtain rfl := eqi hi hge
              have p10 := hpre 10 (by kernel_rfl)
              have e10 : s10 = .agg #[.int .i64 1, .string (numS lq), .string (denS lq), .string { data := #[] }, .bool false, .int .i64 0, .int .i64 0, .int .i64 0, .slice none 0 0] := hF.get 10 _ rfl (.inr p10)
              subst e10
              have r10 : A.tmps[154]? = some (.agg #[.int .i64 1, .string (numS lq), .string (denS lq), .string { data := #[] }, .bool false, .int .i64 0, .int .i64 0, .int .i64 0, .slice none 0 0]) := hR.own 10 _ _ rfl rfl
              have p11 := hpre 11 (by kernel_rfl)
              have e11 : s11 = .agg #[.int .i64 1, .string (numS lq), .string (denS lq), .string { data := #[] }, .bool false, .int .i64 0, .int .i64 0, .int .i64 0, .slice none 0 0] := hF.get 11 _ rfl (.inr p11)
              subst e11
              have r11 : A.tmps[155]? = some (.agg #[.int .i64 1, .string (numS lq), .string (denS lq), .string { data := #[] }, .bool false, .int .i64 0, .int .i64 0, .int .i64 0, .slice none 0 0]) := hR.own 11 _ _ rfl rfl
              have p3 := hpre 3 (by kernel_rfl)
              have e3 : s3 = .bool true := hF.get 3 _ rfl (.inr p3)
              subst e3
              have r3 : A.tmps[147]? = some (.bool true) := hR.own 3 _ _ rfl rfl
              refine step_of ⟨some 156, _, _, _, _, _⟩ rfl (fun K' hK => ?_)
              rw [if_pos (by simp [Region.wanted, yielded, r3])]
              go_simp
              go_at_call 11
              (with_reducible refine (same_one lq _).mono ?_)
              rintro e Wq ⟨rfl, hq⟩
              exact hK.out _ _ ⟨_, hF.pure hok hla hpre rfl hq, rfl⟩
            rcases Nat.lt_or_ge i 14 with hi | hge
            · obtain rfl := eqi hi hge
              have p3 := hpre 3 (by kernel_rfl)
              have e3 : s3 = .bool true := hF.get 3 _ rfl (.inr p3)
              subst e3
              have r3 : A.tmps[147]? = some (.bool true) := hR.own 3 _ _ rfl rfl
              have p12 := hpre 12 (by kernel_rfl)
              have e12 : s12 = .bool true := hF.get 12 _ rfl (.inr p12)
              subst e12
              have r12 : A.tmps[156]? = some (.bool true) := hR.own 12 _ _ rfl rfl
              refine step_of ⟨some 157, _, _, _, _, _⟩ rfl (fun K' hK => ?_)
              go_simp
              exact hK.out _ _ ⟨_, hF.pure hok hla hpre rfl (Below.refl _ _), rfl⟩
            obtain rfl := eqi hi hge
            have p13 := hpre 13 (by kernel_rfl)
            have e13 : s13 = .bool true := hF.get 13 _ rfl (.inr p13)
            subst e13
            have r13 : A.tmps[157]? = some (.bool true) := hR.own 13 _ _ rfl rfl
            refine step_of ⟨some 8, _, _, _, _, _⟩ rfl (fun K' hK => ?_)
            go_simp
            exact hK.out _ _ ⟨_, hF.pure hok hla hpre rfl (Below.refl _ _), rfl⟩
          case hd =>
            rintro listed vs W21 hF hall
            obtain ⟨s0, s1, s2, s3, s4, s5, s6, s7, s8, s9, s10, s11, s12, s13, s14, hvs⟩ := exl_of 15 vs (fun l => vs = l) hF.len rfl
            subst hvs
            have e14 : s14 = .bool true := hF.get 14 _ rfl (.inr (hall 14 (by decide)))
            subst e14
            have hq := below_none hF.low
            replace H11 := Lib.hid (keep_block H11.out hq)
            replace H12 := Lib.hid (keep_block H12.out hq)
            replace H13 := Lib.hid (keep_block H13.out hq)
            replace HI := Lib.hid (HI.out.step hq)
            clear hq
            clear hF hall hok hla
            refine rest_end ?_
            simp only [putO, layL]
            go_wp2
            go_ret
            exact ⟨rfl, HI.out.low⟩
end Go.Proofs.YtkbhlkinlcmgoaaGreatDoor.Num.Fy
