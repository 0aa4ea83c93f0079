/- Contracts of the program's functions, joined from smaller texts. Conditions stand at each theorem. -/
import Derived.Test.YtjcdeeahjkfmoaaGreatDoorNumF
import Derived.Deep.RegionWith
import Derived.Deep.AppendLies
namespace Go.Proofs.YtjcdeeahjkfmoaaGreatDoor
namespace Num
open Go.RowKit Go.Lib
end Num
namespace Num
open Go.RowKit Go.Lib
def fracCells (qs : List Rat) : List Value := qs.flatMap fun q => [.string (numS q), .string (denS q)]
theorem fracCells_snoc (qs : List Rat) (q : Rat) : fracCells (qs ++ [q]) = fracCells qs ++ [.string (numS q), .string (denS q)] := by simp [fracCells]
theorem info_frac : ∃ i, Tryz.prog.info? 30 = some i ∧ i.zero = some (.agg #[.string ⟨#[]⟩, .string ⟨#[]⟩]) ∧ i.size = 2 ∧ i.bytes = 32 := info_parts (by kernel_rfl)
def OwnF (B : Nat) (v : Value) (qs : List Rat) (W : World) : Prop := W.ownsRow B 30 2 v qs.length (fracCells qs)
def AllNums (W : World) (g : Nat) (qs : List Rat) : Prop := ∀ i (h : i < qs.length), NumCells W g (0 + i * 9) qs[i]
structure NumsI (W0 : World) (b g L C : Nat) (qs : List Rat) (i : Nat) (v : Value) (done : List Rat) (W : World) : Prop where
 args : ArgsAt W b (some ⟨g, 0, none⟩) L C i
 nums : AllNums W g qs
 env : Env W
 grown : W0.grownBy W (some b)
 own : OwnF W0.heap.size v done W
end Num
namespace Num
open Go.RowKit Go.Lib
def FracsAt (W : World) (g : Nat) (qs : List Rat) : Prop := ∀ i (h : i < qs.length), W.cell? ⟨g, i * 2, none⟩ = some (.string (numS qs[i])) ∧ W.cell? ⟨g, i * 2 + 1, none⟩ = some (.string (denS qs[i]))
theorem fracCells_get : ∀ (qs : List Rat) (i : Nat) (h : i < qs.length), (fracCells qs)[i * 2]? = some (.string (numS qs[i])) ∧ (fracCells qs)[i * 2 + 1]? = some (.string (denS qs[i]))
 | q :: r, 0, _ => ⟨rfl, rfl⟩
 | q :: r, i + 1, h => by
  have := fracCells_get r i (by simpa using h)
  unfold fracCells at this ⊢
  rw [List.flatMap_cons]
  refine ⟨?_, ?_⟩
  ·rw [List.getElem?_append_right (by show 2 ≤ _; omega), show (i + 1) * 2 - [Value.string (numS q), Value.string (denS q)].length = i * 2 by show (i + 1) * 2 - 2 = _; omega]
   exact this.1
  ·rw [List.getElem?_append_right (by show 2 ≤ _; omega), show (i + 1) * 2 + 1 - [Value.string (numS q), Value.string (denS q)].length = i * 2 + 1 by show (i + 1) * 2 + 1 - 2 = _; omega]
   exact this.2
structure TotI (w : World) (g P R : Nat) (qs : List Rat) (s : Rat) (W : World) : Prop where
 row : FracsAt W g qs
 sum : W.heap[P]? = some (.cells #[.string (numS s), .string (denS s)] 30 (0, 0))
 res : W.heap[R]? = some (.cells #[.string ⟨#[]⟩, .string ⟨#[]⟩] 30 (0, 0))
 env : Env W
 low : Below w.heap.size w W
end Num
namespace Num
open Go.RowKit Go.Lib
structure ProI (w : World) (b g P R : Nat) (qs : List Rat) (s : Rat) (W : World) : Prop where
 row : FracsAt W g qs
 sum : W.heap[P]? = some (.cells #[.string (numS s), .string (denS s)] 30 (0, 0))
 res : W.heap[R]? = some (.cells #[.string ⟨#[]⟩, .string ⟨#[]⟩] 30 (0, 0))
 env : Env W
 low : w.grownBy W (some b)
end Num
namespace Num
theorem nat_ne {b : Nat} (h : b ≠ 0) : ((b : Nat) : Rat) ≠ 0 := by
 intro e
 have : (b : Rat) = ((0 : Nat) : Rat) := e
 exact h (by exact_mod_cast this)
theorem int_ne {b : Int} (h : b ≠ 0) : ((b : Int) : Rat) ≠ 0 := by
 intro e
 have : (b : Rat) = ((0 : Int) : Rat) := e
 exact h (by exact_mod_cast this)
def Sm (q : Rat) (A B : Nat) : Prop := ∃ (a : Int) (b : Nat), b ≠ 0 ∧ q = (a : Rat) / ((b : Nat) : Rat) ∧ a.natAbs ≤ A ∧ b ≤ B
theorem Sm.mul {p q : Rat} {A B C D : Nat} (h : Sm p A B) (k : Sm q C D) : Sm (p * q) (A * C) (B * D) := by
 obtain ⟨a, b, hb, rfl, x, y⟩ := h
 obtain ⟨c, d, hd, rfl, z, u⟩ := k
 refine ⟨a * c, b * d, Nat.mul_ne_zero hb hd, ?_, ?_, Nat.mul_le_mul y u⟩
 ·have := nat_ne hb; have := nat_ne hd
  rw [Rat.intCast_mul, Rat.natCast_mul]; grind
 ·rw [Int.natAbs_mul]; exact Nat.mul_le_mul x z
theorem Sm.fits {q : Rat} {A B : Nat} (h : Sm q A B) (h1 : A < 10 ^ 300) (h2 : B < 10 ^ 300) : fits q = true := by
 obtain ⟨a, b, hb, rfl, x, y⟩ := h
 have e := ratio_of a (b : Int) (by omega)
 rw [Rat.intCast_natCast] at e
 rw [← e]
 unfold Num.fits
 have hu : up (ratOf (Num.neg (a : Rat) != Num.neg (((b : Nat) : Int) : Rat)) a.natAbs ((b : Nat) : Int).natAbs) ≤ A := by
  rw [ratOf_up _ _ (by omega)]; exact Nat.le_trans (Nat.div_le_self _ _) x
 have hd : (ratOf (Num.neg (a : Rat) != Num.neg (((b : Nat) : Int) : Rat)) a.natAbs ((b : Nat) : Int).natAbs).den ≤ B := by
  rw [ratOf_den _ _ (by omega)]; exact Nat.le_trans (Nat.div_le_self _ _) (by simpa using y)
 rw [Rat.intCast_natCast] at hu hd
 rw [decide_eq_true (dec_len_of (by decide) (Nat.lt_of_le_of_lt hu h1)), decide_eq_true (dec_len_of (by decide) (Nat.lt_of_le_of_lt hd h2))]; rfl
section
open Go.RowKit Go.Lib
def numVals (qs : List Rat) : List Val := qs.map numVal'
theorem vals_of_block {W : World} {b : Nat} {cs : Array Value} {T : TypeId} {fz : Nat × Nat} {vs : List Val} (h : W.heap[b]? = some (.cells cs T fz)) (hc : cs.toList = flat vs) : ValsAt W b 0 vs := by
 intro j u hj
 rw [addr_add, Nat.zero_add, Lib.cell_of_heap h j, ← Array.getElem?_toList, hc]
 exact hj
theorem fr_of (i : Nat) (hi : i < allRows.length) (h : freshB allRows[i].name (allRows.take i) = true) : ∀ j (hj : j < i), (allRows[i].name == (allRows[j]'(by omega)).name) = false := by
 intro j hj
 have := fresh_of h (allRows[j]'(by omega)) (by
  rw [List.mem_take_iff_getElem]
  exact ⟨j, by omega, rfl⟩)
 exact this
end
end Num
end Go.Proofs.YtjcdeeahjkfmoaaGreatDoor
