/- Numbers as texts of digits, fractions, values and the functions of fmath: contracts of the program's functions, joined from smaller texts. Conditions stand at each theorem. -/
import Derived.Test.YtkghpiaoggljjaaGreatDoorNumG
import Derived.BigRegion
import Derived.OrdersHeld
import Derived.Deep.RegionHeld3

/- Sorting a row of numbers by a comparison, in place: what the steps keep, and that the result is one alone. Plain: of no program. -/
namespace Go.Proofs.YtkghpiaoggljjaaGreatDoor.Num

/-- x comes ahead of y: by the comparison, and by the numbers themselves where that says nothing -/
def Lt (cf : Nat → Nat → Int) (x y : Nat) : Prop := cf x y < 0 ∨ (cf x y = 0 ∧ x < y)
/-- what is asked of a comparison of the numbers below n -/
structure Ord (cf : Nat → Nat → Int) (n : Nat) : Prop where
 anti : ∀ x y, x < n → y < n → (cf x y < 0 ↔ 0 < cf y x)
 zero : ∀ x y, x < n → y < n → (cf x y = 0 ↔ cf y x = 0)
 trans : ∀ x y z, x < n → y < n → z < n → cf x y ≤ 0 → cf y z ≤ 0 → cf x z ≤ 0
section
variable {cf : Nat → Nat → Int} {n : Nat}
theorem Lt.asymm (h : Ord cf n) {x y : Nat} (hx : x < n) (hy : y < n) (a : Lt cf x y) (b : Lt cf y x) : False := by
 have h1 := h.anti x y hx hy
 have h2 := h.anti y x hy hx
 have h3 := h.zero x y hx hy
 unfold Lt at a b
 omega
theorem Lt.trans (h : Ord cf n) {x y z : Nat} (hx : x < n) (hy : y < n) (hz : z < n) (a : Lt cf x y) (b : Lt cf y z) : Lt cf x z := by
 have h1 := h.trans x y z hx hy hz
 have h2 := h.anti x z hx hz
 have h3 := h.trans y z x hy hz hx
 have h4 := h.trans z x y hz hx hy
 have h5 := h.anti x y hx hy
 have h6 := h.anti y z hy hz
 have h7 := h.zero x y hx hy
 have h8 := h.zero y z hy hz
 have h9 := h.zero x z hx hz
 unfold Lt at a b ⊢
 omega
/-- a row in order is one alone among the rows of the same numbers -/
theorem sorted_one (h : Ord cf n) {l m : List Nat} (hp : l.Perm m) (hl : ∀ x ∈ l, x < n) (sl : l.Pairwise (Lt cf)) (sm : m.Pairwise (Lt cf)) : l = m := by
 have hm : ∀ x ∈ m, x < n := fun x hx => hl x (hp.mem_iff.2 hx)
 exact List.Perm.eq_of_pairwise (fun a b ha hb hab hba => (Lt.asymm h (hl a ha) (hm b hb) hab hba).elim) sl sm hp
end
end Go.Proofs.YtkghpiaoggljjaaGreatDoor.Num

/- Moves in a row of numbers: exchanges, blocks exchanged, a rotation, an insertion; what they keep. Plain: of no program. -/
namespace Go.Proofs.YtkghpiaoggljjaaGreatDoor.Num

/-- two places exchanged -/
def swp (d : Nat → Nat) (i j : Nat) : Nat → Nat := fun k => if k = i then d j else if k = j then d i else d k
/-- two blocks of c places exchanged -/
def blk (d : Nat → Nat) (a b c : Nat) : Nat → Nat := fun k => if a ≤ k ∧ k < a + c then d (k - a + b) else if b ≤ k ∧ k < b + c then d (k - b + a) else d k
theorem blk_zero (d : Nat → Nat) (a b : Nat) : blk d a b 0 = d := by
 funext k
 unfold blk
 rw [if_neg (by omega), if_neg (by omega)]
theorem blk_step (d : Nat → Nat) (a b c : Nat) (h : a + (c + 1) ≤ b) : blk d a b (c + 1) = swp (blk d a b c) (a + c) (b + c) := by
 funext k
 simp only [blk, swp]
 by_cases h1 : k = a + c
 ·subst h1
  rw [if_pos (by omega), if_pos rfl, if_neg (by omega), if_neg (by omega)]
  congr 1
  omega
 ·by_cases h2 : k = b + c
  ·subst h2
   rw [if_neg (by omega), if_pos (by omega), if_neg (by omega), if_pos rfl, if_neg (by omega), if_neg (by omega)]
   congr 1
   omega
  ·rw [if_neg h1, if_neg h2]
   by_cases h3 : a ≤ k ∧ k < a + c
   ·rw [if_pos (by omega), if_pos h3]
   ·rw [if_neg (by omega), if_neg h3]
    by_cases h4 : b ≤ k ∧ k < b + c
    ·rw [if_pos (by omega), if_pos h4]
    ·rw [if_neg (by omega), if_neg h4]
/-- the places from a to m put behind those from m to b -/
def rot (d : Nat → Nat) (a m b : Nat) : Nat → Nat := fun k => if a ≤ k ∧ k < a + (b - m) then d (k + (m - a)) else if a + (b - m) ≤ k ∧ k < b then d (k - (b - m)) else d k
theorem rot_more (d : Nat → Nat) (i j m : Nat) (h : j < i) (hm : i ≤ m) : rot (blk d (m - i) m j) (m - i + j) m (m + j) = rot d (m - i) m (m + j) := by
 funext k
 simp only [rot, blk]
 by_cases h1 : k < m - i
 ·simp only [show ¬ (m - i + j ≤ k ∧ k < m - i + j + (m + j - m)) by omega, show ¬ (m - i + j + (m + j - m) ≤ k ∧ k < m + j) by omega, show ¬ (m - i ≤ k ∧ k < m - i + j) by omega, show ¬ (m ≤ k ∧ k < m + j) by omega, show ¬ (m - i ≤ k ∧ k < m - i + (m + j - m)) by omega, show ¬ (m - i + (m + j - m) ≤ k ∧ k < m + j) by omega, if_false]
 ·by_cases h2 : m + j ≤ k
  ·simp only [show ¬ (m - i + j ≤ k ∧ k < m - i + j + (m + j - m)) by omega, show ¬ (m - i + j + (m + j - m) ≤ k ∧ k < m + j) by omega, show ¬ (m - i ≤ k ∧ k < m - i + j) by omega, show ¬ (m ≤ k ∧ k < m + j) by omega, show ¬ (m - i ≤ k ∧ k < m - i + (m + j - m)) by omega, show ¬ (m - i + (m + j - m) ≤ k ∧ k < m + j) by omega, if_false]
  ·by_cases h3 : k < m - i + j
   ·simp only [show ¬ (m - i + j ≤ k ∧ k < m - i + j + (m + j - m)) by omega, show ¬ (m - i + j + (m + j - m) ≤ k ∧ k < m + j) by omega, show (m - i ≤ k ∧ k < m - i + j) by omega, show (m - i ≤ k ∧ k < m - i + (m + j - m)) by omega, if_false, and_self, if_true]
    congr 1
    omega
   ·by_cases h4 : k < m - i + j + j
    ·simp only [show (m - i + j ≤ k ∧ k < m - i + j + (m + j - m)) by omega, show ¬ (m - i ≤ k ∧ k < m - i + (m + j - m)) by omega, show (m - i + (m + j - m) ≤ k ∧ k < m + j) by omega, and_self, if_true, if_false, show ¬ (m - i ≤ k + (m - (m - i + j)) ∧ k + (m - (m - i + j)) < m - i + j) by omega, show (m ≤ k + (m - (m - i + j)) ∧ k + (m - (m - i + j)) < m + j) by omega]
     congr 1
     omega
    ·simp only [show ¬ (m - i + j ≤ k ∧ k < m - i + j + (m + j - m)) by omega, show (m - i + j + (m + j - m) ≤ k ∧ k < m + j) by omega, show ¬ (m - i ≤ k ∧ k < m - i + (m + j - m)) by omega, show (m - i + (m + j - m) ≤ k ∧ k < m + j) by omega, and_self, if_true, if_false, show ¬ (m - i ≤ k - (m + j - m) ∧ k - (m + j - m) < m - i + j) by omega, show ¬ (m ≤ k - (m + j - m) ∧ k - (m + j - m) < m + j) by omega]
theorem rot_less (d : Nat → Nat) (i j m : Nat) (h : i < j) (hm : i ≤ m) : rot (blk d (m - i) (m + j - i) i) (m - i) m (m + (j - i)) = rot d (m - i) m (m + j) := by
 funext k
 simp only [rot, blk]
 by_cases h1 : k < m - i
 ·simp only [show ¬ (m - i ≤ k ∧ k < m - i + (m + (j - i) - m)) by omega, show ¬ (m - i + (m + (j - i) - m) ≤ k ∧ k < m + (j - i)) by omega, show ¬ (m - i ≤ k ∧ k < m - i + i) by omega, show ¬ (m + j - i ≤ k ∧ k < m + j - i + i) by omega, show ¬ (m - i ≤ k ∧ k < m - i + (m + j - m)) by omega, show ¬ (m - i + (m + j - m) ≤ k ∧ k < m + j) by omega, if_false]
 ·by_cases h2 : m + j ≤ k
  ·simp only [show ¬ (m - i ≤ k ∧ k < m - i + (m + (j - i) - m)) by omega, show ¬ (m - i + (m + (j - i) - m) ≤ k ∧ k < m + (j - i)) by omega, show ¬ (m - i ≤ k ∧ k < m - i + i) by omega, show ¬ (m + j - i ≤ k ∧ k < m + j - i + i) by omega, show ¬ (m - i ≤ k ∧ k < m - i + (m + j - m)) by omega, show ¬ (m - i + (m + j - m) ≤ k ∧ k < m + j) by omega, if_false]
  ·by_cases h3 : m + j - i ≤ k
   ·simp only [show ¬ (m - i ≤ k ∧ k < m - i + (m + (j - i) - m)) by omega, show ¬ (m - i + (m + (j - i) - m) ≤ k ∧ k < m + (j - i)) by omega, show ¬ (m - i ≤ k ∧ k < m - i + i) by omega, show (m + j - i ≤ k ∧ k < m + j - i + i) by omega, show ¬ (m - i ≤ k ∧ k < m - i + (m + j - m)) by omega, show (m - i + (m + j - m) ≤ k ∧ k < m + j) by omega, if_false, and_self, if_true]
    congr 1
    omega
   ·by_cases h4 : k < m - i + (j - i)
    ·simp only [show (m - i ≤ k ∧ k < m - i + (m + (j - i) - m)) by omega, show (m - i ≤ k ∧ k < m - i + (m + j - m)) by omega, and_self, if_true, show ¬ (m - i ≤ k + (m - (m - i)) ∧ k + (m - (m - i)) < m - i + i) by omega, show ¬ (m + j - i ≤ k + (m - (m - i)) ∧ k + (m - (m - i)) < m + j - i + i) by omega, if_false]
    ·rw [if_neg (show ¬ (m - i ≤ k ∧ k < m - i + (m + (j - i) - m)) by omega), if_pos (show m - i + (m + (j - i) - m) ≤ k ∧ k < m + (j - i) by omega), if_pos (show m - i ≤ k - (m + (j - i) - m) ∧ k - (m + (j - i) - m) < m - i + i by omega), if_pos (show m - i ≤ k ∧ k < m - i + (m + j - m) by omega)]
     congr 1
     omega
theorem rot_end (d : Nat → Nat) (i m : Nat) (hm : i ≤ m) : blk d (m - i) m i = rot d (m - i) m (m + i) := by
 funext k
 simp only [rot, blk]
 by_cases h1 : m - i ≤ k ∧ k < m - i + i
 ·rw [if_pos h1, if_pos (by omega)]
  congr 1
  omega
 ·by_cases h2 : m ≤ k ∧ k < m + i
  ·rw [if_neg h1, if_pos h2, if_neg (by omega), if_pos (by omega)]
   congr 1
   omega
  ·rw [if_neg h1, if_neg h2, if_neg (by omega), if_neg (by omega)]
theorem rot_none (d : Nat → Nat) (a b : Nat) : rot d a a b = d ∧ rot d a b b = d := by
 constructor
 ·funext k
  simp only [rot]
  by_cases h : a ≤ k ∧ k < a + (b - a)
  ·rw [if_pos h, Nat.sub_self, Nat.add_zero]
  ·rw [if_neg h, if_neg (by omega)]
 ·funext k
  simp only [rot]
  rw [if_neg (by omega)]
  by_cases h : a + (b - b) ≤ k ∧ k < b
  ·rw [if_pos h, Nat.sub_self, Nat.sub_zero]
  ·rw [if_neg h]
/-- the number at i put at j, those between moved on -/
def ins (d : Nat → Nat) (j i : Nat) : Nat → Nat := fun k => if k = j then d i else if j < k ∧ k ≤ i then d (k - 1) else d k
theorem ins_self (d : Nat → Nat) (i : Nat) : ins d i i = d := by
 funext k
 simp only [ins]
 by_cases h : k = i
 ·rw [if_pos h, h]
 ·rw [if_neg h, if_neg (by omega)]
theorem ins_step (d : Nat → Nat) (j i : Nat) (h : j + 1 ≤ i) : swp (ins d (j + 1) i) (j + 1) j = ins d j i := by
 funext k
 simp only [swp, ins]
 by_cases h1 : k = j + 1
 ·subst h1
  rw [if_pos rfl, if_neg (by omega), if_neg (by omega), if_neg (by omega), if_pos (by omega)]
  rfl
 ·by_cases h2 : k = j
  ·subst h2
   rw [if_neg h1, if_pos rfl]
   simp
  ·rw [if_neg h1, if_neg h2, if_neg h1, if_neg h2]
   by_cases h3 : j + 1 < k ∧ k ≤ i
   ·rw [if_pos h3, if_pos (by omega)]
   ·rw [if_neg h3, if_neg (by omega)]
/-- the number at a put at k, those between moved back -/
def mvr (d : Nat → Nat) (a k : Nat) : Nat → Nat := fun p => if p = k then d a else if a ≤ p ∧ p < k then d (p + 1) else d p
theorem mvr_self (d : Nat → Nat) (a : Nat) : mvr d a a = d := by
 funext k
 simp only [mvr]
 by_cases h : k = a
 ·rw [if_pos h, h]
 ·rw [if_neg h, if_neg (by omega)]
theorem mvr_step (d : Nat → Nat) (a k : Nat) (h : a ≤ k) : swp (mvr d a k) k (k + 1) = mvr d a (k + 1) := by
 funext p
 simp only [swp, mvr]
 by_cases h1 : p = k
 ·subst h1
  rw [if_pos rfl, if_neg (by omega), if_neg (by omega), if_neg (by omega), if_pos (by omega)]
 ·by_cases h2 : p = k + 1
  ·subst h2
   rw [if_neg h1, if_pos rfl]
   simp
  ·rw [if_neg h1, if_neg h2, if_neg h1, if_neg h2]
   by_cases h3 : a ≤ p ∧ p < k
   ·rw [if_pos h3, if_pos (by omega)]
   ·rw [if_neg h3, if_neg (by omega)]

/-- the row as a list -/
def rowL (d : Nat → Nat) (n : Nat) : List Nat := (List.range n).map d
theorem rowL_len (d : Nat → Nat) (n : Nat) : (rowL d n).length = n := by simp [rowL]
theorem rowL_at (d : Nat → Nat) (n i : Nat) (h : i < (rowL d n).length) : (rowL d n)[i] = d i := by simp [rowL]
theorem swp_perm (d : Nat → Nat) (n i j : Nat) (hi : i < n) (hj : j < n) : (rowL (swp d i j) n).Perm (rowL d n) := by
 have hi' : i < (rowL d n).length := by rw [rowL_len]; exact hi
 have hj' : j < (rowL d n).length := by rw [rowL_len]; exact hj
 have h := @List.set_set_perm _ (rowL d n) i j hi' hj'
 rw [rowL_at d n j hj', rowL_at d n i hi'] at h
 have e : rowL (swp d i j) n = ((rowL d n).set i (d j)).set j (d i) := by
  apply List.ext_getElem
  ·simp [rowL_len]
  ·intro k h1 h2
   rw [rowL_at, List.getElem_set, List.getElem_set, rowL_at]
   unfold swp
   by_cases a : k = i
   ·subst a
    by_cases b : j = k
    ·rw [if_pos rfl, if_pos b, b]
    ·rw [if_pos rfl, if_neg b, if_pos rfl]
   ·rw [if_neg a]
    by_cases b : k = j
    ·rw [if_pos b, if_pos b.symm]
    ·rw [if_neg b, if_neg (fun e => b e.symm), if_neg (fun e => a e.symm)]
 rw [e]
 exact h
/-- d' is d with the places from a to b moved among themselves -/
structure Mv (d' d : Nat → Nat) (n a b : Nat) : Prop where
 perm : (rowL d' n).Perm (rowL d n)
 img : ∀ i, a ≤ i → i < b → ∃ k, a ≤ k ∧ k < b ∧ d' i = d k
 out : ∀ i, i < a ∨ b ≤ i → d' i = d i
theorem Mv.refl (d : Nat → Nat) (n a b : Nat) : Mv d d n a b := ⟨List.Perm.refl _, fun i h1 h2 => ⟨i, h1, h2, rfl⟩, fun _ _ => rfl⟩
theorem Mv.trans {d2 d1 d : Nat → Nat} {n a b : Nat} (h : Mv d2 d1 n a b) (k : Mv d1 d n a b) : Mv d2 d n a b := by
 refine ⟨h.perm.trans k.perm, fun i h1 h2 => ?_, fun i hi => (h.out i hi).trans (k.out i hi)⟩
 obtain ⟨p, p1, p2, e⟩ := h.img i h1 h2
 obtain ⟨q, q1, q2, e2⟩ := k.img p p1 p2
 exact ⟨q, q1, q2, e.trans e2⟩
theorem Mv.wide {d' d : Nat → Nat} {n a b a' b' : Nat} (h : Mv d' d n a b) (ha : a' ≤ a) (hb : b ≤ b') : Mv d' d n a' b' := by
 refine ⟨h.perm, fun i h1 h2 => ?_, fun i hi => h.out i (by omega)⟩
 by_cases c : a ≤ i ∧ i < b
 ·obtain ⟨p, p1, p2, e⟩ := h.img i c.1 c.2
  exact ⟨p, by omega, by omega, e⟩
 ·exact ⟨i, h1, h2, h.out i (by omega)⟩
theorem Mv.swp (d : Nat → Nat) (n a b i j : Nat) (hi : a ≤ i ∧ i < b) (hj : a ≤ j ∧ j < b) (hb : b ≤ n) : Mv (swp d i j) d n a b := by
 refine ⟨swp_perm d n i j (by omega) (by omega), fun k h1 h2 => ?_, fun k hk => ?_⟩
 ·unfold Num.swp
  by_cases a1 : k = i
  ·exact ⟨j, hj.1, hj.2, by rw [if_pos a1]⟩
  ·by_cases b1 : k = j
   ·exact ⟨i, hi.1, hi.2, by rw [if_neg a1, if_pos b1]⟩
   ·exact ⟨k, h1, h2, by rw [if_neg a1, if_neg b1]⟩
 ·unfold Num.swp
  rw [if_neg (by omega), if_neg (by omega)]
theorem Mv.bound {d' d : Nat → Nat} {n a b : Nat} (h : Mv d' d n a b) (hb : b ≤ n) (hd : ∀ i, i < n → d i < n) : ∀ i, i < n → d' i < n := by
 intro i hi
 by_cases c : a ≤ i ∧ i < b
 ·obtain ⟨p, _, p2, e⟩ := h.img i c.1 c.2
  rw [e]
  exact hd p (by omega)
 ·rw [h.out i (by omega)]
  exact hd i hi
theorem Mv.blk (d : Nat → Nat) (n a b : Nat) : ∀ c, a + c ≤ b → b + c ≤ n → Mv (blk d a b c) d n a (b + c)
 | 0, _, _ => by rw [blk_zero]; exact Mv.refl d n a _
 | c + 1, h1, h2 => by
  rw [blk_step d a b c h1]
  exact (Mv.swp _ n a (b + (c + 1)) (a + c) (b + c) (by omega) (by omega) h2).trans ((Mv.blk d n a b c (by omega) (by omega)).wide (Nat.le_refl _) (by omega))
theorem Mv.ins (d : Nat → Nat) (n i : Nat) (hi : i < n) : ∀ k j, i = j + k → Mv (ins d j i) d n j (i + 1)
 | 0, j, h => by
  have : i = j := by omega
  subst this
  rw [ins_self]
  exact Mv.refl d n _ _
 | k + 1, j, h => by
  rw [← ins_step d j i (by omega)]
  exact (Mv.swp _ n j (i + 1) (j + 1) j (by omega) (by omega) (by omega)).trans ((Mv.ins d n i hi k (j + 1) (by omega)).wide (by omega) (Nat.le_refl _))
theorem Mv.mvr (d : Nat → Nat) (n a : Nat) : ∀ k, a + k < n → Mv (mvr d a (a + k)) d n a (a + k + 1)
 | 0, _ => by rw [Nat.add_zero, mvr_self]; exact Mv.refl d n _ _
 | k + 1, h => by
  rw [← Nat.add_assoc, ← mvr_step d a (a + k) (by omega)]
  exact (Mv.swp _ n a (a + k + 1 + 1) (a + k) (a + k + 1) (by omega) (by omega) (by omega)).trans ((Mv.mvr d n a k (by omega)).wide (Nat.le_refl _) (by omega))
end Go.Proofs.YtkghpiaoggljjaaGreatDoor.Num

/- Insertion and merging of rows in order: what the comparisons tell, and that the outcome is in order. Plain: of no program. -/
namespace Go.Proofs.YtkghpiaoggljjaaGreatDoor.Num

/-- the places from a to b are in order -/
def SortedOn (cf : Nat → Nat → Int) (d : Nat → Nat) (a b : Nat) : Prop := ∀ i j, a ≤ i → i < j → j < b → Lt cf (d i) (d j)
section
variable {cf : Nat → Nat → Int} {n : Nat}
theorem less_no (h : Ord cf n) {x y : Nat} (hx : x < n) (hy : y < n) (hlt : y < x) (hn : ¬ cf x y < 0) : Lt cf y x := by
 have h1 := h.anti y x hy hx
 have h2 := h.zero y x hy hx
 unfold Lt
 omega
theorem less_yes {x y : Nat} (hn : cf x y < 0) : Lt cf x y := .inl hn
/-- ahead of a place in order -/
theorem sorted_le (h : Ord cf n) {d : Nat → Nat} {a b i j x : Nat} (hs : SortedOn cf d a b) (hd : ∀ k, a ≤ k → k < b → d k < n) (hx : x < n) (hi : a ≤ i) (hij : i ≤ j) (hj : j < b) (hl : Lt cf (d j) x) : Lt cf (d i) x := by
 rcases Nat.eq_or_lt_of_le hij with e | e
 ·rw [e]; exact hl
 ·exact Lt.trans h (hd i hi (by omega)) (hd j (by omega) hj) hx (hs i j hi e hj) hl
theorem sorted_ge (h : Ord cf n) {d : Nat → Nat} {a b i j x : Nat} (hs : SortedOn cf d a b) (hd : ∀ k, a ≤ k → k < b → d k < n) (hx : x < n) (hi : a ≤ i) (hij : i ≤ j) (hj : j < b) (hl : Lt cf x (d i)) : Lt cf x (d j) := by
 rcases Nat.eq_or_lt_of_le hij with e | e
 ·rw [← e]; exact hl
 ·exact Lt.trans h hx (hd i hi (by omega)) (hd j (by omega) hj) hl (hs i j hi e hj)
theorem ins_sorted {d : Nat → Nat} {a j i : Nat} (ha : a ≤ j) (hji : j ≤ i) (hs : SortedOn cf d a i) (hx : ∀ p, j ≤ p → p < i → Lt cf (d i) (d p)) (hy : ∀ p, a ≤ p → p < j → Lt cf (d p) (d i)) : SortedOn cf (ins d j i) a (i + 1) := by
 intro p q hp hpq hq
 simp only [ins]
 by_cases h1 : p = j
 ·rw [if_pos h1, if_neg (by omega), if_pos (by omega)]
  exact hx (q - 1) (by omega) (by omega)
 ·rw [if_neg h1]
  by_cases h2 : q = j
  ·rw [if_pos h2, if_neg (by omega)]
   exact hy p hp (by omega)
  ·rw [if_neg h2]
   by_cases h3 : j < p ∧ p ≤ i
   ·rw [if_pos h3, if_pos (by omega)]
    exact hs (p - 1) (q - 1) (by omega) (by omega) (by omega)
   ·rw [if_neg h3]
    by_cases h4 : j < q ∧ q ≤ i
    ·rw [if_pos h4]
     rcases Nat.eq_or_lt_of_le (show p ≤ q - 1 by omega) with e | e
     ·exfalso; omega
     ·exact hs p (q - 1) hp e (by omega)
    ·rw [if_neg h4]
     exact hs p q hp hpq (by omega)
theorem mvr_sorted {d : Nat → Nat} {a i b : Nat} (hi : a + 1 ≤ i) (hib : i ≤ b) (hs : SortedOn cf d (a + 1) b) (hx : ∀ p, a + 1 ≤ p → p < i → Lt cf (d p) (d a)) (hy : ∀ p, i ≤ p → p < b → Lt cf (d a) (d p)) : SortedOn cf (mvr d a (i - 1)) a b := by
 intro p q hp hpq hq
 simp only [mvr]
 by_cases h1 : p = i - 1
 ·rw [if_pos h1, if_neg (by omega), if_neg (by omega)]
  exact hy q (by omega) hq
 ·rw [if_neg h1]
  by_cases h2 : q = i - 1
  ·rw [if_pos h2, if_pos (by omega)]
   exact hx (p + 1) (by omega) (by omega)
  ·rw [if_neg h2]
   by_cases h3 : a ≤ p ∧ p < i - 1
   ·rw [if_pos h3]
    by_cases h4 : a ≤ q ∧ q < i - 1
    ·rw [if_pos h4]
     exact hs (p + 1) (q + 1) (by omega) (by omega) (by omega)
    ·rw [if_neg h4]
     exact hs (p + 1) q (by omega) (by omega) hq
   ·rw [if_neg h3, if_neg (by omega)]
    exact hs p q (by omega) hpq hq
/-- two runs in order beside each other: the left one's numbers lie below t, the right one's do not -/
structure Runs (cf : Nat → Nat → Int) (d : Nat → Nat) (t a m b : Nat) : Prop where
 left : SortedOn cf d a m
 right : SortedOn cf d m b
 lo : ∀ i, a ≤ i → i < m → d i < t
 hi : ∀ i, m ≤ i → i < b → t ≤ d i
/-- how far the search has come: places s0 .. s1 say yes, places r1 .. r0 no -/
structure Sym (cf : Nat → Nat → Int) (d : Nat → Nat) (p s0 r0 s1 r1 : Nat) : Prop where
 yes : ∀ c, s0 ≤ c → c < s1 → Lt cf (d c) (d (p - c))
 no : ∀ c, r1 ≤ c → c < r0 → Lt cf (d (p - c)) (d c)
theorem Sym.up (h : Ord cf n) {d : Nat → Nat} {t a m b p s0 r0 s1 r1 c : Nat} (hd : ∀ i, i < n → d i < n) (hbn : b ≤ n) (R : Runs cf d t a m b) (S : Sym cf d p s0 r0 s1 r1) (h0 : a ≤ s0) (hcm : c < m) (hpc : m ≤ p - c) (hpb : p - s0 < b) (hcp : c ≤ p) (hq : Lt cf (d c) (d (p - c))) : Sym cf d p s0 r0 (c + 1) r1 := by
 refine ⟨fun x h1 h2 => ?_, S.no⟩
 have h3 : Lt cf (d x) (d (p - c)) := sorted_le h R.left (fun k _ hk => hd k (by omega)) (hd _ (by omega)) (by omega) (show x ≤ c by omega) hcm hq
 exact sorted_ge h R.right (fun k _ hk => hd k (by omega)) (hd _ (by omega)) hpc (show p - c ≤ p - x by omega) (by omega) h3
theorem Sym.down (h : Ord cf n) {d : Nat → Nat} {t a m b p s0 r0 s1 r1 c : Nat} (hd : ∀ i, i < n → d i < n) (hbn : b ≤ n) (R : Runs cf d t a m b) (S : Sym cf d p s0 r0 s1 r1) (h0 : a ≤ c) (hrm : r0 ≤ m) (hpr : ∀ x, x < r0 → m ≤ p - x) (hpb : p - c < b) (hq : Lt cf (d (p - c)) (d c)) : Sym cf d p s0 r0 s1 c := by
 refine ⟨S.yes, fun x h1 h2 => ?_⟩
 have hx := hpr x h2
 have h3 : Lt cf (d (p - c)) (d x) := sorted_ge h R.left (fun k _ hk => hd k (by omega)) (hd _ (by omega)) h0 h1 (by omega) hq
 exact sorted_le h R.right (fun k _ hk => hd k (by omega)) (hd _ (by omega)) hx (show p - x ≤ p - c by omega) hpb h3
/-- where the search has ended: what goes to the left half comes ahead of what goes to the right half -/
theorem rot_runs (h : Ord cf n) {d : Nat → Nat} {t a m b mid s0 r0 st : Nat} (hd : ∀ i, i < n → d i < n) (hbn : b ≤ n) (R : Runs cf d t a m b) (ham : a < m) (hmb : m < b) (hmid : mid = (a + b) / 2)
  (hc : (m ≤ mid ∧ s0 = a ∧ r0 = m) ∨ (mid < m ∧ s0 = mid + m - b ∧ r0 = mid)) (hst : s0 ≤ st) (hsr : st ≤ r0) (S : Sym cf d (mid + m - 1) s0 r0 st st) :
  Runs cf (rot d st m (mid + m - st)) t a st mid ∧ Runs cf (rot d st m (mid + m - st)) t mid (mid + m - st) b ∧ (∀ i j, a ≤ i → i < mid → mid ≤ j → j < b → Lt cf (rot d st m (mid + m - st) i) (rot d st m (mid + m - st) j)) := by
 have hle : mid ≤ b := by omega
 have hs0 : a ≤ s0 := by omega
 have hrm : r0 ≤ m := by omega
 have hrd : r0 ≤ mid := by omega
 have heb : mid + m - st ≤ b := by omega
 have hA : ∀ i j, a ≤ i → i < st → mid + m - st ≤ j → j < b → Lt cf (d i) (d j) := by
  intro i j h1 h2 h3 h4
  have hq := S.yes (st - 1) (by omega) (by omega)
  rw [show mid + m - 1 - (st - 1) = mid + m - st by omega] at hq
  exact sorted_ge h R.right (fun k _ hk => hd k (by omega)) (hd _ (by omega)) (by omega) h3 h4 (sorted_le h R.left (fun k _ hk => hd k (by omega)) (hd _ (by omega)) h1 (show i ≤ st - 1 by omega) (by omega) hq)
 have hB : ∀ i j, st ≤ i → i < m → m ≤ j → j < mid + m - st → Lt cf (d j) (d i) := by
  intro i j h1 h2 h3 h4
  have hq := S.no st (Nat.le_refl _) (by omega)
  rw [show mid + m - 1 - st = mid + m - st - 1 by omega] at hq
  exact sorted_le h R.right (fun k _ hk => hd k (by omega)) (hd _ (by omega)) h3 (show j ≤ mid + m - st - 1 by omega) (by omega) (sorted_ge h R.left (fun k _ hk => hd k (by omega)) (hd _ (by omega)) (show a ≤ st by omega) h1 h2 hq)
 have e1 : ∀ k, k < st → rot d st m (mid + m - st) k = d k := fun k hk => by simp only [rot]; rw [if_neg (by omega), if_neg (by omega)]
 have e2 : ∀ k, st ≤ k → k < mid → rot d st m (mid + m - st) k = d (k + (m - st)) := fun k h1 h2 => by simp only [rot]; rw [if_pos (by omega)]
 have e3 : ∀ k, mid ≤ k → k < mid + m - st → rot d st m (mid + m - st) k = d (k - (mid - st)) := fun k h1 h2 => by
  simp only [rot]
  rw [if_neg (by omega), if_pos (by omega)]
  congr 1
  omega
 have e4 : ∀ k, mid + m - st ≤ k → rot d st m (mid + m - st) k = d k := fun k hk => by simp only [rot]; rw [if_neg (by omega), if_neg (by omega)]
 refine ⟨⟨fun i j h1 h2 h3 => ?_, fun i j h1 h2 h3 => ?_, fun i h1 h2 => ?_, fun i h1 h2 => ?_⟩, ⟨fun i j h1 h2 h3 => ?_, fun i j h1 h2 h3 => ?_, fun i h1 h2 => ?_, fun i h1 h2 => ?_⟩, fun i j h1 h2 h3 h4 => ?_⟩
 ·rw [e1 i (by omega), e1 j h3]; exact R.left i j h1 h2 (by omega)
 ·rw [e2 i h1 (by omega), e2 j (by omega) h3]; exact R.right _ _ (by omega) (by omega) (by omega)
 ·rw [e1 i h2]; exact R.lo i h1 (by omega)
 ·rw [e2 i h1 h2]; exact R.hi _ (by omega) (by omega)
 ·rw [e3 i h1 (by omega), e3 j (by omega) h3]; exact R.left _ _ (by omega) (by omega) (by omega)
 ·rw [e4 i h1, e4 j (by omega)]; exact R.right _ _ (by omega) h2 h3
 ·rw [e3 i h1 h2]; exact R.lo _ (by omega) (by omega)
 ·rw [e4 i h1]; exact R.hi _ (by omega) h2
 ·by_cases c1 : i < st
  ·rw [e1 i c1]
   by_cases c2 : j < mid + m - st
   ·rw [e3 j h3 c2]; exact R.left _ _ h1 (by omega) (by omega)
   ·rw [e4 j (by omega)]; exact hA i j h1 c1 (by omega) h4
  ·rw [e2 i (by omega) h2]
   by_cases c2 : j < mid + m - st
   ·rw [e3 j h3 c2]; exact hB _ _ (by omega) (by omega) (by omega) (by omega)
   ·rw [e4 j (by omega)]; exact R.right _ _ (by omega) (by omega) h4
/-- both halves put in order -/
theorem halves {e e1 e2 : Nat → Nat} {a mid b : Nat} (hcr : ∀ i j, a ≤ i → i < mid → mid ≤ j → j < b → Lt cf (e i) (e j)) (m1 : Mv e1 e n a mid) (s1 : SortedOn cf e1 a mid) (m2 : Mv e2 e1 n mid b) (s2 : SortedOn cf e2 mid b) : SortedOn cf e2 a b := by
 intro i j h1 h2 h3
 by_cases c1 : j < mid
 ·rw [m2.out i (by omega), m2.out j (by omega)]; exact s1 i j h1 h2 c1
 ·by_cases c2 : mid ≤ i
  ·exact s2 i j c2 h2 h3
  ·rw [m2.out i (by omega)]
   obtain ⟨p, p1, p2, ep⟩ := m1.img i h1 (by omega)
   obtain ⟨q, q1, q2, eq⟩ := m2.img j (by omega) h3
   rw [ep, eq, m1.out q (by omega)]
   exact hcr p q p1 p2 q1 q2
end
end Go.Proofs.YtkghpiaoggljjaaGreatDoor.Num

/- The library's sort of a row of numbers: exchanges and rotations. Conditions: the row is the call's own. -/
namespace Go.Proofs.YtkghpiaoggljjaaGreatDoor.Num.Mt
open Go.RowKit Go.Lib Num

/-- block B holds d 0 .. d (n - 1) -/
def RowD (W : World) (B n : Nat) (d : Nat → Nat) : Prop := ∀ i, i < n → W.cell? ⟨B, i, none⟩ = some (.int .i64 ((d i : Nat) : Int)) ∧ W.frozen? ⟨B, i, none⟩ = false
/-- behind world w only row B has been written -/
structure SI (w : World) (B n : Nat) (d : Nat → Nat) (W : World) : Prop where
 row : RowD W B n d
 low : w.grownBy W (some B)
 lt : B < w.heap.size
section
variable {w W W' : World} {B n : Nat} {d : Nat → Nat}
theorem SI.step (h : SI w B n d W) (hb : Below W.heap.size W W') : SI w B n d W' := by
 have hl : B < W.heap.size := Nat.lt_of_lt_of_le h.lt h.low.size
 refine ⟨fun i hi => ⟨(hb.cell (p := ⟨B, i, none⟩) hl).trans (h.row i hi).1, ?_⟩, kept_trans h.low (kept_below hb), h.lt⟩
 have := (h.row i hi).2
 simp only [World.frozen?] at this ⊢
 rw [hb.block B hl]
 exact this
theorem SI.drew (h : SI w B n d W) (q : Nat) : SI w B n d (W.drewN q) := ⟨h.row, only_drewN h.low q, h.lt⟩
theorem SI.swp (h : SI w B n d W) {i j : Nat} (hi : i < n) (hj : j < n) (hne : i ≠ j) : SI w B n (swp d i j) ((W.setCell ⟨B, i, none⟩ (.int .i64 ((d j : Nat) : Int))).setCell ⟨B, j, none⟩ (.int .i64 ((d i : Nat) : Int))) := by
 refine ⟨fun k hk => ⟨?_, by rw [World.frozen?_setCell, World.frozen?_setCell]; exact (h.row k hk).2⟩, only_setCell (only_setCell h.low (.inl rfl) _) (.inl rfl) _, h.lt⟩
 have ij : (⟨B, i, none⟩ : Addr) ≠ ⟨B, j, none⟩ := fun e => hne (Addr.mk.inj e).2.1
 by_cases h1 : k = j
 ·subst h1
  rw [World.cell?_setCell_same' _ _ _ (by rw [World.cell?_setCell_other _ _ _ _ ij, (h.row k hk).1]; rfl)]
  simp only [Num.swp]
  rw [if_neg (fun e => hne e.symm)]
  simp
 ·rw [World.cell?_setCell_other _ ⟨B, j, none⟩ ⟨B, k, none⟩ _ (fun e => h1 (Addr.mk.inj e).2.1.symm)]
  by_cases h2 : k = i
  ·subst h2
   rw [World.cell?_setCell_same' _ _ _ (by rw [(h.row k hk).1]; rfl)]
   simp [Num.swp]
  ·rw [World.cell?_setCell_other _ ⟨B, i, none⟩ ⟨B, k, none⟩ _ (fun e => h2 (Addr.mk.inj e).2.1.symm), (h.row k hk).1]
   simp only [Num.swp]
   rw [if_neg h2, if_neg h1]
end
set_option maxHeartbeats 4000000 in
set_option maxRecDepth 100000 in
theorem swapRange_any (w : World) (B n cap g : Nat) (cb : Array Value) (d : Nat → Nat) (a b c : Nat) (W : World) (hI : SI w B n d W) (h1 : a + c ≤ b) (h2 : b + c ≤ n) (hn : n ≤ 1000) :
  Calls Tryz.prog 379 #[.slice (some ⟨B, 0, none⟩) n cap, .int .i64 (a : Int), .int .i64 (b : Int), .int .i64 (c : Int), .func (.func g) #[] cb] W fun e w' => e = .returned (.tuple #[]) ∧ SI w B n (blk d a b c) w' := by
 have HI := Lib.hid hI
 clear hI
 go_enter Tryz.func379, Tryz.ntmps379
 go_wp2_with fail
 go_loopg [10] c (fun gh v10 wx => ∃ i : Nat, v10 = .int .i64 (i : Int) ∧ i + gh = c ∧ SI w B n (blk d a b i) wx)
 case atStart => exact ⟨0, rfl, by omega, by rw [blk_zero]; exact HI.out⟩
 case round =>
  obtain ⟨i, rfl, hg, hi⟩ := hrel
  have HI2 := Lib.hid hi
  clear hi HI
  by_cases hlt : i < c
  ·have hd : decide ((i : Int) < (c : Int)) = true := decide_eq_true (by omega)
   obtain ⟨ca, fa⟩ := HI2.out.row (a + i) (by omega)
   obtain ⟨cbb, fb⟩ := HI2.out.row (b + i) (by omega)
   have HS := Lib.hid (HI2.out.swp (i := a + i) (j := b + i) (by omega) (by omega) (by omega))
   have HST := Lib.hid (blk_step d a b i (by omega))
   rw [← HST.out] at HS
   obtain ⟨x, hx⟩ : ∃ x, blk d a b i (a + i) = x := ⟨_, rfl⟩
   obtain ⟨y, hy⟩ : ∃ x, blk d a b i (b + i) = x := ⟨_, rfl⟩
   rw [hx] at ca HS
   rw [hy] at cbb HS
   clear hx hy
   go_wp2_with fail
   go_region
   replace HS := Lib.hid (HS.out.drew 1)
   obtain ⟨V, hV⟩ : ∃ Z, ((wr.setCell ⟨B, a + i, none⟩ (.int .i64 (y : Int))).setCell ⟨B, b + i, none⟩ (.int .i64 (x : Int))).drew = Z := ⟨_, rfl⟩
   rw [hV]
   replace HS := Lib.hid (show SI w B n (blk d a b (i + 1)) V from by rw [← hV]; exact HS.out)
   clear hV ca cbb fa fb
   go_wp2
   go_roundg (gk - 1)
   case measure => omega
   case rel => exact ⟨i + 1, by go_num, by omega, HS.out⟩
  ·have hd : decide ((i : Int) < (c : Int)) = false := decide_eq_false (by omega)
   obtain rfl : i = c := by omega
   go_wp2
   go_end0
   exact ⟨rfl, HI2.out⟩
set_option maxHeartbeats 4000000 in
set_option maxRecDepth 100000 in
theorem rotate_any (w : World) (B n cap g : Nat) (cb : Array Value) (d : Nat → Nat) (a m b : Nat) (W : World) (hI : SI w B n d W) (h1 : a < m) (h2 : m < b) (hb : b ≤ n) (hn : n ≤ 1000) :
  Calls Tryz.prog 341 #[.slice (some ⟨B, 0, none⟩) n cap, .int .i64 (a : Int), .int .i64 (m : Int), .int .i64 (b : Int), .func (.func g) #[] cb] W fun e w' => e = .returned (.tuple #[]) ∧ SI w B n (rot d a m b) w' ∧ Mv (rot d a m b) d n a b := by
 have HI := Lib.hid hI
 have TS := Lib.hid (fun d a b c W hI h1 h2 => swapRange_any w B n cap g cb d a b c W hI h1 h2 hn)
 obtain ⟨i0, hi0⟩ : ∃ i, m - a = i := ⟨_, rfl⟩
 obtain ⟨j0, hj0⟩ : ∃ j, b - m = j := ⟨_, rfl⟩
 have e1 : (m : Int) - (a : Int) = (i0 : Int) := by omega
 have e2 : (b : Int) - (m : Int) = (j0 : Int) := by omega
 have H0 := Lib.hid (show rot d (m - i0) m (m + j0) = rot d a m b by rw [show m - i0 = a by omega, show m + j0 = b by omega])
 have HA := Lib.hid (show m - i0 = a ∧ m + j0 = b ∧ 0 < i0 ∧ 0 < j0 ∧ i0 ≤ m from by omega)
 clear hI hi0 hj0
 go_enter Tryz.func341, Tryz.ntmps341
 go_wp2_with fail
 go_loopg [10, 11] (i0 + j0) (fun gh v10 v11 wx => ∃ (i j : Nat) (c : Nat → Nat), v10 = .int .i64 (i : Int) ∧ v11 = .int .i64 (j : Int) ∧ i + j ≤ gh ∧ 0 < i ∧ 0 < j ∧ i ≤ i0 ∧ j ≤ j0 ∧ SI w B n c wx ∧ Mv c d n a b ∧ rot c (m - i) m (m + j) = rot d a m b)
 case atStart => exact ⟨i0, j0, d, rfl, rfl, Nat.le_refl _, HA.out.2.2.1, HA.out.2.2.2.1, Nat.le_refl _, Nat.le_refl _, HI.out, Mv.refl d n a b, H0.out⟩
 case round =>
  obtain ⟨i, j, c, rfl, rfl, hg, hi0, hj0, hii, hjj, hI, hM, hR⟩ := hrel
  have HI2 := Lib.hid hI
  have HM := Lib.hid hM
  have HR := Lib.hid hR
  have HA2 := HA.out
  obtain ⟨a1, a2, a3, a4, a5⟩ := HA2
  clear hI hM hR HI H0 e1 e2
  by_cases he : i = j
  ·have HE := Lib.hid he
   have hne : ((i : Int) != (j : Int)) = false := by rw [he]; simp
   have hij : ((i : Int) = (j : Int)) = True := eq_true (by omega)
   have e3 : (m : Int) - (i : Int) = ((m - i : Nat) : Int) := by omega
   have HV := Lib.hid (TS.out c (m - i) m i wr HI2.out (by omega) (by omega))
   have HX := Lib.hid (rot_end c i m (by omega))
   have HY := Lib.hid (Mv.blk c n (m - i) m i (by omega) (by omega))
   subst he
   clear hne
   obtain ⟨p, hp⟩ : ∃ p, m - i = p := ⟨_, rfl⟩
   rw [hp] at e3 HV
   go_wp2_with fail
   refine HV.out.mono ?_
   rintro e w1 ⟨rfl, hs⟩
   have HS := Lib.hid hs
   clear hs
   go_wp2
   go_end0
   rw [← hp, HX.out, HR.out] at HS
   have hm := HY.out
   rw [HX.out, HR.out] at hm
   exact ⟨rfl, HS.out, (hm.wide (by omega) (by omega)).trans HM.out⟩
  ·have hne : ((i : Int) != (j : Int)) = true := by rw [bne_iff_ne]; omega
   have hij : ((i : Int) = (j : Int)) = False := eq_false (by omega)
   have hij2 : (i = j) = False := eq_false he
   have e3 : (m : Int) - (i : Int) = ((m - i : Nat) : Int) := by omega
   by_cases hlt : j < i
   ·have hd : decide ((j : Int) < (i : Int)) = true := decide_eq_true (by omega)
    have e4 : (i : Int) - (j : Int) = ((i - j : Nat) : Int) := by omega
    have HV := Lib.hid (TS.out c (m - i) m j wr HI2.out (by omega) (by omega))
    have HX := Lib.hid (rot_more c i j m hlt (by omega))
    have HY := Lib.hid (Mv.blk c n (m - i) m j (by omega) (by omega))
    obtain ⟨p, hp⟩ : ∃ p, m - i = p := ⟨_, rfl⟩
    rw [hp] at e3 HV
    clear he
    go_wp2_with fail
    refine HV.out.mono ?_
    rintro e w1 ⟨rfl, hs⟩
    have HS := Lib.hid hs
    clear hs
    go_wp2
    go_roundg (gk - 1)
    case measure => omega
    case rel =>
     refine ⟨i - j, j, blk c p m j, rfl, rfl, by omega, by omega, by omega, by omega, by omega, HS.out, ?_, ?_⟩
     ·rw [← hp]; exact (HY.out.wide (by omega) (by omega)).trans HM.out
     ·rw [← hp, show m - (i - j) = m - i + j by omega, HX.out]; exact HR.out
   ·have hd : decide ((j : Int) < (i : Int)) = false := decide_eq_false (by omega)
    have hil : i < j := by omega
    have e4 : (j : Int) - (i : Int) = ((j - i : Nat) : Int) := by omega
    have e5 : (m : Int) + (j : Int) - (i : Int) = ((m + j - i : Nat) : Int) := by omega
    have HV := Lib.hid (TS.out c (m - i) (m + j - i) i wr HI2.out (by omega) (by omega))
    have HX := Lib.hid (rot_less c i j m (by omega) (by omega))
    have HY := Lib.hid (Mv.blk c n (m - i) (m + j - i) i (by omega) (by omega))
    obtain ⟨p, hp⟩ : ∃ p, m - i = p := ⟨_, rfl⟩
    obtain ⟨q, hq⟩ : ∃ p, m + j - i = p := ⟨_, rfl⟩
    rw [hp] at e3 HV
    rw [hq] at e5 HV
    clear he
    go_wp2_with fail
    refine HV.out.mono ?_
    rintro e w1 ⟨rfl, hs⟩
    have HS := Lib.hid hs
    clear hs
    go_wp2
    go_roundg (gk - 1)
    case measure => omega
    case rel =>
     refine ⟨i, j - i, blk c p q i, rfl, rfl, by omega, by omega, by omega, by omega, by omega, HS.out, ?_, ?_⟩
     ·rw [← hp, ← hq]; exact (HY.out.wide (by omega) (by omega)).trans HM.out
     ·rw [← hp, ← hq, HX.out]; exact HR.out
end Go.Proofs.YtkghpiaoggljjaaGreatDoor.Num.Mt

/- A region that draws its order, by one condition on what has come up, the frame and the world: each operation is walked once. Plain: of no program. -/
namespace Go.Proofs.YtkghpiaoggljjaaGreatDoor.Num

section
variable {P : Program} {ops : Array Oper} {Q : Exit → Act → World → Prop} {md : Region.Mode}

def unl (ops : Array Oper) (listed : Array Bool) : List Nat := (List.range ops.size).filter fun j => !(listed.getD j true)
theorem unl_set {listed : Array Bool} {i : Nat} (hi : i < ops.size) (hun : listed.getD i true = false) : (unl ops (listed.setIfInBounds i true)).length < (unl ops listed).length := by
 have hsz : i < listed.size := by
  rcases Nat.lt_or_ge i listed.size with h | h
  ·exact h
  ·simp [Array.getElem?_eq_none h] at hun
 have e : unl ops (listed.setIfInBounds i true) = (unl ops listed).filter fun j => !(j == i) := by
  unfold unl
  rw [List.filter_filter]
  apply List.filter_congr
  intro j hj
  by_cases hji : i = j
  ·subst hji; simp [hsz]
  ·have : (j == i) = false := by simp; omega
   rw [getD_set_ne true hji, this]; simp
 rw [e, List.length_filter_lt_length_iff_exists]
 refine ⟨i, ?_, by simp⟩
 unfold unl
 rw [List.mem_filter, List.mem_range]
 exact ⟨hi, by rw [hun]; rfl⟩
theorem unl_ready {listed : Array Bool} {i : Nat} (h : i ∈ Region.ready md ops listed) : 0 < (unl ops listed).length := by
 obtain ⟨h0, o, ho, _⟩ := mem_ready.1 h
 have hi : i < ops.size := (Array.getElem?_eq_some_iff.1 ho).1
 refine List.length_pos_of_mem (a := i) ?_
 unfold unl
 rw [List.mem_filter, List.mem_range]
 exact ⟨hi, by rw [h0]; rfl⟩

theorem wpAny_inv (I : Array Bool → Act → World → Prop)
  (hstep : ∀ listed a w, I listed a w → ∀ i o, ops[i]? = some o → listed.getD i true = false → (∀ e ∈ o.after, Region.binds md e = true → listed.getD e.on false = true) → wpOp P ops Q i (fun a' w' => I (listed.setIfInBounds i true) a' w') a w)
  (hdone : ∀ listed a w, I listed a w → Region.ready md ops listed = [] → Q .normal a w) :
  ∀ fuel listed a w, (unl ops listed).length ≤ fuel → I listed a w → wpAny P md ops Q fuel listed a w := by
 intro fuel
 induction fuel with
 | zero =>
  intro listed a w hu hI
  have hr : Region.ready md ops listed = [] := by
   cases hr : Region.ready md ops listed with
   | nil => rfl
   | cons i r => have := unl_ready (md := md) (ops := ops) (listed := listed) (i := i) (by rw [hr]; simp); omega
  exact ⟨hr, hdone listed a w hI hr⟩
 | succ n ih =>
  intro listed a w hu hI
  refine ⟨fun hr => hdone listed a w hI hr, fun i hi => ?_⟩
  obtain ⟨h0, o, ho, hall⟩ := mem_ready.1 hi
  refine wpOp_mono (fun a' w' h => ih _ a' w' ?_ h) (hstep listed a w hI i o ho h0 hall)
  have := unl_set (ops := ops) (Array.getElem?_eq_some_iff.1 ho).1 h0
  omega

theorem wp_region_inv {id : Nat} {a : Act} {w : World} (hm : P.follows .mixedOrders = true) (I : Array Bool → Act → World → Prop)
  (h0 : I (Array.replicate ops.size false) a w.drew)
  (hstep : ∀ listed a w, I listed a w → ∀ i o, ops[i]? = some o → listed.getD i true = false → (∀ e ∈ o.after, Region.binds .any e = true → listed.getD e.on false = true) → wpOp P ops Q i (fun a' w' => I (listed.setIfInBounds i true) a' w') a w)
  (hdone : ∀ listed a w, I listed a w → Region.ready .any ops listed = [] → Q .normal a w) : (Code.region id ops true).wp P Q a w :=
 wp_region_any hm (wpAny_inv I hstep hdone _ _ _ _ (by
  unfold unl
  refine Nat.le_trans (List.length_filter_le _ _) ?_
  rw [List.length_range]; exact Nat.le_refl _) h0)

/-- the operations that number i waits for -/
def needs (md : Region.Mode) (ops : Array Oper) (i : Nat) : List Nat :=
 match ops[i]? with
 | some o => (o.after.toList.filter fun e => Region.binds md e).map (·.on)
 | none => []
/-- every edge leads back -/
def backB (ops : Array Oper) : Bool := (List.range ops.size).all fun i => match ops[i]? with
 | some o => o.after.toList.all fun e => !Region.binds .any e || decide (e.on < i)
 | none => true
theorem all_listed {listed : Array Bool} (hsz : listed.size = ops.size) (hb : backB ops = true) (hr : Region.ready .any ops listed = []) : ∀ j, j < ops.size → listed.getD j false = true := by
 intro j
 induction j using Nat.strongRecOn with
 | ind j ih =>
  intro hj
  cases hl : listed.getD j false with
  | true => rfl
  | false =>
   have hun : listed.getD j true = false := by
    have hj' : j < listed.size := by omega
    simp [hj'] at hl ⊢
    exact hl
   have ho : ops[j]? = some ops[j] := Array.getElem?_eq_getElem hj
   have hbj := List.all_eq_true.1 hb j (List.mem_range.2 hj)
   rw [ho] at hbj
   have : j ∈ Region.ready .any ops listed := mem_ready.2 ⟨hun, ops[j], ho, fun e he hbd => by
    have h1 := List.all_eq_true.1 hbj e (Array.mem_toList_iff.2 he)
    rw [hbd] at h1
    have := of_decide_eq_true h1
    exact ih e.on this (by omega)⟩
   rw [hr] at this
   cases this

theorem step_of {i : Nat} {K : Act → World → Prop} {a : Act} {w : World} (o : Oper) (ho : ops[i]? = some o)
  (h : ∀ K' : Act → World → Prop, Shut (∀ a w, K a w → K' a w) → if Region.wanted o (yielded ops a.tmps) = true then Oper.wp P o a w K' Q else K' (a.put o.dst undef) w) : wpOp P ops Q i K a w :=
 wpOp_step ho (fun K' hK => h K' hK)

theorem bit_mono {listed : Array Bool} {i j : Nat} (h : listed.getD j false = true) : (listed.setIfInBounds i true).getD j false = true := by
 by_cases e : i = j
 ·subst e
  have hsz : i < listed.size := by
   rcases Nat.lt_or_ge i listed.size with h' | h'
   ·exact h'
   ·simp [Array.getElem?_eq_none h'] at h
  simp [hsz]
 ·rwa [getD_set_ne false e]
theorem bit_off {listed : Array Bool} {i : Nat} (h : listed.getD i true = false) : ¬ listed.getD i false = true := by
 have hsz : i < listed.size := by
  rcases Nat.lt_or_ge i listed.size with h' | h'
  ·exact h'
  ·simp [Array.getElem?_eq_none h'] at h
 simp [hsz] at h ⊢
 exact h
theorem bit_none {n i : Nat} : ¬ (Array.replicate n false).getD i false = true := by
 simp [Array.getElem?_replicate]
 split <;> simp
theorem bit_self {listed : Array Bool} {i : Nat} (h : listed.getD i true = false) : (listed.setIfInBounds i true).getD i false = true := by
 have hsz : i < listed.size := by
  rcases Nat.lt_or_ge i listed.size with h' | h'
  ·exact h'
  ·simp [Array.getElem?_eq_none h'] at h
 simp [hsz]
end
end Go.Proofs.YtkghpiaoggljjaaGreatDoor.Num

/- A region that draws its order: what each operation yields is said once, each operation is walked once. Plain: of no program. -/
namespace Go.Proofs.YtkghpiaoggljjaaGreatDoor.Num
open Go.RowKit Go.Lib

/-- what an operation yields: a known value; a row of its own; a variable of its own (zero, then what store number st writes); a store; anything that lasts; a block into which several stores write, each its own cells; what is said elsewhere -/
inductive RK where
 | pure (v : Value)
 | row (cs : Array Value) (T : TypeId) (n : Nat)
 | box (g : Option Nat) (z f : Array Value) (T : TypeId) (st : Nat)
 | put (al : Nat)
 | any (R : Value → World → Prop)
 | blk (g : Option Nat) (z f : List Value) (sts : List (Option Nat)) (T : TypeId)
 | free
def RK.owns : RK → Bool
 | .row .. => true
 | .box .. => true
 | .blk .. => true
 | _ => false
def RK.isAny : RK → Bool
 | .any _ => true
 | .blk .. => true
 | _ => false
def blkOf : Value → Option Nat
 | .pointer (some p) => some p.block
 | .slice (some p) _ _ => some p.block
 | _ => none
/-- cell by cell: what stood, or what its store wrote -/
def mixL (listed : Array Bool) : List Value → List Value → List (Option Nat) → List Value
 | a :: z, b :: f, some st :: sts => (if listed.getD st false = true then b else a) :: mixL listed z f sts
 | a :: z, _ :: f, none :: sts => a :: mixL listed z f sts
 | z, _, _ => z
theorem mix_ne {listed : Array Bool} {i : Nat} : ∀ (z f : List Value) (sts : List (Option Nat)), (∀ s ∈ sts, s ≠ some i) → mixL (listed.setIfInBounds i true) z f sts = mixL listed z f sts
 | a :: z, b :: f, some st :: sts, h => by
  have h1 : i ≠ st := fun e => h (some st) List.mem_cons_self (by rw [e])
  show (if (listed.setIfInBounds i true).getD st false = true then b else a) :: _ = (if listed.getD st false = true then b else a) :: _
  rw [getD_set_ne false h1, mix_ne z f sts (fun s hs => h s (List.mem_cons_of_mem _ hs))]
 | a :: z, _ :: f, none :: sts, h => by
  show a :: mixL _ z f sts = a :: mixL _ z f sts
  rw [mix_ne z f sts (fun s hs => h s (List.mem_cons_of_mem _ hs))]
 | [], [], _, _ => by simp [mixL]
 | [], _ :: _, _, _ => by simp [mixL]
 | _ :: _, [], _, _ => by simp [mixL]
 | _ :: _, _ :: _, [], _ => by simp [mixL]
def RK.holds (B : Nat) (listed : Array Bool) (v : Value) (W : World) : RK → Prop
 | .pure c => v = c
 | .row cs T n => ∃ G, v = .slice (some ⟨G, 0, none⟩) n n ∧ B ≤ G ∧ W.heap[G]? = some (.cells cs T (0, 0))
 | .box g z f T st => ∃ G, v = .pointer (some ⟨G, 0, none⟩) ∧ (∀ k, g = some k → G = k) ∧ B ≤ G ∧ W.heap[G]? = some (.cells (if listed.getD st false = true then f else z) T (0, 0))
 | .put _ => True
 | .free => True
 | .any R => R v W
 | .blk g z f sts T => ∃ G, v = .pointer (some ⟨G, 0, none⟩) ∧ (∀ k, g = some k → G = k) ∧ B ≤ G ∧ W.heap[G]? = some (.cells (mixL listed z f sts).toArray T (0, 0))
def RK.putsB : RK → Nat → Bool
 | .put al, j => al == j
 | _, _ => false
def RK.boxB (n : Nat) (ks : List RK) (j : Nat) : RK → Bool
 | .box _ _ _ _ st => decide (n ≤ st) || match ks[st]? with
  | some k => k.putsB j
  | none => false
 | .put _ => decide (j < n)
 | .blk _ _ _ sts _ => sts.all fun s => match s with
  | none => true
  | some st => match ks[st]? with
   | some k => k.putsB j
   | none => false
 | _ => true
/-- each variable's store is its own; what stands behind the first n are blocks from before -/
def okB (n : Nat) (ks : List RK) : Bool := (List.range ks.length).all fun j => match ks[j]? with
 | some k => k.boxB n ks j
 | none => true
def RK.lasts : RK → Prop
 | .any R => ∀ v W W', R v W → Below W.heap.size W W' → R v W'
 | _ => True

/-- nothing that only lasts, no block with several stores -/
def NoAny (ks : List RK) : Prop := (∀ (i : Nat) (R : Value → World → Prop), ks[i]? ≠ some (.any R)) ∧ ∀ (i : Nat) (g : Option Nat) (z f : List Value) (sts : List (Option Nat)) (T : TypeId), ks[i]? ≠ some (.blk g z f sts T)
theorem noAny_of {ks : List RK} (h : (ks.all fun k => !k.isAny) = true) : NoAny ks :=
 ⟨fun i R hi => (by have := List.all_eq_true.1 h _ (List.mem_of_getElem? hi); cases this), fun i g z f sts T hi => (by have := List.all_eq_true.1 h _ (List.mem_of_getElem? hi); cases this)⟩
theorem lasts_of' {ks : List RK} (h : ∀ (i : Nat) (R : Value → World → Prop), ks[i]? ≠ some (.any R)) : ∀ (i : Nat) (k : RK), ks[i]? = some k → k.lasts := by
 intro i k hi
 cases k with
 | any R => exact absurd hi (h i R)
 | pure v => trivial
 | row cs T n => trivial
 | box g z f T st => trivial
 | put al => trivial
 | free => trivial
 | blk g z f sts T => trivial
theorem lasts_of {ks : List RK} (h : NoAny ks) : ∀ (i : Nat) (k : RK), ks[i]? = some k → k.lasts := lasts_of' h.1
theorem okB_blk {n : Nat} {ks : List RK} (h : okB n ks = true) {j i : Nat} {g : Option Nat} {z f : List Value} {sts : List (Option Nat)} {T : TypeId} (hj : ks[j]? = some (.blk g z f sts T)) (hi : some i ∈ sts) : ks[i]? = some (.put j) := by
 have hlt := (List.getElem?_eq_some_iff.1 hj).1
 have := List.all_eq_true.1 h j (List.mem_range.2 hlt)
 rw [hj] at this
 have this := List.all_eq_true.1 this (some i) hi
 have this : (match ks[i]? with | some k => k.putsB j | none => false) = true := this
 cases hs : ks[i]? with
 | none => rw [hs] at this; cases this
 | some k =>
  rw [hs] at this
  cases k with
  | put al =>
   have e : (al == j) = true := this
   rw [beq_iff_eq.1 e]
  | pure v => cases this
  | row cs T n => cases this
  | box g z f T st => cases this
  | any R => cases this
  | free => cases this
  | blk g z f sts T => cases this
theorem okB_box {n : Nat} {ks : List RK} (h : okB n ks = true) {j : Nat} {z f : Array Value} {T : TypeId} {st : Nat} {g : Option Nat} (hj : ks[j]? = some (.box g z f T st)) : n ≤ st ∨ ks[st]? = some (.put j) := by
 have hlt := (List.getElem?_eq_some_iff.1 hj).1
 have := List.all_eq_true.1 h j (List.mem_range.2 hlt)
 rw [hj] at this
 have this : (decide (n ≤ st) || match ks[st]? with | some k => k.putsB j | none => false) = true := this
 rw [Bool.or_eq_true] at this
 rcases this with h | this
 ·exact .inl (of_decide_eq_true h)
 right
 cases hs : ks[st]? with
 | none => rw [hs] at this; cases this
 | some k =>
  rw [hs] at this
  cases k with
  | put al =>
   have e : (al == j) = true := this
   rw [beq_iff_eq.1 e]
  | pure v => cases this
  | row cs T n => cases this
  | box g z f T st => cases this
  | any R => cases this
  | free => cases this
  | blk g z f sts T => cases this
theorem okB_put {n : Nat} {ks : List RK} (h : okB n ks = true) {j al : Nat} (hj : ks[j]? = some (.put al)) : j < n := by
 have hlt := (List.getElem?_eq_some_iff.1 hj).1
 have := List.all_eq_true.1 h j (List.mem_range.2 hlt)
 rw [hj] at this
 exact of_decide_eq_true this

/-- it has come up, or it was there before -/
def On (n : Nat) (listed : Array Bool) (i : Nat) : Prop := n ≤ i ∨ listed.getD i false = true
structure Fs (nd : Nat → Nat → Bool) (n : Nat) (ks : List RK) (w : World) (row : Option Nat) (listed : Array Bool) (vs : List Value) (W : World) : Prop where
 lsz : listed.size = n
 len : vs.length = ks.length
 low : w.grownBy W row
 get : ∀ i k, ks[i]? = some k → On n listed i → k.holds w.heap.size listed (vs.getD i undef) W
 ne : ∀ i j ki kj, i ≠ j → ks[i]? = some ki → ks[j]? = some kj → ki.owns = true → kj.owns = true → On n listed i → On n listed j → blkOf (vs.getD i undef) ≠ blkOf (vs.getD j undef)
 puts : ∀ i al, ks[i]? = some (.put al) → listed.getD i false = true → On n listed al
 back : ∀ i j, listed.getD i false = true → nd i j = true → listed.getD j false = true
theorem On.mono {n : Nat} {listed : Array Bool} {i j : Nat} (h : On n listed j) : On n (listed.setIfInBounds i true) j := h.imp id bit_mono
theorem On.of_set {n : Nat} {listed : Array Bool} {i j : Nat} (h : On n (listed.setIfInBounds i true) j) (hne : i ≠ j) : On n listed j := h.imp id fun h => by rwa [getD_set_ne false hne] at h

theorem getD_vset (vs : List Value) (i : Nat) (v d : Value) (hi : i < vs.length) : (vs.set i v).getD i d = v := by
 simp [List.getD, hi]
theorem getD_vset_ne {vs : List Value} {i j : Nat} {v d : Value} (h : i ≠ j) : (vs.set i v).getD j d = vs.getD j d := by
 simp [List.getD, List.getElem?_set_ne h]
theorem RK.blkAt {k : RK} {B : Nat} {listed : Array Bool} {v : Value} {W : World} (h : k.holds B listed v W) (ho : k.owns = true) : ∃ G, blkOf v = some G ∧ B ≤ G ∧ G < W.heap.size := by
 cases k with
 | row cs T n => obtain ⟨G, rfl, hB, hG⟩ := h; exact ⟨G, rfl, hB, heap_lt hG⟩
 | box g z f T st => obtain ⟨G, rfl, _, hB, hG⟩ := h; exact ⟨G, rfl, hB, heap_lt hG⟩
 | pure v => cases ho
 | put al => cases ho
 | free => cases ho
 | any R => cases ho
 | blk g z f sts T => obtain ⟨G, rfl, _, hB, hG⟩ := h; exact ⟨G, rfl, hB, heap_lt hG⟩

theorem back_set {nd : Nat → Nat → Bool} {listed : Array Bool} {i : Nat} (h : ∀ i j, listed.getD i false = true → nd i j = true → listed.getD j false = true) (hpre : ∀ j, nd i j = true → listed.getD j false = true) :
  ∀ a b, (listed.setIfInBounds i true).getD a false = true → nd a b = true → (listed.setIfInBounds i true).getD b false = true := by
 intro a b ha hn
 by_cases e : i = a
 ·subst e; exact bit_mono (hpre b hn)
 ·rw [getD_set_ne false e] at ha
  exact bit_mono (h a b ha hn)
theorem below_only {w W W' : World} {row : Option Nat} (h : w.grownBy W row) (hb : Below w.heap.size W W') : w.grownBy W' row :=
 ⟨hb.os.trans h.os, hb.tape.trans h.tape, hb.output.trans h.output, Nat.le_trans h.size hb.size, fun k hk hr => (hb.block k hk).trans (h.block k hk hr)⟩
/-- an operation that writes nothing that stood -/
theorem Fs.grow {nd : Nat → Nat → Bool} {n : Nat} {ks : List RK} {w : World} {row : Option Nat} {listed : Array Bool} {vs : List Value} {W W' : World} (hF : Fs nd n ks w row listed vs W) (hok : okB n ks = true) (hl : ∀ (i : Nat) (k : RK), ks[i]? = some k → k.lasts)
  {i : Nat} {k : RK} {v : Value} (hpre : ∀ j, nd i j = true → listed.getD j false = true) (hk : ks[i]? = some k) (hnp : ∀ al, k ≠ .put al) (hb : Below W.heap.size W W') (hv : k.holds w.heap.size (listed.setIfInBounds i true) v W')
  (hfresh : k.owns = true → ∃ G, blkOf v = some G ∧ W.heap.size ≤ G) : Fs nd n ks w row (listed.setIfInBounds i true) (vs.set i v) W' := by
 have hi : i < vs.length := by rw [hF.len]; exact (List.getElem?_eq_some_iff.1 hk).1
 refine ⟨by simpa using hF.lsz, by rw [List.length_set]; exact hF.len, only_trans hF.low (only_of_below hb row), ?_, ?_, ?_, back_set hF.back hpre⟩
 ·intro j kj hj hlj
  by_cases e : i = j
  ·subst e
   rw [hk] at hj
   cases hj
   rw [getD_vset _ _ _ _ hi]; exact hv
  ·have hlj' := hlj.of_set e
   rw [getD_vset_ne e]
   have h := hF.get j kj hj hlj'
   cases kj with
   | pure c => exact h
   | row cs T n => obtain ⟨G, hG, hB, hh⟩ := h; exact ⟨G, hG, hB, keep_block hh hb⟩
   | box g z f T st =>
    obtain ⟨G, hG, hgg, hB, hh⟩ := h
    have hne : listed.getD st false = (listed.setIfInBounds i true).getD st false := by
     rcases okB_box hok hj with hst | hst
     ·have h1 : ¬ st < listed.size := by rw [hF.lsz]; omega
      simp [h1]
     ·have hne : i ≠ st := by
       rintro rfl
       rw [hk] at hst
       exact hnp j (Option.some.inj hst)
      rw [getD_set_ne false hne]
    refine ⟨G, hG, hgg, hB, ?_⟩
    rw [← hne]
    exact keep_block hh hb
   | put al => trivial
   | free => trivial
   | any R => exact hl j _ hj _ _ _ h hb
   | blk g z f sts T =>
    obtain ⟨G, hG, hgg, hB, hh⟩ := h
    refine ⟨G, hG, hgg, hB, ?_⟩
    rw [mix_ne z f sts (fun x hx => by
     rintro rfl
     have hst := okB_blk hok hj hx
     rw [hk] at hst
     exact hnp j (Option.some.inj hst))]
    exact keep_block hh hb
 ·intro a b ka kb hab ha hb' oa ob la lb
  by_cases ea : i = a
  ·subst ea
   rw [hk] at ha
   cases ha
   have lb' := lb.of_set hab
   rw [getD_vset _ _ _ _ hi, getD_vset_ne hab]
   obtain ⟨G, hG, hge⟩ := hfresh oa
   obtain ⟨G', hG', _, hlt⟩ := RK.blkAt (hF.get b kb hb' lb') ob
   rw [hG, hG']
   intro h
   have := Option.some.inj h
   omega
  ·have la' := la.of_set ea
   rw [getD_vset_ne ea]
   by_cases eb : i = b
   ·subst eb
    rw [hk] at hb'
    cases hb'
    rw [getD_vset _ _ _ _ hi]
    obtain ⟨G, hG, hge⟩ := hfresh ob
    obtain ⟨G', hG', _, hlt⟩ := RK.blkAt (hF.get a ka ha la') oa
    rw [hG, hG']
    intro h
    have := Option.some.inj h
    omega
   ·rw [getD_vset_ne eb]
    exact hF.ne a b ka kb hab ha hb' oa ob la' (lb.of_set eb)
 ·intro a al ha la
  by_cases ea : i = a
  ·subst ea
   rw [hk] at ha
   exact absurd (Option.some.inj ha) (hnp al)
  ·rw [getD_set_ne false ea] at la
   exact (hF.puts a al ha la).mono
section
variable {nd : Nat → Nat → Bool} {n : Nat} {ks : List RK} {w : World} {rr : Option Nat} {listed : Array Bool} {vs : List Value} {W W' : World} {i : Nat}
theorem Fs.pure (hF : Fs nd n ks w rr listed vs W) (hok : okB n ks = true) (hl : ∀ (i : Nat) (k : RK), ks[i]? = some k → k.lasts) (hpre : ∀ j, nd i j = true → listed.getD j false = true) {c : Value} (hk : ks[i]? = some (.pure c)) (hb : Below W.heap.size W W') : Fs nd n ks w rr (listed.setIfInBounds i true) (vs.set i c) W' :=
 hF.grow hok hl hpre hk (fun _ h => by cases h) hb rfl (fun h => by cases h)
theorem Fs.any (hF : Fs nd n ks w rr listed vs W) (hok : okB n ks = true) (hl : ∀ (i : Nat) (k : RK), ks[i]? = some k → k.lasts) (hpre : ∀ j, nd i j = true → listed.getD j false = true) {R : Value → World → Prop} (hk : ks[i]? = some (.any R)) {v : Value} (hb : Below W.heap.size W W') (hv : R v W') : Fs nd n ks w rr (listed.setIfInBounds i true) (vs.set i v) W' :=
 hF.grow hok hl hpre hk (fun _ h => by cases h) hb hv (fun h => by cases h)
theorem Fs.row (hF : Fs nd n ks w rr listed vs W) (hok : okB n ks = true) (hl : ∀ (i : Nat) (k : RK), ks[i]? = some k → k.lasts) (hpre : ∀ j, nd i j = true → listed.getD j false = true) {cs : Array Value} {T : TypeId} {m : Nat} (hk : ks[i]? = some (.row cs T m)) : Fs nd n ks w rr (listed.setIfInBounds i true) (vs.set i (.slice (some ⟨W.heap.size, 0, none⟩) m m)) (W.alloc (.cells cs T)) :=
 hF.grow hok hl hpre hk (fun _ h => by cases h) ((Below.refl _ _).alloc (Nat.le_refl _) _) ⟨_, rfl, hF.low.size, heap_alloc_new W _⟩ (fun _ => ⟨_, rfl, Nat.le_refl _⟩)
theorem Fs.box (hF : Fs nd n ks w rr listed vs W) (hok : okB n ks = true) (hl : ∀ (i : Nat) (k : RK), ks[i]? = some k → k.lasts) (hpre : ∀ j, nd i j = true → listed.getD j false = true) (hun : listed.getD i true = false) {z f : Array Value} {T : TypeId} {st : Nat} (hk : ks[i]? = some (.box none z f T st)) : Fs nd n ks w rr (listed.setIfInBounds i true) (vs.set i (.pointer (some ⟨W.heap.size, 0, none⟩))) (W.alloc (.cells z T)) := by
 have hin : i < listed.size := by
  rcases Nat.lt_or_ge i listed.size with h | h
  ·exact h
  ·simp [Array.getElem?_eq_none h] at hun
 have hoff : ¬ (listed.setIfInBounds i true).getD st false = true := by
  rcases okB_box hok hk with hst | hst
  ·have h1 : ¬ st < listed.size := by rw [hF.lsz]; omega
   simp [h1]
  ·have hne : i ≠ st := by
    rintro rfl
    rw [hk] at hst
    cases hst
   rw [getD_set_ne false hne]
   intro h
   rcases hF.puts st i hst h with h | h
   ·have := hF.lsz; omega
   ·exact bit_off hun h
 refine hF.grow hok hl hpre hk (fun _ h => by cases h) ((Below.refl _ _).alloc (Nat.le_refl _) _) ⟨_, rfl, fun _ h => (by cases h), hF.low.size, ?_⟩ (fun _ => ⟨_, rfl, Nat.le_refl _⟩)
 rw [if_neg hoff]
 exact heap_alloc_new W _
theorem Fs.put' (hF : Fs nd n ks w rr listed vs W) (hok : okB n ks = true) (hna : ∀ (i : Nat) (R : Value → World → Prop), ks[i]? ≠ some (.any R)) (hpre : ∀ j, nd i j = true → listed.getD j false = true) (hun : listed.getD i true = false) {al : Nat} (hk : ks[i]? = some (.put al)) {z f : Array Value} {T : TypeId} {G : Nat} {g : Option Nat} (v : Value)
  (hbox : ks[al]? = some (.box g z f T i)) (hal : On n listed al) (hG : vs.getD al undef = .pointer (some ⟨G, 0, none⟩)) (hnew : W'.heap[G]? = some (.cells f T (0, 0))) (hoth : ∀ k, k ≠ G → W'.heap[k]? = W.heap[k]?) (hb : Below w.heap.size W W') : Fs nd n ks w rr (listed.setIfInBounds i true) (vs.set i v) W' := by
 have hi : i < vs.length := by rw [hF.len]; exact (List.getElem?_eq_some_iff.1 hk).1
 have hin := okB_put hok hk
 have hia : i ≠ al := by
  rintro rfl
  rw [hk] at hbox
  cases hbox
 refine ⟨by simpa using hF.lsz, by rw [List.length_set]; exact hF.len, below_only hF.low hb, ?_, ?_, ?_, back_set hF.back hpre⟩
 ·intro j kj hj hlj
  by_cases e : i = j
  ·subst e
   rw [hk] at hj
   cases hj
   trivial
  ·have hlj' := hlj.of_set e
   rw [getD_vset_ne e]
   have h := hF.get j kj hj hlj'
   have far : kj.owns = true → j ≠ al → ∀ G', blkOf (vs.getD j undef) = some G' → G' ≠ G := by
    intro o hja G' hG' e'
    have := hF.ne j al kj _ hja hj hbox o rfl hlj' hal
    rw [hG', hG, e'] at this
    exact this rfl
   cases kj with
   | pure c => exact h
   | row cs T' m =>
    obtain ⟨G', hG', hB, hh⟩ := h
    have hja : j ≠ al := by rintro rfl; rw [hj] at hbox; cases hbox
    have hne := far rfl hja G' (by rw [hG']; rfl)
    exact ⟨G', hG', hB, (hoth _ hne).trans hh⟩
   | box g' z' f' T' st =>
    obtain ⟨G', hG', hgg, hB, hh⟩ := h
    by_cases hja : j = al
    ·subst hja
     rw [hbox] at hj
     cases hj
     rw [hG] at hG'
     have : G = G' := by
      have := congrArg blkOf hG'
      exact Option.some.inj this
     subst this
     refine ⟨G, hG, hgg, hB, ?_⟩
     rw [if_pos (bit_self hun)]
     exact hnew
    ·have hne := far rfl hja G' (by rw [hG']; rfl)
     have hns : i ≠ st := by
      rintro rfl
      rcases okB_box hok hj with hst | hst
      ·omega
      ·rw [hk] at hst
       have := Option.some.inj hst
       injection this with this
       exact hja this.symm
     refine ⟨G', hG', hgg, hB, ?_⟩
     rw [getD_set_ne false hns]
     exact (hoth _ hne).trans hh
   | put _ => trivial
   | free => trivial
   | any R => exact absurd hj (hna j R)
   | blk g' z' f' sts' T' =>
    obtain ⟨G', hG', hgg, hB, hh⟩ := h
    have hja : j ≠ al := by rintro rfl; rw [hj] at hbox; cases hbox
    have hne := far rfl hja G' (by rw [hG']; rfl)
    refine ⟨G', hG', hgg, hB, ?_⟩
    rw [mix_ne z' f' sts' (fun x hx => by
     rintro rfl
     have hst := okB_blk hok hj hx
     rw [hk] at hst
     have := Option.some.inj hst
     injection this with this
     exact hja this.symm)]
    exact (hoth _ hne).trans hh
 ·intro a b ka kb hab ha hb' oa ob la lb
  have ea : i ≠ a := by rintro rfl; rw [hk] at ha; cases ha; cases oa
  have eb : i ≠ b := by rintro rfl; rw [hk] at hb'; cases hb'; cases ob
  rw [getD_vset_ne ea, getD_vset_ne eb]
  exact hF.ne a b ka kb hab ha hb' oa ob (la.of_set ea) (lb.of_set eb)
 ·intro a al' ha la
  by_cases ea : i = a
  ·subst ea
   rw [hk] at ha
   have := Option.some.inj ha
   injection this with this
   subst this
   exact hal.mono
  ·rw [getD_set_ne false ea] at la
   exact (hF.puts a al' ha la).mono
theorem Fs.put (hF : Fs nd n ks w rr listed vs W) (hok : okB n ks = true) (hna : NoAny ks) (hpre : ∀ j, nd i j = true → listed.getD j false = true) (hun : listed.getD i true = false) {al : Nat} (hk : ks[i]? = some (.put al)) {z f : Array Value} {T : TypeId} {G : Nat} {g : Option Nat} (v : Value)
  (hbox : ks[al]? = some (.box g z f T i)) (hal : On n listed al) (hG : vs.getD al undef = .pointer (some ⟨G, 0, none⟩)) (hnew : W'.heap[G]? = some (.cells f T (0, 0))) (hoth : ∀ k, k ≠ G → W'.heap[k]? = W.heap[k]?) (hb : Below w.heap.size W W') : Fs nd n ks w rr (listed.setIfInBounds i true) (vs.set i v) W' :=
 Fs.put' hF hok hna.1 hpre hun hk v hbox hal hG hnew hoth hb
/-- nothing has come up yet -/
theorem Fs.start (hlen : vs.length = ks.length) (hn : ks.length = n) : Fs nd n ks w rr (Array.replicate n false) vs w.drew :=
 ⟨by simp, hlen, only_of_below (Below.refl _ _).drew rr, fun i k hk h => absurd (h.resolve_left (by have := (List.getElem?_eq_some_iff.1 hk).1; omega)) bit_none, fun i _ k _ _ hk _ _ _ h => absurd (h.resolve_left (by have := (List.getElem?_eq_some_iff.1 hk).1; omega)) bit_none, fun _ _ _ h => absurd h bit_none, fun _ _ h => absurd h bit_none⟩
end

theorem Fs.unst {nd : Nat → Nat → Bool} {n : Nat} {ks : List RK} {w W : World} {row : Option Nat} {listed : Array Bool} {vs : List Value} (hF : Fs nd n ks w row listed vs W) {st : Nat} (h : n ≤ st) : ¬ listed.getD st false = true := by
 have h1 : ¬ st < listed.size := by rw [hF.lsz]; omega
 simp [h1]
/-- the slots laid anew, from what has come up -/
def layT : List (Option Nat) → List Value → Array Value → Array Value
 | some d :: sl, v :: vs, t => layT sl vs (t.setIfInBounds d v)
 | none :: sl, _ :: vs, t => layT sl vs t
 | _, _, t => t
theorem layT_some (d : Nat) (sl : List (Option Nat)) (v : Value) (vs : List Value) (t : Array Value) : layT (some d :: sl) (v :: vs) t = layT sl vs (t.setIfInBounds d v) := rfl
theorem layT_none (sl : List (Option Nat)) (v : Value) (vs : List Value) (t : Array Value) : layT (none :: sl) (v :: vs) t = layT sl vs t := rfl
theorem layT_nil (vs : List Value) (t : Array Value) : layT [] vs t = t := by cases vs <;> rfl
def putO (a : Act) (sl : List (Option Nat)) (vs : List Value) : Act := { a with tmps := layT sl vs a.tmps }

/-- operation i waits for operation j -/
def ndOf (ops : Array Oper) (i j : Nat) : Bool := (needs .any ops i).contains j
/-- a list of known length, item by item -/
def ExL : Nat → (List Value → Prop) → Prop
 | 0, p => p []
 | n + 1, p => ∃ v, ExL n (fun l => p (v :: l))
theorem exl_of : ∀ (n : Nat) (vs : List Value) (p : List Value → Prop), vs.length = n → p vs → ExL n p
 | 0, [], _, _, h => h
 | n + 1, v :: l, p, h, hp => ⟨v, exl_of n l (fun l => p (v :: l)) (by simpa using h) hp⟩
theorem put9_below {B G : Nat} (h : B ≤ G) (W : World) (x0 x1 x2 x3 x4 x5 x6 x7 x8 : Value) : Below B W (((((((((W.setCell ⟨G, 0, none⟩ x0).setCell ⟨G, 1, none⟩ x1).setCell ⟨G, 2, none⟩ x2).setCell ⟨G, 3, none⟩ x3).setCell ⟨G, 4, none⟩ x4).setCell ⟨G, 5, none⟩ x5).setCell ⟨G, 6, none⟩ x6).setCell ⟨G, 7, none⟩ x7).setCell ⟨G, 8, none⟩ x8) :=
 ((((((((((Below.refl _ _).setCell (p := ⟨G, 0, none⟩) h x0).setCell (p := ⟨G, 1, none⟩) h x1).setCell (p := ⟨G, 2, none⟩) h x2).setCell (p := ⟨G, 3, none⟩) h x3).setCell (p := ⟨G, 4, none⟩) h x4).setCell (p := ⟨G, 5, none⟩) h x5).setCell (p := ⟨G, 6, none⟩) h x6).setCell (p := ⟨G, 7, none⟩) h x7).setCell (p := ⟨G, 8, none⟩) h x8)
end Go.Proofs.YtkghpiaoggljjaaGreatDoor.Num
