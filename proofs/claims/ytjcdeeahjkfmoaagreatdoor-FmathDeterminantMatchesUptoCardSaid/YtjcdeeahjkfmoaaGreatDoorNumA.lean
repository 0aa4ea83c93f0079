/- Contracts of the program's functions, joined from smaller texts. Conditions stand at each theorem. -/
import Derived.Lib.Hide
import Derived.Lib.ItoaNum
import Derived.Lib.Atoi
import Derived.WalkKit
import Derived.WalkSpells
import Derived.WalkLawsBesides
import Derived.BigQuiet
import Derived.Deep.QuietTactic
import Derived.StillTailTactics
import Derived.Lib.OthersKept
import Derived.Test.YtjcdeeahjkfmoaaGreatDoorProg
import Derived.Deep.LoopGhost
import Derived.Deep.AppendLies
import Derived.Deep.OwnRows
import Derived.OwnWalk
import Derived.Lib.SliceRun
import Derived.Lib.MinMax
import Derived.Maps.AppendAt
set_option maxRecDepth 100000
set_option maxHeartbeats 4000000
namespace Go.Proofs.YtjcdeeahjkfmoaaGreatDoor.Num
def val (b : Nat) : List Nat → Nat
 | [] => 0
 | d :: r => d + b * val b r
def digs (b : Nat) (n : Nat) : List Nat :=
 if _ : n = 0 ∨ b < 2 then [] else n % b :: digs b (n / b)
termination_by n
decreasing_by exact Nat.div_lt_self (by omega) (by omega)
theorem digs_zero (b : Nat) : digs b 0 = [] := by rw [digs]; simp
theorem digs_pos {b n : Nat} (hb : 2 ≤ b) (hn : n ≠ 0) : digs b n = n % b :: digs b (n / b) := by
 rw [digs, dif_neg (by omega)]
theorem val_append (b : Nat) : ∀ a c : List Nat, val b (a ++ c) = val b a + b ^ a.length * val b c
 | [], c => by simp [val]
 | d :: r, c => by
  simp only [List.cons_append, val, val_append b r c, List.length_cons, Nat.pow_succ]
  rw [Nat.mul_add, Nat.add_assoc, Nat.mul_comm (b ^ r.length) b, Nat.mul_assoc]
theorem val_snoc (b : Nat) (a : List Nat) (d : Nat) : val b (a ++ [d]) = val b a + b ^ a.length * d := by
 rw [val_append]; simp [val]
theorem val_digs {b : Nat} (hb : 2 ≤ b) (n : Nat) : val b (digs b n) = n := by
 induction n using Nat.strongRecOn with
 | _ n ih =>
  by_cases hn : n = 0
  ·subst hn; rw [digs_zero]; rfl
  ·rw [digs_pos hb hn]
   have := ih (n / b) (Nat.div_lt_self (by omega) (by omega))
   simp only [val, this]
   exact Nat.mod_add_div n b
theorem digs_lt {b : Nat} (hb : 2 ≤ b) (n : Nat) : ∀ d ∈ digs b n, d < b := by
 induction n using Nat.strongRecOn with
 | _ n ih =>
  by_cases hn : n = 0
  ·subst hn; rw [digs_zero]; intro d hd; cases hd
  ·rw [digs_pos hb hn]
   intro d hd
   rcases List.mem_cons.1 hd with rfl | hd
   ·exact Nat.mod_lt _ (by omega)
   ·exact ih (n / b) (Nat.div_lt_self (by omega) (by omega)) d hd
theorem val_lt {b : Nat} : ∀ {o : List Nat}, (∀ d ∈ o, d < b) → val b o < b ^ o.length
 | [], _ => by simp [val]
 | d :: r, h => by
  have h1 := val_lt (o := r) (fun x hx => h x (List.mem_cons_of_mem _ hx))
  have h2 := h d (List.mem_cons_self ..)
  simp only [val, List.length_cons, Nat.pow_succ]
  have h3 : b * (val b r + 1) ≤ b * b ^ r.length := Nat.mul_le_mul_left b h1
  rw [Nat.mul_add, Nat.mul_one] at h3
  rw [Nat.mul_comm (b ^ r.length) b]
  omega
theorem digs_of {b : Nat} (hb : 2 ≤ b) : ∀ {o : List Nat}, (∀ d ∈ o, d < b) → (o ≠ [] → b ^ (o.length - 1) ≤ val b o) → o = digs b (val b o)
 | [], _, _ => by simp [val, digs_zero]
 | d :: r, h, hg => by
  have h2 := h d (List.mem_cons_self ..)
  have hg1 : b ^ r.length ≤ d + b * val b r := by simpa [val] using hg (by simp)
  have hpos : 0 < b ^ r.length := Nat.pow_pos (by omega)
  have hne : d + b * val b r ≠ 0 := by omega
  have hr : r = digs b (val b r) := by
   refine digs_of hb (fun x hx => h x (List.mem_cons_of_mem _ hx)) (fun hr => ?_)
   have hl : 0 < r.length := List.length_pos_iff.2 hr
   have e : b ^ r.length = b * b ^ (r.length - 1) := by
    rw [← Nat.pow_succ']; congr 1; omega
   rw [e] at hg1
   apply Nat.le_of_not_lt
   intro hlt
   have : b * (val b r + 1) ≤ b * b ^ (r.length - 1) := Nat.mul_le_mul_left b hlt
   rw [Nat.mul_add, Nat.mul_one] at this
   omega
  simp only [val]
  rw [digs_pos hb hne]
  have e1 : (d + b * val b r) % b = d := by rw [Nat.add_mul_mod_self_left]; exact Nat.mod_eq_of_lt h2
  have e2 : (d + b * val b r) / b = val b r := by rw [Nat.add_mul_div_left _ _ (by omega), Nat.div_eq_of_lt h2]; simp
  rw [e1, e2, ← hr]
theorem digs_ge {b : Nat} (hb : 2 ≤ b) (n : Nat) : digs b n ≠ [] → b ^ ((digs b n).length - 1) ≤ n := by
 induction n using Nat.strongRecOn with
 | _ n ih =>
  by_cases hn : n = 0
  ·subst hn; rw [digs_zero]; intro h; exact absurd rfl h
  ·intro _
   rw [digs_pos hb hn]
   simp only [List.length_cons, Nat.add_sub_cancel]
   by_cases hq : n / b = 0
   ·rw [hq, digs_zero]; simp; omega
   ·have h0 : digs b (n / b) ≠ [] := by rw [digs_pos hb hq]; simp
    have h1 := ih (n / b) (Nat.div_lt_self (by omega) (by omega)) h0
    have hl : 0 < (digs b (n / b)).length := List.length_pos_iff.2 h0
    have e : b ^ (digs b (n / b)).length = b * b ^ ((digs b (n / b)).length - 1) := by
     rw [← Nat.pow_succ']; congr 1; omega
    rw [e]
    calc b * b ^ ((digs b (n / b)).length - 1) ≤ b * (n / b) := Nat.mul_le_mul_left b h1
     _ ≤ n := Nat.mul_div_le n b
theorem digs_upper {b : Nat} (hb : 2 ≤ b) (n : Nat) : n < b ^ (digs b n).length := by
 have h := val_lt (digs_lt hb n)
 rwa [val_digs hb] at h
theorem digs_len_le {b : Nat} (hb : 2 ≤ b) {n k : Nat} (h : n < b ^ k) : (digs b n).length ≤ k := by
 by_cases hz : digs b n = []
 ·rw [hz]; simp
 ·have h1 := digs_ge hb n hz
  have hl : 0 < (digs b n).length := List.length_pos_iff.2 hz
  apply Nat.le_of_not_lt
  intro hlt
  have : b ^ k ≤ b ^ ((digs b n).length - 1) := Nat.pow_le_pow_right (by omega) (by omega)
  omega
theorem digs_len_mono {b : Nat} (hb : 2 ≤ b) {m n : Nat} (h : m ≤ n) : (digs b m).length ≤ (digs b n).length :=
 digs_len_le hb (Nat.lt_of_le_of_lt h (digs_upper hb n))
theorem digs_eq_nil {b : Nat} (hb : 2 ≤ b) {n : Nat} : digs b n = [] ↔ n = 0 := by
 constructor
 ·intro h; by_cases hn : n = 0
  ·exact hn
  ·rw [digs_pos hb hn] at h; cases h
 ·rintro rfl; exact digs_zero b
theorem digs_inj {b : Nat} (hb : 2 ≤ b) {m n : Nat} (h : digs b m = digs b n) : m = n := by
 rw [← val_digs hb m, h, val_digs hb n]
theorem val_zeros (b : Nat) : ∀ (k : Nat), val b (List.replicate k 0) = 0
 | 0 => rfl
 | k + 1 => by simp [List.replicate_succ, val, val_zeros b k]
theorem val_drop_last {b : Nat} (o : List Nat) (h : o ≠ []) (hz : o.getLast h = 0) : val b o = val b o.dropLast := by
 conv => lhs; rw [← List.dropLast_concat_getLast h]
 rw [val_snoc, hz]; simp
theorem digs_of_last {b : Nat} (hb : 2 ≤ b) {o : List Nat} (hd : ∀ d ∈ o, d < b) (hl : ∀ h : o ≠ [], o.getLast h ≠ 0) : o = digs b (val b o) := by
 refine digs_of hb hd (fun h => ?_)
 conv => rhs; rw [← List.dropLast_concat_getLast h]
 rw [val_snoc, List.length_dropLast]
 have h1 : 1 ≤ o.getLast h := Nat.one_le_iff_ne_zero.2 (hl h)
 calc b ^ (o.length - 1) = b ^ (o.length - 1) * 1 := (Nat.mul_one _).symm
  _ ≤ b ^ (o.length - 1) * o.getLast h := Nat.mul_le_mul_left _ h1
  _ ≤ _ := Nat.le_add_left _ _
theorem digs_last {b : Nat} (hb : 2 ≤ b) (n : Nat) (h : digs b n ≠ []) : (digs b n).getLast h ≠ 0 := by
 intro hz
 have h1 := digs_ge hb n h
 have h2 := val_drop_last (b := b) (digs b n) h hz
 rw [val_digs hb] at h2
 have h3 := val_lt (b := b) (o := (digs b n).dropLast) (fun d hd => digs_lt hb n d (List.dropLast_subset _ hd))
 rw [List.length_dropLast] at h3
 omega
theorem val_take_lt {b : Nat} (x y : List Nat) (hx : ∀ d ∈ x, d < b) (_ : ∀ d ∈ y, d < b) (hl : x.length = y.length) (i : Nat) (hi : i < x.length) (he : x.drop (i + 1) = y.drop (i + 1)) (hlt : x[i] < y[i]'(by omega)) : val b x < val b y := by
 have ex : x = x.take i ++ (x[i] :: x.drop (i + 1)) := by rw [← List.drop_eq_getElem_cons hi, List.take_append_drop]
 have ey : y = y.take i ++ (y[i]'(by omega) :: y.drop (i + 1)) := by rw [← List.drop_eq_getElem_cons (by omega), List.take_append_drop]
 have hvx : val b x = val b (x.take i) + b ^ i * (x[i] + b * val b (x.drop (i + 1))) := by
  conv => lhs; rw [ex]
  rw [val_append]; simp [val, Nat.min_eq_left (Nat.le_of_lt hi)]
 have hvy : val b y = val b (y.take i) + b ^ i * (y[i]'(by omega) + b * val b (y.drop (i + 1))) := by
  conv => lhs; rw [ey]
  rw [val_append]; simp [val, Nat.min_eq_left (show i ≤ y.length by omega)]
 have h1 : val b (x.take i) < b ^ i := by
  have := val_lt (b := b) (o := x.take i) (fun d hd => hx d (List.mem_of_mem_take hd))
  rwa [List.length_take, Nat.min_eq_left (Nat.le_of_lt hi)] at this
 rw [hvx, hvy, he]
 have h2 : b ^ i * (x[i] + b * val b (y.drop (i + 1)) + 1) ≤ b ^ i * (y[i]'(by omega) + b * val b (y.drop (i + 1))) := Nat.mul_le_mul_left _ (by omega)
 rw [Nat.mul_add, Nat.mul_one] at h2
 omega
end Go.Proofs.YtjcdeeahjkfmoaaGreatDoor.Num
namespace Go.Proofs.YtjcdeeahjkfmoaaGreatDoor.Num
theorem val_take_succ (b : Nat) (l : List Nat) (i : Nat) : val b (l.take (i + 1)) = val b (l.take i) + b ^ i * l.getD i 0 := by
 by_cases h : i < l.length
 ·rw [List.take_succ_eq_append_getElem h, val_snoc, List.length_take, Nat.min_eq_left (Nat.le_of_lt h)]
  simp [List.getD, h]
 ·have h1 : l.take (i + 1) = l := List.take_of_length_le (by omega)
  have h2 : l.take i = l := List.take_of_length_le (by omega)
  rw [h1, h2]; simp [List.getD, Nat.not_lt.1 h]
theorem val_take_le (b : Nat) (l : List Nat) (i : Nat) : val b (l.take i) ≤ val b l := by
 conv => rhs; rw [← List.take_append_drop i l]
 rw [val_append]; omega
theorem getD_lt {b : Nat} {l : List Nat} (hb : 0 < b) (h : ∀ d ∈ l, d < b) (i : Nat) : l.getD i 0 < b := by
 by_cases hi : i < l.length
 ·simp [List.getD, hi]; exact h _ (List.getElem_mem hi)
 ·simp [List.getD, Nat.not_lt.1 hi, hb]
theorem val_set (b : Nat) : ∀ (l : List Nat) (i : Nat) (d : Nat), i < l.length → val b (l.set i d) + b ^ i * l.getD i 0 = val b l + b ^ i * d
 | [], _, _, h => absurd h (Nat.not_lt_zero _)
 | x :: r, 0, d, _ => by simp [val]; omega
 | x :: r, i + 1, d, h => by
  have ih := val_set b r i d (by simpa using h)
  simp only [List.set_cons_succ, val, List.getD_cons_succ, Nat.pow_succ]
  have h1 : b * (val b (r.set i d) + b ^ i * r.getD i 0) = b * (val b r + b ^ i * d) := by rw [ih]
  simp only [Nat.mul_add] at h1
  have e1 : b ^ i * b * r.getD i 0 = b * (b ^ i * r.getD i 0) := by rw [Nat.mul_comm (b ^ i) b, Nat.mul_assoc]
  have e2 : b ^ i * b * d = b * (b ^ i * d) := by rw [Nat.mul_comm (b ^ i) b, Nat.mul_assoc]
  rw [e1, e2]; omega
theorem mem_set_lt {b : Nat} {l : List Nat} {i d : Nat} (h : ∀ x ∈ l, x < b) (hd : d < b) : ∀ x ∈ l.set i d, x < b := by
 intro x hx
 rcases List.mem_or_eq_of_mem_set hx with hx | rfl
 ·exact h x hx
 ·exact hd
structure PlusInv (b : Nat) (x y : List Nat) (i : Nat) (o : List Nat) (c : Nat) : Prop where
 len : o.length = i
 lt : ∀ d ∈ o, d < b
 carry : c ≤ 1
 sum : val b o + b ^ i * c = val b (x.take i) + val b (y.take i)
 great : i = 0 ∨ b ^ (i - 1) ≤ val b x + val b y
theorem PlusInv.start (b : Nat) (x y : List Nat) : PlusInv b x y 0 [] 0 := ⟨rfl, by simp, by omega, by simp [val], .inl rfl⟩
theorem PlusInv.step {b : Nat} (hb : 2 ≤ b) {x y : List Nat} (hx : ∀ d ∈ x, d < b) (hy : ∀ d ∈ y, d < b) {m n : Nat} (hm : x = digs b m) (hn : y = digs b n) {i : Nat} {o : List Nat} {c : Nat} (h : PlusInv b x y i o c) (hgo : i < x.length ∨ i < y.length ∨ 0 < c) :
  PlusInv b x y (i + 1) (o ++ [(c + x.getD i 0 + y.getD i 0) % b]) ((c + x.getD i 0 + y.getD i 0) / b) := by
 have h1 := getD_lt (show 0 < b by omega) hx i
 have h2 := getD_lt (show 0 < b by omega) hy i
 have hc := h.carry
 have hle : (c + x.getD i 0 + y.getD i 0) / b ≤ 1 := by
  have : (c + x.getD i 0 + y.getD i 0) / b < 2 := (Nat.div_lt_iff_lt_mul (by omega)).2 (by omega)
  omega
 refine ⟨by simp [h.len], ?_, hle, ?_, .inr ?_⟩
 ·intro d hd
  rcases List.mem_append.1 hd with hd | hd
  ·exact h.lt d hd
  ·rw [List.mem_singleton.1 hd]; exact Nat.mod_lt _ (by omega)
 ·rw [val_snoc, h.len, val_take_succ, val_take_succ]
  have hs := h.sum
  have hdm := Nat.mod_add_div (c + x.getD i 0 + y.getD i 0) b
  have e : b ^ i * ((c + x.getD i 0 + y.getD i 0) % b) + b ^ (i + 1) * ((c + x.getD i 0 + y.getD i 0) / b) = b ^ i * (c + x.getD i 0 + y.getD i 0) := by
   rw [Nat.pow_succ, Nat.mul_assoc, ← Nat.mul_add, hdm]
  simp only [Nat.mul_add] at e
  omega
 ·rw [Nat.add_sub_cancel]
  rcases hgo with hgo | hgo | hgo
  ·have hne : digs b m ≠ [] := by rw [← hm]; intro e; rw [e] at hgo; simp at hgo
   have h3 := digs_ge hb m hne
   rw [← hm] at h3
   have h4 : val b x = m := by rw [hm, val_digs hb]
   have h5 : b ^ i ≤ b ^ (x.length - 1) := Nat.pow_le_pow_right (by omega) (by omega)
   omega
  ·have hne : digs b n ≠ [] := by rw [← hn]; intro e; rw [e] at hgo; simp at hgo
   have h3 := digs_ge hb n hne
   rw [← hn] at h3
   have h4 : val b y = n := by rw [hn, val_digs hb]
   have h5 : b ^ i ≤ b ^ (y.length - 1) := Nat.pow_le_pow_right (by omega) (by omega)
   omega
  ·have h3 := h.sum
   have h4 := val_take_le b x i
   have h5 := val_take_le b y i
   have h6 : b ^ i * 1 ≤ b ^ i * c := Nat.mul_le_mul_left _ hgo
   omega
theorem PlusInv.done {b : Nat} (hb : 2 ≤ b) {x y : List Nat} {i : Nat} {o : List Nat} (h : PlusInv b x y i o 0) (h1 : x.length ≤ i) (h2 : y.length ≤ i) : o = digs b (val b x + val b y) := by
 have hs := h.sum
 rw [List.take_of_length_le h1, List.take_of_length_le h2, Nat.mul_zero, Nat.add_zero] at hs
 rw [← hs]
 refine digs_of hb h.lt (fun hne => ?_)
 rw [h.len, hs]
 rcases h.great with h0 | h0
 ·exfalso; apply hne; apply List.eq_nil_of_length_eq_zero; rw [h.len, h0]
 ·exact h0
theorem PlusInv.bound {b : Nat} {x y : List Nat} {i : Nat} {o : List Nat} {c : Nat} (h : PlusInv b x y i o c) (hb : 2 ≤ b) (hx : ∀ d ∈ x, d < b) (hy : ∀ d ∈ y, d < b) : i ≤ max x.length y.length + 1 := by
 rcases h.great with h0 | h0
 ·omega
 ·have h1 := val_lt hx
  have h2 := val_lt hy
  have h3 : b ^ x.length ≤ b ^ (max x.length y.length) := Nat.pow_le_pow_right (by omega) (by omega)
  have h4 : b ^ y.length ≤ b ^ (max x.length y.length) := Nat.pow_le_pow_right (by omega) (by omega)
  have h5 : 2 * b ^ (max x.length y.length) ≤ b * b ^ (max x.length y.length) := Nat.mul_le_mul_right _ hb
  apply Nat.le_of_not_lt
  intro hlt
  have h6 : b ^ (max x.length y.length + 1) ≤ b ^ (i - 1) := Nat.pow_le_pow_right (by omega) (by omega)
  rw [Nat.pow_succ'] at h6
  omega
structure MinusInv (b : Nat) (x y : List Nat) (i : Nat) (o : List Nat) (c : Nat) : Prop where
 len : o.length = x.length
 tail : o.drop i = x.drop i
 lt : ∀ d ∈ o, d < b
 borrow : c ≤ 1
 diff : val b (o.take i) + val b (y.take i) = val b (x.take i) + b ^ i * c
theorem MinusInv.start {b : Nat} {x : List Nat} (hx : ∀ d ∈ x, d < b) (y : List Nat) : MinusInv b x y 0 x 0 := ⟨rfl, rfl, hx, by omega, by simp [val]⟩
theorem getD_of_drop {x o : List Nat} {i : Nat} (h : o.drop i = x.drop i) : o.getD i 0 = x.getD i 0 := by
 have := congrArg (fun l => l.getD 0 0) h
 simpa [List.getD] using this
theorem drop_set_after (o : List Nat) (i d : Nat) : (o.set i d).drop (i + 1) = o.drop (i + 1) := by
 rw [List.drop_set_of_lt]; omega
theorem take_set_after (o : List Nat) (i d : Nat) : (o.set i d).take i = o.take i := by
 rw [List.take_set_of_le]; omega
def less (b d n : Nat) : Nat := if d < n then d + b - n else d - n
theorem MinusInv.step {b : Nat} (hb : 2 ≤ b) {x y : List Nat} (hx : ∀ d ∈ x, d < b) (hy : ∀ d ∈ y, d < b) {i : Nat} {o : List Nat} {c : Nat} (h : MinusInv b x y i o c) (hi : i < x.length) :
  MinusInv b x y (i + 1) (o.set i (less b (x.getD i 0) (c + y.getD i 0))) (if x.getD i 0 < c + y.getD i 0 then 1 else 0) := by
 have h1 := getD_lt (show 0 < b by omega) hx i
 have h2 := getD_lt (show 0 < b by omega) hy i
 have hc := h.borrow
 have hlen := h.len
 have hd : less b (x.getD i 0) (c + y.getD i 0) < b := by unfold less; split <;> omega
 refine ⟨by simpa using hlen, ?_, mem_set_lt h.lt hd, by split <;> omega, ?_⟩
 ·rw [drop_set_after]
  have := congrArg (fun l => l.drop 1) h.tail
  simpa [List.drop_drop] using this
 ·have e1 : (o.set i (less b (x.getD i 0) (c + y.getD i 0))).getD i 0 = less b (x.getD i 0) (c + y.getD i 0) := by
   simp [List.getD, show i < o.length by omega]
  rw [val_take_succ, val_take_succ, val_take_succ, take_set_after, e1]
  have hs := h.diff
  have e : less b (x.getD i 0) (c + y.getD i 0) + (c + y.getD i 0) = x.getD i 0 + b * (if x.getD i 0 < c + y.getD i 0 then 1 else 0) := by
   unfold less; split <;> omega
  have e2 := congrArg (fun t => b ^ i * t) e
  simp only [Nat.mul_add] at e2
  have e3 : b ^ (i + 1) * (if x.getD i 0 < c + y.getD i 0 then 1 else 0) = b ^ i * (b * (if x.getD i 0 < c + y.getD i 0 then 1 else 0)) := by rw [Nat.pow_succ, Nat.mul_assoc]
  rw [e3]; omega
theorem MinusInv.done {b : Nat} {x y : List Nat} {o : List Nat} {c : Nat} (h : MinusInv b x y x.length o c) (hle : val b y ≤ val b x) (hl : y.length ≤ x.length) : val b o = val b x - val b y := by
 have hs := h.diff
 have ho : o.take x.length = o := List.take_of_length_le (by rw [h.len]; omega)
 rw [ho, List.take_of_length_le (Nat.le_refl _), List.take_of_length_le hl] at hs
 have hlt := val_lt h.lt
 rw [h.len] at hlt
 have hb := h.borrow
 have : c = 0 ∨ c = 1 := by omega
 rcases this with rfl | rfl
 ·omega
 ·rw [Nat.mul_one] at hs; omega
theorem trim_done {b : Nat} (hb : 2 ≤ b) {o : List Nat} (hd : ∀ d ∈ o, d < b) {n : Nat} (hn : n ≤ o.length) (hv : val b (o.take n) = val b o) (hz : n = 0 ∨ o.getD (n - 1) 0 ≠ 0) : o.take n = digs b (val b o) := by
 rw [← hv]
 refine digs_of_last hb (fun d hd' => hd d (List.mem_of_mem_take hd')) (fun hne => ?_)
 rcases hz with rfl | hz
 ·simp at hne
 ·rw [List.getLast_eq_getElem]
  have hl : (o.take n).length = n := by simp; omega
  have hn0 : 0 < n := by
   apply Nat.pos_of_ne_zero
   rintro rfl
   simp at hne
  simp only [List.getElem_take, List.length_take, Nat.min_eq_left hn]
  simpa [List.getD, show n - 1 < o.length by omega] using hz
theorem trim_step {b : Nat} {o : List Nat} {n : Nat} (_ : n < o.length) (hv : val b (o.take (n + 1)) = val b o) (hz : o.getD n 0 = 0) : val b (o.take n) = val b o := by
 rw [val_take_succ, hz] at hv; simpa using hv
structure RowInv (b : Nat) (o0 y : List Nat) (i d k : Nat) (o : List Nat) (c : Nat) : Prop where
 len : o.length = o0.length
 lt : ∀ z ∈ o, z < b
 carry : c < b
 tail : o.drop (i + k) = o0.drop (i + k)
 sum : val b o + b ^ (i + k) * c = val b o0 + b ^ i * (d * val b (y.take k))
theorem RowInv.start {b : Nat} {o0 : List Nat} (hb : 2 ≤ b) (h0 : ∀ z ∈ o0, z < b) (y : List Nat) (i d : Nat) : RowInv b o0 y i d 0 o0 0 := ⟨rfl, h0, by omega, rfl, by simp [val]⟩
theorem RowInv.step {b : Nat} (hb : 2 ≤ b) {o0 y : List Nat} {i d k : Nat} {o : List Nat} {c : Nat} (h : RowInv b o0 y i d k o c) (hd : d < b) (hy : ∀ z ∈ y, z < b) (hk : i + k < o0.length) :
  RowInv b o0 y i d (k + 1) (o.set (i + k) ((d * y.getD k 0 + o.getD (i + k) 0 + c) % b)) ((d * y.getD k 0 + o.getD (i + k) 0 + c) / b) := by
 have h1 := getD_lt (show 0 < b by omega) hy k
 have h2 := getD_lt (show 0 < b by omega) h.lt (i + k)
 have hlen := h.len
 have hlt : (d * y.getD k 0 + o.getD (i + k) 0 + c) / b < b := by
  apply (Nat.div_lt_iff_lt_mul (by omega)).2
  have hc := h.carry
  have h3 : d * y.getD k 0 ≤ (b - 1) * (b - 1) := Nat.mul_le_mul (by omega) (by omega)
  have h4 : (b - 1) * (b - 1) + (b - 1) + (b - 1) + 1 = b * b := by
   obtain ⟨e, rfl⟩ : ∃ e, b = e + 1 := ⟨b - 1, by omega⟩
   simp only [Nat.add_sub_cancel, Nat.add_mul, Nat.mul_add, Nat.mul_one, Nat.one_mul]; omega
  omega
 refine ⟨by simpa using hlen, mem_set_lt h.lt (Nat.mod_lt _ (by omega)), hlt, ?_, ?_⟩
 ·rw [← Nat.add_assoc, drop_set_after]
  have := congrArg (fun l => l.drop 1) h.tail
  simpa [List.drop_drop] using this
 ·have hv := val_set b o (i + k) ((d * y.getD k 0 + o.getD (i + k) 0 + c) % b) (by omega)
  have hs := h.sum
  have hdm := Nat.mod_add_div (d * y.getD k 0 + o.getD (i + k) 0 + c) b
  have e := congrArg (fun t => b ^ (i + k) * t) hdm
  simp only [Nat.mul_add] at e
  rw [val_take_succ, ← Nat.add_assoc, Nat.pow_succ, Nat.mul_assoc]
  simp only [Nat.mul_add]
  have e2 : b ^ i * (d * (b ^ k * y.getD k 0)) = b ^ (i + k) * (d * y.getD k 0) := by
   rw [Nat.pow_add, Nat.mul_left_comm d, Nat.mul_assoc]
  rw [e2]
  omega
structure TimesInv (b : Nat) (x y : List Nat) (i : Nat) (o : List Nat) : Prop where
 len : o.length = x.length + y.length
 lt : ∀ z ∈ o, z < b
 tail : o.drop (i + y.length) = List.replicate (x.length - i) 0
 sum : val b o = val b (x.take i) * val b y
theorem TimesInv.start {b : Nat} (hb : 2 ≤ b) (x y : List Nat) : TimesInv b x y 0 (List.replicate (x.length + y.length) 0) :=
 ⟨by simp, fun z hz => by rw [(List.mem_replicate.1 hz).2]; omega, by simp, by simp [val, val_zeros]⟩
theorem TimesInv.step {b : Nat} (_ : 2 ≤ b) {x y : List Nat} {i : Nat} {o0 o : List Nat} {c : Nat} (h : TimesInv b x y i o0) (hi : i < x.length)
  (hr : RowInv b o0 y i (x.getD i 0) y.length o c) : TimesInv b x y (i + 1) (o.set (i + y.length) c) := by
 have hlen := h.len
 have hlen2 := hr.len
 have hz : o.getD (i + y.length) 0 = 0 := by
  rw [getD_of_drop hr.tail]
  have := congrArg (fun l => l.getD 0 0) h.tail
  simp only [List.getD, List.getElem?_drop, Nat.add_zero, List.getElem?_replicate, show 0 < x.length - i by omega, if_true] at this
  simpa [List.getD] using this
 refine ⟨by simpa [hlen2] using hlen, mem_set_lt hr.lt hr.carry, ?_, ?_⟩
 ·rw [show i + 1 + y.length = (i + y.length) + 1 by omega, drop_set_after]
  have h1 := congrArg (fun l => l.drop 1) hr.tail
  have h2 := congrArg (fun l => l.drop 1) h.tail
  simp only [List.drop_drop] at h1 h2
  rw [h1, h2, List.drop_replicate]
  congr 1
 ·have hv := val_set b o (i + y.length) c (by omega)
  rw [hz, Nat.mul_zero, Nat.add_zero] at hv
  have hs := hr.sum
  rw [List.take_of_length_le (Nat.le_refl _)] at hs
  rw [hv, hs, h.sum, val_take_succ, Nat.add_mul, Nat.mul_assoc]
theorem TimesInv.done {b : Nat} {x y : List Nat} {o : List Nat} (h : TimesInv b x y x.length o) : val b o = val b x * val b y := by
 have := h.sum
 rwa [List.take_of_length_le (Nat.le_refl _)] at this
end Go.Proofs.YtjcdeeahjkfmoaaGreatDoor.Num
namespace Go.Proofs.YtjcdeeahjkfmoaaGreatDoor.Num
theorem digit_low {r b t H k : Nat} (hb : 0 < b) (ht : b ≤ (t + 1) * k) (hH : H * k ≤ r) : H / (t + 1) ≤ r / b := by
 rw [Nat.le_div_iff_mul_le hb]
 have h1 : H / (t + 1) * (t + 1) ≤ H := Nat.div_mul_le_self _ _
 calc H / (t + 1) * b ≤ H / (t + 1) * ((t + 1) * k) := Nat.mul_le_mul_left _ ht
  _ = H / (t + 1) * (t + 1) * k := (Nat.mul_assoc _ _ _).symm
  _ ≤ H * k := Nat.mul_le_mul_right _ h1
  _ ≤ r := hH
theorem digit_top {r b t H k : Nat} (ht : t * k ≤ b) (ht0 : 0 < t) (_ : 0 < k) (hH : r < (H + 1) * k) : r / b ≤ H / t := by
 rw [Nat.le_div_iff_mul_le ht0]
 have h1 : r / b * b ≤ r := Nat.div_mul_le_self _ _
 have h2 : r / b * t * k ≤ r / b * b := by rw [Nat.mul_assoc]; exact Nat.mul_le_mul_left _ ht
 have h3 : r / b * t * k < (H + 1) * k := by omega
 have := Nat.lt_of_mul_lt_mul_right h3
 omega
theorem val_split (b : Nat) (l : List Nat) (k : Nat) (hk : k ≤ l.length) : val b l = val b (l.take k) + b ^ k * val b (l.drop k) := by
 conv => lhs; rw [← List.take_append_drop k l]
 rw [val_append, List.length_take, Nat.min_eq_left hk]
theorem val_drop_bounds {b : Nat} {l : List Nat} (hl : ∀ d ∈ l, d < b) (k : Nat) (hk : k ≤ l.length) : val b (l.drop k) * b ^ k ≤ val b l ∧ val b l < (val b (l.drop k) + 1) * b ^ k := by
 have h := val_split b l k hk
 have h1 := val_lt (b := b) (o := l.take k) (fun d hd => hl d (List.mem_of_mem_take hd))
 rw [List.length_take, Nat.min_eq_left hk] at h1
 rw [Nat.add_mul, Nat.one_mul, Nat.mul_comm (val b (l.drop k))]
 omega
theorem val_drop_succ (b : Nat) (l : List Nat) (i : Nat) (h : i < l.length) : val b (l.drop i) = l.getD i 0 + b * val b (l.drop (i + 1)) := by
 rw [List.drop_eq_getElem_cons h]; simp [val, List.getD, h]
theorem lead {b : Nat} (hb : 2 ≤ b) {m : Nat} (hm : m ≠ 0) : let k := (digs b m).length - 1; 0 < (digs b m).getD k 0 ∧ (digs b m).getD k 0 * b ^ k ≤ m ∧ m < ((digs b m).getD k 0 + 1) * b ^ k := by
 intro k
 have hne : digs b m ≠ [] := fun h => hm ((digs_eq_nil hb).1 h)
 have hpos : 0 < (digs b m).length := List.length_pos_iff.2 hne
 have hk : k < (digs b m).length := by omega
 have h1 := val_drop_bounds (digs_lt hb m) k (by omega)
 rw [val_digs hb] at h1
 have h2 : val b ((digs b m).drop k) = (digs b m).getD k 0 := by
  rw [val_drop_succ b _ k hk, List.drop_of_length_le (by omega)]; simp [val]
 rw [h2] at h1
 refine ⟨?_, h1.1, h1.2⟩
 have h3 := digs_last hb m hne
 rw [List.getLast_eq_getElem] at h3
 have : (digs b m).getD k 0 = (digs b m)[(digs b m).length - 1]'(by omega) := by
  rw [List.getD_eq_getElem?_getD, List.getElem?_eq_getElem hk]; rfl
 omega
structure DivInv (b : Nat) (x : List Nat) (m i : Nat) (q : List Nat) (r : Nat) : Prop where
 len : q.length = x.length
 lt : ∀ d ∈ q, d < b
 quot : val b (q.drop i) = val b (x.drop i) / m
 rem : r = val b (x.drop i) % m
theorem DivInv.start {b : Nat} (hb : 2 ≤ b) (x : List Nat) (m : Nat) : DivInv b x m x.length (List.replicate x.length 0) 0 :=
 ⟨by simp, fun d hd => by rw [(List.mem_replicate.1 hd).2]; omega, by simp [val], by simp [val]⟩
theorem DivInv.step {b : Nat} (hb : 2 ≤ b) {x : List Nat} {m i : Nat} {q : List Nat} {r : Nat} (hm : 0 < m) (hx : ∀ d ∈ x, d < b) (h : DivInv b x m (i + 1) q r) (hi : i < x.length) :
  DivInv b x m i (q.set i ((x.getD i 0 + b * r) / m)) ((x.getD i 0 + b * r) % m) ∧ (x.getD i 0 + b * r) / m < b := by
 have hr : r < m := by rw [h.rem]; exact Nat.mod_lt _ hm
 have hxi := getD_lt (show 0 < b by omega) hx i
 have hd : (x.getD i 0 + b * r) / m < b := by
  rw [Nat.div_lt_iff_lt_mul hm]
  have : b * (r + 1) ≤ b * m := Nat.mul_le_mul_left _ hr
  rw [Nat.mul_add, Nat.mul_one] at this
  omega
 have hlen := h.len
 have e1 : val b (x.drop i) = x.getD i 0 + b * r + m * (b * (val b (x.drop (i + 1)) / m)) := by
  rw [val_drop_succ b x i hi]
  have := Nat.mod_add_div (val b (x.drop (i + 1))) m
  rw [← h.rem] at this
  conv => lhs; rw [← this]
  rw [Nat.mul_add, Nat.mul_left_comm, Nat.add_assoc]
 refine ⟨⟨by simpa using hlen, mem_set_lt h.lt hd, ?_, ?_⟩, hd⟩
 ·have e2 : (q.set i ((x.getD i 0 + b * r) / m)).drop i = ((x.getD i 0 + b * r) / m) :: q.drop (i + 1) := by
   rw [List.drop_eq_getElem_cons (by simp; omega), drop_set_after]; simp
  rw [e2, e1, Nat.add_mul_div_left _ _ hm]
  simp only [val, h.quot]
 ·rw [e1, Nat.add_mul_mod_self_left]
theorem DivInv.done {b : Nat} {x : List Nat} {m : Nat} {q : List Nat} {r : Nat} (h : DivInv b x m 0 q r) : val b q = val b x / m ∧ r = val b x % m := by
 have h1 := h.quot; have h2 := h.rem
 simp only [List.drop_zero] at h1 h2
 exact ⟨h1, h2⟩
theorem digs_cons {b : Nat} (hb : 2 ≤ b) (d r : Nat) (_ : d < b) : val b (d :: digs b r) = d + b * r := by simp [val, val_digs hb]
theorem snoc_ind {α : Type} {p : List α → Prop} (h0 : p []) (h1 : ∀ l c, p l → p (l ++ [c])) (l : List α) : p l := by
 have h : ∀ r : List α, p r.reverse := by
  intro r
  induction r with
  | nil => simpa using h0
  | cons c r ih => rw [List.reverse_cons]; exact h1 _ _ ih
 simpa using h l.reverse
theorem head_append {α : Type} {l : List α} (h : l ≠ []) (r : List α) : (l ++ r).head? = l.head? := by
 cases l with
 | nil => exact absurd rfl h
 | cons _ _ => rfl
def AllDigits (l : List UInt8) : Prop := ∀ c ∈ l, 48 ≤ c.toNat ∧ c.toNat ≤ 57
def decVal (l : List UInt8) : Nat := l.foldl (fun a c => 10 * a + (c.toNat - 48)) 0
theorem foldl_dec (l : List UInt8) : ∀ a, l.foldl (fun a c => 10 * a + (c.toNat - 48)) a = a * 10 ^ l.length + decVal l := by
 induction l with
 | nil => intro a; simp [decVal]
 | cons c r ih =>
  intro a
  simp only [decVal, List.foldl_cons, List.length_cons]
  rw [ih, ih (10 * 0 + (c.toNat - 48))]
  simp only [Nat.pow_succ, Nat.mul_zero, Nat.zero_add, Nat.add_mul]
  rw [Nat.mul_comm 10 a, Nat.mul_assoc, Nat.mul_comm 10]
  omega
theorem decVal_append (a c : List UInt8) : decVal (a ++ c) = decVal a * 10 ^ c.length + decVal c := by
 show (a ++ c).foldl _ 0 = _
 rw [List.foldl_append, foldl_dec]; rfl
theorem decVal_snoc (a : List UInt8) (c : UInt8) : decVal (a ++ [c]) = 10 * decVal a + (c.toNat - 48) := by
 rw [decVal_append]; simp [decVal]; omega
theorem decVal_lt : ∀ l : List UInt8, AllDigits l → decVal l < 10 ^ l.length := by
 intro l
 induction l using snoc_ind with
 | h0 => intro _; simp [decVal]
 | h1 l c ih =>
  intro h
  have h1 := ih (fun x hx => h x (List.mem_append_left _ hx))
  have h2 := h c (by simp)
  rw [decVal_snoc]
  simp only [List.length_append, List.length_singleton, Nat.pow_succ]
  omega
theorem dig_toNat {d : Nat} (h : d < 10) : (UInt8.ofNat (48 + d)).toNat = 48 + d := by
 simp; omega
theorem decDigits_step {n : Nat} (h : 10 ≤ n) : Lib.decDigits n = Lib.decDigits (n / 10) ++ [UInt8.ofNat (48 + n % 10)] := by
 rw [Lib.decDigits, dif_neg (by omega)]
theorem decDigits_small {n : Nat} (h : n < 10) : Lib.decDigits n = [UInt8.ofNat (48 + n)] := by
 rw [Lib.decDigits, dif_pos h]
theorem decVal_decDigits (n : Nat) : decVal (Lib.decDigits n) = n := by
 induction n using Nat.strongRecOn with
 | _ n ih =>
  by_cases h : n < 10
  ·rw [decDigits_small h]
   show 10 * 0 + ((UInt8.ofNat (48 + n)).toNat - 48) = n
   rw [dig_toNat h]; omega
  ·rw [decDigits_step (by omega), decVal_snoc, ih (n / 10) (by omega), dig_toNat (Nat.mod_lt _ (by omega))]
   omega
theorem decDigits_all (n : Nat) : AllDigits (Lib.decDigits n) := by
 induction n using Nat.strongRecOn with
 | _ n ih =>
  intro c hc
  by_cases h : n < 10
  ·rw [decDigits_small h] at hc
   rw [List.mem_singleton.1 hc, dig_toNat h]; omega
  ·rw [decDigits_step (by omega)] at hc
   rcases List.mem_append.1 hc with hc | hc
   ·exact ih (n / 10) (by omega) c hc
   ·rw [List.mem_singleton.1 hc, dig_toNat (Nat.mod_lt _ (by omega))]
    have := Nat.mod_lt n (show 0 < 10 by omega)
    omega
theorem decDigits_ne (n : Nat) : Lib.decDigits n ≠ [] := by
 by_cases h : n < 10
 ·rw [decDigits_small h]; simp
 ·rw [decDigits_step (by omega)]; simp
theorem decDigits_of : ∀ l : List UInt8, AllDigits l → l ≠ [] → (l.head? = some 48 → l.length = 1) → l = Lib.decDigits (decVal l) := by
 intro l
 induction l using snoc_ind with
 | h0 => intro _ h; exact absurd rfl h
 | h1 l c ih =>
  intro h _ hz
  have h2 := h c (by simp)
  have hc : UInt8.ofNat (48 + (c.toNat - 48)) = c := by
   apply UInt8.toNat_inj.1
   rw [dig_toNat (by omega)]; omega
  rw [decVal_snoc]
  by_cases hl : l = []
  ·subst hl
   have : (10 * decVal [] + (c.toNat - 48)) = c.toNat - 48 := by simp [decVal]
   rw [this, decDigits_small (by omega), hc]; rfl
  ·have h1 := ih (fun x hx => h x (List.mem_append_left _ hx)) hl (fun hh => by
    exfalso
    have := hz (by rw [head_append hl]; exact hh)
    have hpos := List.length_pos_iff.2 hl
    rw [List.length_append, List.length_singleton] at this; omega)
   have hv : 0 < decVal l := by
    apply Nat.pos_of_ne_zero
    intro hv
    rw [hv, decDigits_small (n := 0) (by omega)] at h1
    have h3 := hz (by rw [h1]; rfl)
    rw [h1] at h3
    simp at h3
   rw [decDigits_step (by omega)]
   have e1 : (10 * decVal l + (c.toNat - 48)) / 10 = decVal l := by omega
   have e2 : (10 * decVal l + (c.toNat - 48)) % 10 = c.toNat - 48 := by omega
   rw [e1, e2, hc, ← h1]
theorem decDigits_head (n : Nat) (hn : n ≠ 0) : (Lib.decDigits n).head? ≠ some 48 := by
 induction n using Nat.strongRecOn with
 | _ n ih =>
  by_cases h : n < 10
  ·rw [decDigits_small h]
   intro e
   simp only [List.head?_cons, Option.some.injEq] at e
   have := congrArg UInt8.toNat e
   rw [dig_toNat h] at this
   simp at this; omega
  ·rw [decDigits_step (by omega), head_append (decDigits_ne _)]
   exact ih (n / 10) (by omega) (by omega)
theorem decDigits_zero : Lib.decDigits 0 = [48] := decDigits_small (by omega)
theorem decDigits_one : Lib.decDigits 1 = [49] := decDigits_small (by omega)
theorem decDigits_inj {m n : Nat} (h : Lib.decDigits m = Lib.decDigits n) : m = n := by
 rw [← decVal_decDigits m, h, decVal_decDigits]
def pad : Nat → Nat → List UInt8
 | 0, _ => []
 | k + 1, d => pad k (d / 10) ++ [UInt8.ofNat (48 + d % 10)]
theorem pad_zero : ∀ k, pad k 0 = List.replicate k 48
 | 0 => rfl
 | k + 1 => by rw [pad, pad_zero k, List.replicate_succ']; rfl
theorem decDigits_len_le {d k : Nat} (h : d < 10 ^ (k + 1)) : (Lib.decDigits d).length ≤ k + 1 := by
 induction k generalizing d with
 | zero => rw [decDigits_small (by simpa using h)]; simp
 | succ k ih =>
  by_cases hd : d < 10
  ·rw [decDigits_small hd]; simp
  ·rw [decDigits_step (by omega), List.length_append, List.length_singleton]
   have := ih (d := d / 10) (by rw [Nat.pow_succ] at h; omega)
   omega
theorem pad_eq : ∀ (k d : Nat), d < 10 ^ (k + 1) → pad (k + 1) d = List.replicate (k + 1 - (Lib.decDigits d).length) 48 ++ Lib.decDigits d
 | 0, d, h => by rw [decDigits_small (by simpa using h)]; simp [pad, Nat.mod_eq_of_lt (show d < 10 by simpa using h)]
 | k + 1, d, h => by
  by_cases hd : d < 10
  ·rw [decDigits_small hd, pad]
   have e1 : d / 10 = 0 := by omega
   have e2 : d % 10 = d := by omega
   rw [e1, e2, pad_zero]; simp
  ·rw [decDigits_step (by omega), pad, pad_eq k (d / 10) (by rw [Nat.pow_succ] at h; omega)]
   simp only [List.length_append, List.length_singleton, List.append_assoc]
   congr 2
   omega
theorem decDigits_pad (v : Nat) (hv : 0 < v) : ∀ (k d : Nat), d < 10 ^ k → Lib.decDigits (10 ^ k * v + d) = Lib.decDigits v ++ pad k d
 | 0, d, h => by
  have : d = 0 := by simpa using h
  subst this; simp [pad]
 | k + 1, d, h => by
  have h1 : 1 ≤ 10 ^ k * v := Nat.mul_pos (Nat.pow_pos (by omega)) hv
  have hp : 10 ^ (k + 1) * v = 10 * (10 ^ k * v) := by rw [Nat.pow_succ', Nat.mul_assoc]
  rw [hp, decDigits_step (by omega)]
  have e1 : (10 * (10 ^ k * v) + d) / 10 = 10 ^ k * v + d / 10 := by omega
  have e2 : (10 * (10 ^ k * v) + d) % 10 = d % 10 := by omega
  rw [e1, e2, decDigits_pad v hv k (d / 10) (by rw [Nat.pow_succ] at h; omega), pad, List.append_assoc]
theorem decDigits_length_iff {n k : Nat} (hk : 0 < k) : (Lib.decDigits n).length ≤ k ↔ n < 10 ^ k := by
 constructor
 ·intro h
  have h1 := decVal_lt _ (decDigits_all n)
  rw [decVal_decDigits] at h1
  exact Nat.lt_of_lt_of_le h1 (Nat.pow_le_pow_right (by omega) h)
 ·intro h
  obtain ⟨j, rfl⟩ : ∃ j, k = j + 1 := ⟨k - 1, by omega⟩
  exact decDigits_len_le h
theorem decFrom_val : ∀ (l : List UInt8) (a : Nat), AllDigits l → Lib.decFrom a l = some (a * 10 ^ l.length + decVal l)
 | [], a, _ => by simp [Lib.decFrom, decVal]
 | c :: r, a, h => by
  have h1 := h c (by simp)
  have h2 : Lib.digitVal c = some (c.toNat - 48) := by unfold Lib.digitVal; rw [if_pos h1]
  simp only [Lib.decFrom, h2]
  rw [decFrom_val r _ (fun x hx => h x (List.mem_cons_of_mem _ hx))]
  have h3 := decVal_append [c] r
  simp only [List.singleton_append] at h3
  have h4 : decVal [c] = c.toNat - 48 := by simp [decVal]
  rw [h3, h4, List.length_cons, Nat.pow_succ, Nat.add_mul]
  congr 1
  rw [Nat.mul_assoc, Nat.mul_comm 10]; omega
theorem atoi_val (l : List UInt8) (h : AllDigits l) (hne : l ≠ []) : Lib.atoi l = some (decVal l : Int) := by
 cases l with
 | nil => exact absurd rfl hne
 | cons c r =>
  have h1 := h c (by simp)
  have c1 : (c == 45) = false := by rw [beq_eq_false_iff_ne]; rintro rfl; simp at h1
  have c2 : (c == 43) = false := by rw [beq_eq_false_iff_ne]; rintro rfl; simp at h1
  simp only [Lib.atoi, c1, c2, Bool.false_eq_true, if_false, Lib.decNat, List.isEmpty_cons, decFrom_val _ _ h]
  simp
structure ParseInv (b : Nat) (s : List UInt8) (k : Nat) (o : List Nat) : Prop where
 le : k ≤ s.length
 lt : ∀ d ∈ o, d < b
 sum : val b o + b ^ o.length * decVal (s.take k) = decVal s
theorem ParseInv.start (b : Nat) (s : List UInt8) : ParseInv b s s.length [] := ⟨Nat.le_refl _, by simp, by simp [val]⟩
theorem ParseInv.step {b : Nat} (hb : 10 ^ 9 = b) {s : List UInt8} (hs : AllDigits s) {k j : Nat} {o : List Nat} (h : ParseInv b s k o) (hj : j < k) (hl : k - j ≤ 9) (hfull : j = 0 ∨ k - j = 9) : ParseInv b s j (o ++ [decVal ((s.take k).drop j)]) := by
 have hle := h.le
 have h0 : decVal ((s.take k).drop j) < 10 ^ (k - j) := by
  have := decVal_lt ((s.take k).drop j) (fun c hc => hs c (List.mem_of_mem_take (List.mem_of_mem_drop hc)))
  simpa [Nat.min_eq_left hle] using this
 have h1 : decVal ((s.take k).drop j) < b := by rw [← hb]; exact Nat.lt_of_lt_of_le h0 (Nat.pow_le_pow_right (by omega) hl)
 refine ⟨by omega, ?_, ?_⟩
 ·intro d hd
  rcases List.mem_append.1 hd with hd | hd
  ·exact h.lt d hd
  ·rw [List.mem_singleton.1 hd]; exact h1
 ·have e : s.take k = s.take j ++ (s.take k).drop j := by
   have := (List.take_append_drop j (s.take k)).symm
   rwa [List.take_take, Nat.min_eq_left (by omega)] at this
  have e2 := decVal_append (s.take j) ((s.take k).drop j)
  rw [← e] at e2
  have hlen : ((s.take k).drop j).length = k - j := by simp [Nat.min_eq_left hle]
  rw [hlen] at e2
  have hsum := h.sum
  rw [e2, Nat.mul_add] at hsum
  rw [val_snoc, List.length_append, List.length_singleton, Nat.pow_succ]
  rcases hfull with rfl | h9
  ·have z : decVal (s.take 0) = 0 := rfl
   rw [z] at hsum ⊢
   simp only [Nat.mul_zero, Nat.zero_mul, Nat.add_zero, Nat.zero_add] at hsum ⊢
   exact hsum
  ·rw [h9, hb] at hsum
   rw [Nat.mul_assoc, Nat.mul_comm b (decVal (s.take j))]
   omega
theorem ParseInv.done {b : Nat} {s : List UInt8} {o : List Nat} (h : ParseInv b s 0 o) : val b o = decVal s := by
 have := h.sum
 simpa [decVal] using this
end Go.Proofs.YtjcdeeahjkfmoaaGreatDoor.Num
namespace Go.Proofs.YtjcdeeahjkfmoaaGreatDoor.Num
def ratOf (minus : Bool) (n d : Nat) : Rat := mkRat (if minus then -(n : Int) else n) d
def neg (q : Rat) : Bool := decide (q.num < 0)
def up (q : Rat) : Nat := q.num.natAbs
def fits (q : Rat) : Bool := decide ((Lib.decDigits (up q)).length ≤ 300) && decide ((Lib.decDigits q.den).length ≤ 300)
def numText (q : Rat) : List UInt8 := if neg q then 45 :: Lib.decDigits (up q) else Lib.decDigits (up q)
def denText (q : Rat) : List UInt8 := Lib.decDigits q.den
theorem natAbs_sign (m : Bool) (n : Nat) : (if m then -(n : Int) else n).natAbs = n := by cases m <;> simp
theorem ratOf_up (m : Bool) (n : Nat) {d : Nat} (hd : d ≠ 0) : up (ratOf m n d) = n / n.gcd d := by
 unfold up ratOf
 rw [Rat.num_mkRat, if_neg hd, natAbs_sign]
 have hdv : ((d.gcd n : Nat) : Int) ∣ (if m then -(n : Int) else n) := by
  have h1 : ((d.gcd n : Nat) : Int) ∣ (n : Int) := Int.natCast_dvd_natCast.2 (Nat.gcd_dvd_right d n)
  cases m with
  | false => simpa using h1
  | true => simpa using (Int.dvd_neg.2 h1)
 rw [Int.natAbs_ediv_of_dvd hdv, natAbs_sign, Nat.gcd_comm]
 simp
theorem ratOf_den (m : Bool) (n : Nat) {d : Nat} (hd : d ≠ 0) : (ratOf m n d).den = d / n.gcd d := by
 unfold ratOf
 rw [Rat.den_mkRat, if_neg hd, natAbs_sign, Nat.gcd_comm]
theorem ratOf_neg (m : Bool) (n : Nat) {d : Nat} (hd : d ≠ 0) : neg (ratOf m n d) = (m && decide (n ≠ 0)) := by
 unfold neg ratOf
 rw [Rat.num_mkRat, if_neg hd, natAbs_sign]
 have hg : 0 < d.gcd n := Nat.gcd_pos_of_pos_left _ (Nat.pos_of_ne_zero hd)
 obtain ⟨k, hk⟩ := Nat.gcd_dvd_right d n
 rw [Bool.eq_iff_iff]
 simp only [decide_eq_true_eq, Bool.and_eq_true]
 have hgi : (0 : Int) < (d.gcd n : Nat) := by omega
 cases m with
 | false =>
  simp only [Bool.false_eq_true, if_false, false_and, iff_false]
  have : (0 : Int) ≤ (n : Int) / (d.gcd n : Nat) := Int.ediv_nonneg (by omega) (by omega)
  omega
 | true =>
  simp only [if_true, true_and]
  have e : (-(n : Int)) / ((d.gcd n : Nat) : Int) = -(k : Int) := by
   have : (-(n : Int)) = ((d.gcd n : Nat) : Int) * (-(k : Int)) := by
    conv => lhs; rw [hk]
    rw [Int.natCast_mul, Int.mul_neg]
   rw [this]
   exact Int.mul_ediv_cancel_left _ (by omega)
  rw [e]
  constructor
  ·intro h hn
   have : d.gcd n * k = 0 := by rw [← hk]; exact hn
   rcases Nat.mul_eq_zero.1 this with h0 | h0 <;> omega
  ·intro hn
   have : k ≠ 0 := by rintro rfl; exact hn (by rw [hk]; simp)
   omega
theorem ratOf_self (q : Rat) : ratOf (neg q) (up q) q.den = q := by
 unfold ratOf neg up
 have : (if decide (q.num < 0) = true then -(q.num.natAbs : Int) else q.num.natAbs) = q.num := by
  by_cases h : q.num < 0 <;> simp [h] <;> omega
 rw [this, Rat.mkRat_self]
theorem up_gcd (q : Rat) : (up q).gcd q.den = 1 := q.reduced
theorem up_zero (q : Rat) : up q = 0 ↔ q = 0 := by
 unfold up
 rw [Int.natAbs_eq_zero]
 exact Rat.num_eq_zero
theorem neg_up (q : Rat) (h : neg q = true) : up q ≠ 0 := by
 unfold neg at h; unfold up
 have := of_decide_eq_true h
 omega
theorem ratOf_zero (m : Bool) (d : Nat) : ratOf m 0 d = 0 := by
 unfold ratOf
 have : (if m then -((0 : Nat) : Int) else ((0 : Nat) : Int)) = 0 := by cases m <;> rfl
 rw [this]; exact Rat.zero_mkRat d
theorem signed_mul (m k : Bool) (a b : Nat) : (if m then -(a : Int) else a) * (if k then -(b : Int) else b) = (if (m != k) then -((a * b : Nat) : Int) else ((a * b : Nat) : Int)) := by
 cases m <;> cases k <;> simp [Int.mul_neg, Int.neg_mul]
theorem ratOf_mul (m k : Bool) (a b c d : Nat) : ratOf m a b * ratOf k c d = ratOf (m != k) (a * c) (b * d) := by
 unfold ratOf
 rw [Rat.mkRat_mul_mkRat, signed_mul]
theorem ratOf_negate (m : Bool) (n d : Nat) : -ratOf m n d = ratOf (!m) n d := by
 unfold ratOf
 rw [Rat.neg_mkRat]
 cases m <;> simp
def sumSign (m k : Bool) (p q : Nat) : Bool := if m == k then m else if q ≤ p then m else k
def sumNum (m k : Bool) (p q : Nat) : Nat := if m == k then p + q else if q ≤ p then p - q else q - p
theorem ratOf_add (m k : Bool) (a b c d : Nat) (hb : b ≠ 0) (hd : d ≠ 0) : ratOf m a b + ratOf k c d = ratOf (sumSign m k (a * d) (c * b)) (sumNum m k (a * d) (c * b)) (b * d) := by
 unfold ratOf
 rw [Rat.mkRat_add_mkRat _ _ hb hd]
 congr 1
 have e1 : (if m then -(a : Int) else a) * (d : Int) = if m then -((a * d : Nat) : Int) else ((a * d : Nat) : Int) := by cases m <;> simp [Int.neg_mul]
 have e2 : (if k then -(c : Int) else c) * (b : Int) = if k then -((c * b : Nat) : Int) else ((c * b : Nat) : Int) := by cases k <;> simp [Int.neg_mul]
 rw [e1, e2]
 generalize a * d = p
 generalize c * b = q
 unfold sumSign sumNum
 by_cases hqp : q ≤ p
 ·cases m <;> cases k <;> simp [hqp] <;> omega
 ·cases m <;> cases k <;> simp [hqp] <;> omega
theorem ratOf_inv (m : Bool) (n d : Nat) (hn : n ≠ 0) (hd : d ≠ 0) : (ratOf m n d)⁻¹ = ratOf m d n := by
 have h1 : ratOf m n d * ratOf m d n = 1 := by
  rw [ratOf_mul]
  have : (m != m) = false := by cases m <;> rfl
  rw [this]
  unfold ratOf
  simp only [Bool.false_eq_true, if_false]
  rw [Nat.mul_comm d n]
  have h0 : n * d ≠ 0 := Nat.mul_ne_zero hn hd
  have := Rat.mkRat_self (1 : Rat)
  have e : mkRat ((n * d : Nat) : Int) (n * d) = mkRat 1 1 := by
   rw [Rat.mkRat_eq_iff h0 (by decide)]; simp
  rw [e]; rfl
 have h0 : ratOf m n d ≠ 0 := by
  intro h; rw [h, Rat.zero_mul] at h1; exact absurd h1 (by decide)
 have h2 : (ratOf m n d)⁻¹ * (ratOf m n d * ratOf m d n) = (ratOf m n d)⁻¹ := by rw [h1, Rat.mul_one]
 rw [← Rat.mul_assoc, Rat.inv_mul_cancel _ h0, Rat.one_mul] at h2
 exact h2.symm
theorem ratOf_div (m k : Bool) (a b c d : Nat) (hc : c ≠ 0) (hd : d ≠ 0) : ratOf m a b / ratOf k c d = ratOf (m != k) (a * d) (b * c) := by
 rw [Rat.div_def, ratOf_inv k c d hc hd, ratOf_mul]
end Go.Proofs.YtjcdeeahjkfmoaaGreatDoor.Num
namespace Go.Proofs.YtjcdeeahjkfmoaaGreatDoor
open Go.RowKit
theorem ret_int {k : IntKind} {a b : Int} (h : a = b) : Ending.returned (.int k a) = .returned (.int k b) := by rw [h]
theorem ret_str {a b : ByteArray} (h : a = b) : Ending.returned (.string a) = .returned (.string b) := by rw [h]
theorem int_beq (a b : Nat) : ((a : Int) == (b : Int)) = (a == b) := by
 rw [Bool.eq_iff_iff]; simp only [beq_iff_eq]; omega
theorem only_refl (w : World) (row : Option Nat) : w.grownBy w row := ⟨rfl, rfl, rfl, Nat.le_refl _, fun _ _ _ => rfl⟩
theorem only_trans {a b c : World} {row : Option Nat} (h : a.grownBy b row) (k : b.grownBy c row) : a.grownBy c row :=
 ⟨k.os.trans h.os, k.tape.trans h.tape, k.output.trans h.output, Nat.le_trans h.size k.size, fun i hi hne => (k.block i (Nat.lt_of_lt_of_le hi h.size) hne).trans (h.block i hi hne)⟩
theorem only_setCell {a w : World} {g : Nat} (h : a.grownBy w (some g)) {p : Addr} (hp : p.block = g ∨ a.heap.size ≤ p.block) (u : Value) : a.grownBy (w.setCell p u) (some g) :=
 ⟨h.os, h.tape, h.output, by simpa [World.setCell] using h.size, fun i hi hne => (Below.heap_setCell w p u i (by
  rintro rfl
  rcases hp with hp | hp
  ·exact hne (by rw [hp])
  ·omega)).trans (h.block i hi hne)⟩
theorem only_of_below {a w : World} (h : Below a.heap.size a w) (row : Option Nat) : a.grownBy w row := ⟨h.os, h.tape, h.output, h.size, fun i hi _ => h.block i hi⟩
theorem below_of_only {a w : World} {g : Nat} (h : a.grownBy w (some g)) {B : Nat} (hB : B ≤ g) (hs : B ≤ a.heap.size) : Below B a w :=
 ⟨h.os, h.tape, h.output, h.size, fun k hk => h.block k (by omega) (fun e => by injection e; omega)⟩
theorem below_none {a w : World} (h : a.grownBy w none) : Below a.heap.size a w :=
 ⟨h.os, h.tape, h.output, h.size, fun k hk => h.block k hk (fun e => by cases e)⟩
def KeepKind (S : TypeId) (w w' : World) : Prop := ∀ (k : Nat) (c : Array Value) (fz : Nat × Nat), w.heap[k]? = some (Obj.cells c S fz) → w'.heap[k]? = some (Obj.cells c S fz)
theorem KeepKind.refl (S : TypeId) (w : World) : KeepKind S w w := fun _ _ _ h => h
theorem KeepKind.trans {S : TypeId} {a b c : World} (h : KeepKind S a b) (k : KeepKind S b c) : KeepKind S a c := fun i x fz hi => k i x fz (h i x fz hi)
theorem heap_lt {w : World} {k : Nat} {o : Obj} (h : w.heap[k]? = some o) : k < w.heap.size := (Array.getElem?_eq_some_iff.1 h).1
theorem KeepKind.below {S : TypeId} {a b : World} (h : Below a.heap.size a b) : KeepKind S a b := fun k _ _ hk => (h.block k (heap_lt hk)).trans hk
theorem KeepKind.owns {S : TypeId} {w w' : World} (h : KeepKind S w w') {B size n : Nat} {v : Value} {xs : List Value} (ho : w.ownsRow B S size v n xs) : w'.ownsRow B S size v n xs := by
 refine ⟨ho.1, ?_⟩
 rcases ho.2 with hn | ⟨g, cap, cur, rfl, hb, hg, rest⟩
 ·exact .inl hn
 ·exact .inr ⟨g, cap, cur, rfl, hb, h g _ _ hg, rest⟩
theorem heap_setCell_at {w : World} {b : Nat} {cs : Array Value} {T : TypeId} {fz : Nat × Nat} (h : w.heap[b]? = some (.cells cs T fz)) (j : Nat) (v : Value) :
  (w.setCell ⟨b, j, none⟩ v).heap[b]? = some (.cells (cs.setIfInBounds j v) T fz) := by
 simp [World.setCell, Array.getElem?_modify, h]
theorem alloc_at (w : World) (o : Obj) (k : Nat) (h : w.heap.size = k) : (w.alloc o).heap[k]? = some o := by subst h; exact heap_alloc_new w o
theorem size_setCell (w : World) (p : Addr) (v : Value) : (w.setCell p v).heap.size = w.heap.size := by simp [World.setCell]
end Go.Proofs.YtjcdeeahjkfmoaaGreatDoor
namespace Go.Proofs.YtjcdeeahjkfmoaaGreatDoor.Num
open Go.RowKit Go.Lib
def LB : Nat := 1000000000
theorem LB_two : 2 ≤ LB := by decide
theorem LB_ten : 10 ^ 9 = LB := by decide
def LimbsAt (w : World) (v : Value) (l : List Nat) : Prop :=
 ∃ A C, v = .slice A l.length C ∧ l.length ≤ C ∧ ∀ (i : Nat) (h : i < l.length), ∃ b o, A = some ⟨b, o, none⟩ ∧ w.cell? ⟨b, o + i, none⟩ = some (.int .u32 l[i])
def NatAt (w : World) (v : Value) (n : Nat) : Prop := LimbsAt w v (digs LB n)
theorem cell_lt {w : World} {p : Addr} {v : Value} (h : w.cell? p = some v) : p.block < w.heap.size := by
 by_cases hlt : p.block < w.heap.size
 ·exact hlt
 ·simp only [World.cell?] at h
  rw [Array.getElem?_eq_none (by omega)] at h
  cases h
theorem cell_below {w w' : World} {p : Addr} {v : Value} (h : w.cell? p = some v) (hb : Below w.heap.size w w') : w'.cell? p = some v := (hb.cell (cell_lt h)).trans h
theorem LimbsAt.below {w w' : World} {v : Value} {l : List Nat} (h : LimbsAt w v l) (hb : Below w.heap.size w w') : LimbsAt w' v l := by
 obtain ⟨A, C, rfl, hC, hc⟩ := h
 exact ⟨A, C, rfl, hC, fun i hi => let ⟨b, o, ha, hcell⟩ := hc i hi; ⟨b, o, ha, cell_below hcell hb⟩⟩
theorem NatAt.below {w w' : World} {v : Value} {n : Nat} (h : NatAt w v n) (hb : Below w.heap.size w w') : NatAt w' v n := LimbsAt.below h hb
theorem LimbsAt.nil (w : World) (A : Option Addr) (C : Nat) : LimbsAt w (.slice A 0 C) [] := ⟨A, C, rfl, Nat.zero_le _, fun _ hi => absurd hi (Nat.not_lt_zero _)⟩
theorem NatAt.zero (w : World) (A : Option Addr) (C : Nat) : NatAt w (.slice A 0 C) 0 := by unfold NatAt; rw [digs_zero]; exact LimbsAt.nil w A C
theorem LimbsAt.head {w : World} {A : Option Addr} {C : Nat} {l : List Nat} (h : LimbsAt w (.slice A l.length C) l) (n : Nat) (hn : n ≤ l.length) : LimbsAt w (.slice A n C) (l.take n) := by
 obtain ⟨A', C', e, hC, hc⟩ := h
 simp only [Value.slice.injEq, true_and] at e
 obtain ⟨rfl, rfl⟩ := e
 have hl : (l.take n).length = n := by simp; omega
 refine ⟨A, C, by rw [hl], by omega, fun i hi => ?_⟩
 obtain ⟨b, o, ha, hcell⟩ := hc i (by omega)
 exact ⟨b, o, ha, by rw [hcell]; simp⟩
def limbsV (l : List Nat) : List Value := l.map fun d : Nat => Value.int .u32 d
theorem limbsV_len (l : List Nat) : (limbsV l).length = l.length := by simp [limbsV]
def Begins (cs : Array Value) (l : List Nat) : Prop := ∀ (i : Nat) (h : i < l.length), cs[i]? = some (.int .u32 l[i])
theorem LimbsAt.of_block {w : World} {g C : Nat} {cs : Array Value} {T : TypeId} {fz : Nat × Nat} {l : List Nat} (h : w.heap[g]? = some (.cells cs T fz)) (hc : Begins cs l) (hC : l.length ≤ C) : LimbsAt w (.slice (some ⟨g, 0, none⟩) l.length C) l :=
 ⟨some ⟨g, 0, none⟩, C, rfl, hC, fun i hi => ⟨g, 0, rfl, by rw [Nat.zero_add, Lib.cell_of_heap h i]; exact hc i hi⟩⟩
theorem Begins.set {cs : Array Value} {l : List Nat} (h : Begins cs l) (i d : Nat) : Begins (cs.setIfInBounds i (.int .u32 d)) (l.set i d) := by
 intro j hj
 have hj' : j < l.length := by simpa using hj
 have hc := h j hj'
 have hjc : j < cs.size := (Array.getElem?_eq_some_iff.1 hc).1
 by_cases hij : i = j
 ·subst hij
  rw [Array.getElem?_setIfInBounds_self_of_lt hjc]; simp
 ·rw [Array.getElem?_setIfInBounds_ne hij, hc]; simp [List.getElem_set_ne hij]
theorem Begins.at {cs : Array Value} {l : List Nat} (h : Begins cs l) (i : Nat) (hi : i < l.length) : cs[i]? = some (.int .u32 (l.getD i 0)) := by
 rw [h i hi]; simp [List.getD, hi]
theorem Begins.of_owns {w : World} {B n : Nat} {e : TypeId} {v : Value} {l : List Nat} (h : w.ownsRow B e 1 v n (limbsV l)) : LimbsAt w v l := by
 have hn : l.length = n := by have := h.1; simpa [limbsV] using this
 subst hn
 rcases h.2 with ⟨rfl, h0⟩ | ⟨g, cap, cur, rfl, hb, hg, hc1, hc2, hcs, htk⟩
 ·have : l = [] := List.eq_nil_of_length_eq_zero h0
  subst this
  exact LimbsAt.nil w _ _
 ·refine LimbsAt.of_block hg (fun i hi => ?_) hc1
  have e : (cur.toList.take (l.length * 1))[i]? = some (.int .u32 l[i]) := by rw [htk, limbsV, List.getElem?_map, List.getElem?_eq_getElem hi]; rfl
  rw [List.getElem?_take_of_lt (by omega)] at e
  simpa using e
theorem LimbsAt.form {w : World} {v : Value} {l : List Nat} (h : LimbsAt w v l) : ∃ A C, v = .slice A l.length C ∧ l.length ≤ C := let ⟨A, C, h, hC, _⟩ := h; ⟨A, C, h, hC⟩
theorem LimbsAt.cellD {w : World} {A : Option Addr} {C : Nat} {l : List Nat} (h : LimbsAt w (.slice A l.length C) l) (i : Nat) (hi : i < l.length) : ∃ b o, A = some ⟨b, o, none⟩ ∧ w.cell? ⟨b, o + i, none⟩ = some (.int .u32 (l.getD i 0)) := by
 obtain ⟨A', C', e, hC, hc⟩ := h
 simp only [Value.slice.injEq, true_and] at e
 obtain ⟨rfl, rfl⟩ := e
 obtain ⟨b, o, ha, hcell⟩ := hc i hi
 exact ⟨b, o, ha, by rw [hcell]; simp [List.getD, hi]⟩
end Go.Proofs.YtjcdeeahjkfmoaaGreatDoor.Num
namespace Go.Proofs.YtjcdeeahjkfmoaaGreatDoor.Num
open Go.RowKit Go.Lib
theorem digs_isnil (n : Nat) : ((digs LB n).length == 0) = decide (n = 0) := by
 rw [Bool.eq_iff_iff]
 simp only [beq_iff_eq, decide_eq_true_eq, List.length_eq_zero_iff]
 exact digs_eq_nil LB_two
theorem zero_any (v : Value) (n : Nat) (w : World) (h : NatAt w v n) :
  Calls Tryz.prog 218 #[v] w fun e w' => e = .returned (.bool (decide (n = 0))) ∧ w' = w := by
 obtain ⟨A, C, rfl, _, _⟩ := h
 have HZ := hid (digs_isnil n)
 generalize (digs LB n).length = k at HZ ⊢
 have hi : ((k : Int) == 0) = (k == 0) := int_beq k 0
 go_enter Tryz.func218, Tryz.ntmps218
 go_wp2
 go_ret
 exact ⟨by rw [← HZ.out, ← hi]; rfl, rfl⟩
theorem trim_own (v : Value) (l : List Nat) (w : World) (h : LimbsAt w v l) (hd : ∀ d ∈ l, d < LB) (hl : l.length ≤ 1000000000) :
  Calls Tryz.prog 289 #[v] w fun e w' => ∃ v', e = .returned v' ∧ NatAt w v' (val LB l) ∧ v'.ownBlock = v.ownBlock ∧ w' = w := by
 obtain ⟨A, C, rfl, hC⟩ := h.form
 have H := hid h; clear h
 have HD := hid hd; clear hd
 go_enter Tryz.func289, Tryz.ntmps289
 go_wp2
 go_loopg [0] l.length (fun g v0 wx => ∃ n, n = g ∧ n ≤ l.length ∧ v0 = .slice A n C ∧ val LB (l.take n) = val LB l ∧ wx = w)
 case atStart => exact ⟨l.length, rfl, Nat.le_refl _, rfl, by rw [List.take_length], rfl⟩
 case round =>
  obtain ⟨n, rfl, hn, rfl, hv, rfl⟩ := hrel
  have HV := hid hv; clear hv
  have hfin : (n = 0 ∨ l.getD (n - 1) 0 ≠ 0) → NatAt wr (.slice A n C) (val LB l) := by
   intro hz
   have e := trim_done LB_two HD.out hn HV.out hz
   have h1 := H.out.head n hn
   unfold NatAt
   rw [← e]; exact h1
  have HF := hid hfin; clear hfin
  by_cases h0 : n = 0
  ·subst h0
   go_wp2
   go_ret
   exact ⟨_, rfl, HF.out (.inl (by simp)), by cases A <;> rfl, rfl⟩
  ·obtain ⟨j, rfl⟩ : ∃ j, n = j + 1 := ⟨n - 1, by omega⟩
   obtain ⟨b, o, rfl, hcell⟩ := H.out.cellD j (by omega)
   have hj : decide ((0 : Int) < ((j + 1 : Nat) : Int)) = true := decide_eq_true (by omega)
   obtain ⟨d, hdj⟩ : ∃ d, l.getD j 0 = d := ⟨_, rfl⟩
   rw [hdj] at hcell
   have HDJ := hid hdj; clear hdj
   by_cases hz : d = 0
   ·have hv2 := trim_step (by omega) HV.out (HDJ.out.trans hz)
    have HV2 := hid hv2; clear hv2
    subst hz
    go_wp2
    go_roundg j
    case measure => omega
    case rel => exact ⟨j, rfl, by omega, by go_num, HV2.out, rfl⟩
   ·have hzb : ((d : Int) == 0) = false := by rw [beq_eq_false_iff_ne]; omega
    have HZ := hid hz; clear hz
    go_wp2
    go_ret
    exact ⟨_, rfl, HF.out (.inr (by rw [Nat.add_sub_cancel, HDJ.out]; exact HZ.out)), rfl, rfl⟩
theorem trim_any (v : Value) (l : List Nat) (w : World) (h : LimbsAt w v l) (hd : ∀ d ∈ l, d < LB) (hl : l.length ≤ 1000000000) :
  Calls Tryz.prog 289 #[v] w fun e w' => ∃ v', e = .returned v' ∧ NatAt w v' (val LB l) ∧ w' = w :=
 (trim_own v l w h hd hl).mono fun _ _ ⟨v', h1, h2, _, h3⟩ => ⟨v', h1, h2, h3⟩
end Go.Proofs.YtjcdeeahjkfmoaaGreatDoor.Num
namespace Go.Proofs.YtjcdeeahjkfmoaaGreatDoor.Num
open Go.RowKit Go.Lib
theorem one_any (v : Value) (n : Nat) (w : World) (h : NatAt w v n) :
  Calls Tryz.prog 288 #[v] w fun e w' => e = .returned (.bool (decide (n = 1))) ∧ w' = w := by
 obtain ⟨A, C, rfl, hC⟩ := h.form
 by_cases hl : (digs LB n).length = 1
 ·obtain ⟨b, o, rfl, hcell⟩ := h.cellD 0 (by omega)
  have hn : (digs LB n).getD 0 0 = n := by
   have h1 : digs LB n = [(digs LB n).getD 0 0] := by
    match hd : digs LB n, hl with
    | [d], _ => rfl
   have h2 := val_digs LB_two n
   rw [h1] at h2
   simpa [val] using h2
  rw [hn, Nat.add_zero] at hcell
  rw [hl]
  clear h hC hn hl
  have hb : ((n : Int) == 1) = decide (n = 1) := by rw [show (1 : Int) = ((1 : Nat) : Int) from rfl, int_beq]; rfl
  go_enter Tryz.func288, Tryz.ntmps288
  go_wp2
  go_ret
  exact ⟨by rw [← hb]; rfl, rfl⟩
 ·have hn : decide (n = 1) = false := by
   apply decide_eq_false
   rintro rfl
   apply hl
   rw [digs_pos LB_two (by decide)]
   have : 1 / LB = 0 := by decide
   rw [this, digs_zero]; rfl
  rw [hn]
  generalize (digs LB n).length = k at hl ⊢
  have hk : ((k : Int) == 1) = false := by rw [beq_eq_false_iff_ne]; omega
  have hk2 : (k == 1) = false := by rw [beq_eq_false_iff_ne]; exact hl
  clear h hC hn hl
  go_enter Tryz.func288, Tryz.ntmps288
  go_wp2
  go_ret
  exact ⟨rfl, rfl⟩
theorem drew3 (w : World) (a b c : Nat) : ((w.drewN a).drewN b).drewN c = w.drewN (a + b + c) := by simp
def Compares (c : Int) (m n : Nat) : Prop := (c < 0 ↔ m < n) ∧ (0 < c ↔ n < m)
theorem compare_any (v1 v2 : Value) (m n : Nat) (w : World) (h1 : NatAt w v1 m) (h2 : NatAt w v2 n) (hm : (digs LB m).length ≤ 1000000000) (hn : (digs LB n).length ≤ 1000000000) :
  Calls Tryz.prog 283 #[v1, v2] w fun e w' => ∃ c, e = .returned (.int .i64 c) ∧ Compares c m n ∧ ∃ q, w' = w.drewN q := by
 obtain ⟨A1, C1, rfl, hC1⟩ := h1.form
 obtain ⟨A2, C2, rfl, hC2⟩ := h2.form
 by_cases hl : (digs LB m).length = (digs LB n).length
 ·have H1 := hid h1; clear h1
  have H2 := hid h2; clear h2
  obtain ⟨x, hx⟩ : ∃ x, digs LB m = x := ⟨_, rfl⟩
  obtain ⟨y, hy⟩ : ∃ y, digs LB n = y := ⟨_, rfl⟩
  unfold NatAt at H1 H2
  rw [hx] at hm hl H1 ⊢
  rw [hy] at hn hl H2 ⊢
  have HX := hid hx; clear hx
  have HY := hid hy; clear hy
  obtain ⟨k, hk⟩ : ∃ k, x.length = k := ⟨_, rfl⟩
  have hky : y.length = k := by omega
  rw [hk] at H1 hm ⊢
  rw [hky] at H2 ⊢
  have HK := hid hk
  have HKY := hid hky
  have HC1 := hid hC1; clear hC1
  have HC2 := hid hC2; clear hC2
  have hkb : ((k : Int) != (k : Int)) = false := by simp
  clear hl hn hk hky
  go_enter Tryz.func283, Tryz.ntmps283
  go_wp2
  go_loopg [5] k (fun g v5 wx => ∃ (i q : Nat), i = g ∧ i ≤ k ∧ v5 = .int .i64 ((i : Int) - 1) ∧ x.drop i = y.drop i ∧ wx = w.drewN q)
  case atStart => exact ⟨k, 0, rfl, Nat.le_refl _, by go_num, by rw [List.drop_of_length_le (by rw [HK.out]; exact Nat.le_refl _), List.drop_of_length_le (by rw [HKY.out]; exact Nat.le_refl _)], rfl⟩
  case round =>
   obtain ⟨i, q, rfl, hi, rfl, hdr, rfl⟩ := hrel
   have HD := hid hdr; clear hdr
   by_cases h0 : i = 0
   ·subst h0
    go_wp2
    go_ret
    refine ⟨0, rfl, ?_, q, rfl⟩
    have e : m = n := by
     apply digs_inj LB_two
     rw [HX.out, HY.out]; simpa using HD.out
    rw [e]
    exact ⟨by omega, by omega⟩
   ·obtain ⟨j, rfl⟩ : ∃ j, i = j + 1 := ⟨i - 1, by omega⟩
    have HH1 : LimbsAt w (.slice A1 x.length C1) x := by rw [HK.out]; exact H1.out
    have HH2 : LimbsAt w (.slice A2 y.length C2) y := by rw [HKY.out]; exact H2.out
    obtain ⟨b1, o1, rfl, e1⟩ := HH1.cellD j (by rw [HK.out]; omega)
    obtain ⟨b2, o2, rfl, e2⟩ := HH2.cellD j (by rw [HKY.out]; omega)
    clear HH1 HH2
    obtain ⟨d1, hd1⟩ : ∃ d, x.getD j 0 = d := ⟨_, rfl⟩
    obtain ⟨d2, hd2⟩ : ∃ d, y.getD j 0 = d := ⟨_, rfl⟩
    rw [hd1] at e1
    rw [hd2] at e2
    have hxd : x.drop j = d1 :: x.drop (j + 1) := by rw [List.drop_eq_getElem_cons (by rw [HK.out]; omega), ← hd1]; simp [List.getD, show j < x.length by rw [HK.out]; omega]
    have hyd : y.drop j = d2 :: y.drop (j + 1) := by rw [List.drop_eq_getElem_cons (by rw [HKY.out]; omega), ← hd2]; simp [List.getD, show j < y.length by rw [HKY.out]; omega]
    have HXD := hid hxd; clear hxd
    have HYD := hid hyd; clear hyd
    have hj0 : (0 : Int) ≤ (j : Int) := by omega
    have hjk : (j : Int) < (k : Int) := by omega
    have hlt1 : d1 < d2 → m < n := by
     intro h
     have := val_take_lt (b := LB) x y (by rw [← HX.out]; exact digs_lt LB_two m) (by rw [← HY.out]; exact digs_lt LB_two n) (by rw [HK.out, HKY.out]) j (by rw [HK.out]; omega) HD.out (by
      have a1 : x.getD j 0 = x[j]'(by rw [HK.out]; omega) := by simp [List.getD, show j < x.length by rw [HK.out]; omega]
      have a2 : y.getD j 0 = y[j]'(by rw [HKY.out]; omega) := by simp [List.getD, show j < y.length by rw [HKY.out]; omega]
      rw [← a1, ← a2, hd1, hd2]; exact h)
     rw [← HX.out, ← HY.out, val_digs LB_two, val_digs LB_two] at this
     exact this
    have hlt2 : d2 < d1 → n < m := by
     intro h
     have := val_take_lt (b := LB) y x (by rw [← HY.out]; exact digs_lt LB_two n) (by rw [← HX.out]; exact digs_lt LB_two m) (by rw [HK.out, HKY.out]) j (by rw [HKY.out]; omega) HD.out.symm (by
      have a1 : x.getD j 0 = x[j]'(by rw [HK.out]; omega) := by simp [List.getD, show j < x.length by rw [HK.out]; omega]
      have a2 : y.getD j 0 = y[j]'(by rw [HKY.out]; omega) := by simp [List.getD, show j < y.length by rw [HKY.out]; omega]
      rw [← a1, ← a2, hd1, hd2]; exact h)
     rw [← HX.out, ← HY.out, val_digs LB_two, val_digs LB_two] at this
     exact this
    have HL1 := hid hlt1; clear hlt1
    have HL2 := hid hlt2; clear hlt2
    clear hd1 hd2 h0
    by_cases hd : d1 = d2
    ·subst hd
     have hdb : ((d1 : Int) != (d1 : Int)) = false := by simp
     go_wp2
     go_quiet (fail)
     go_wp2
     go_roundg j
     case measure => omega
     case rel => exact ⟨j, _, rfl, by omega, by go_num, by rw [HXD.out, HYD.out, HD.out], rfl⟩
    ·have hdb : ((d1 : Int) != (d2 : Int)) = true := by rw [bne_iff_ne]; omega
     by_cases hlt : d1 < d2
     ·have hltb : decide ((d1 : Int) < (d2 : Int)) = true := decide_eq_true (by omega)
      have hltn : decide (d1 < d2) = true := decide_eq_true hlt
      have hr := HL1.out hlt
      have HR := hid hr; clear hr hlt
      go_wp2
      go_quiet (fail)
      go_wp2
      go_quiet (fail)
      go_wp2
      go_ret
      exact ⟨-1, rfl, ⟨by have := HR.out; omega, by have := HR.out; omega⟩, _, drew3 _ _ _ _⟩
     ·have hltb : decide ((d1 : Int) < (d2 : Int)) = false := decide_eq_false (by omega)
      have hltn : decide (d1 < d2) = false := decide_eq_false hlt
      have hr := HL2.out (by omega)
      have HR := hid hr; clear hr hlt
      go_wp2
      go_quiet (fail)
      go_wp2
      go_quiet (fail)
      go_wp2
      go_ret
      exact ⟨1, rfl, ⟨by have := HR.out; omega, by have := HR.out; omega⟩, _, drew3 _ _ _ _⟩
 ·have hcmp : Compares (((digs LB m).length : Int) - ((digs LB n).length : Int)) m n := by
   have a1 : ∀ {p q : Nat}, (digs LB p).length < (digs LB q).length → p < q := by
    intro p q h
    apply Nat.lt_of_not_le
    intro hle
    have := digs_len_mono LB_two hle
    omega
   constructor
   ·constructor
    ·intro h; exact a1 (by omega)
    ·intro h
     have := digs_len_mono LB_two (Nat.le_of_lt h)
     omega
   ·constructor
    ·intro h; exact a1 (by omega)
    ·intro h
     have := digs_len_mono LB_two (Nat.le_of_lt h)
     omega
  have HC := hid hcmp; clear hcmp
  generalize (digs LB m).length = k1 at hl hm HC ⊢
  generalize (digs LB n).length = k2 at hl hn HC ⊢
  have hkb : ((k1 : Int) != (k2 : Int)) = true := by rw [bne_iff_ne]; omega
  clear h1 h2 hC1 hC2
  go_enter Tryz.func283, Tryz.ntmps283
  go_wp2
  go_ret
  exact ⟨_, rfl, by exact HC.out, 0, rfl⟩
theorem info_u32 : ∃ i0, Tryz.prog.info? 182 = some i0 ∧ i0.zero = some (.int .u32 0) ∧ i0.size = 1 ∧ i0.bytes = 4 := info_parts (by kernel_rfl)
theorem owns_form {w : World} {B size n : Nat} {e : TypeId} {v : Value} {xs : List Value} (h : w.ownsRow B e size v n xs) : ∃ a cap, v = .slice a n cap := by
 rcases h.2 with ⟨rfl, rfl⟩ | ⟨g, cap, cur, rfl, _⟩
 ·exact ⟨_, _, rfl⟩
 ·exact ⟨_, _, rfl⟩
def OwnL (B : Nat) (v : Value) (l : List Nat) (w : World) : Prop := w.ownsRow B 182 1 v l.length (limbsV l)
theorem OwnL.at {B : Nat} {v : Value} {l : List Nat} {w : World} (h : OwnL B v l w) : LimbsAt w v l := Begins.of_owns h
theorem OwnL.snoc {B : Nat} {v : Value} {l : List Nat} {w : World} {d : Nat} (h : w.ownsRow B 182 1 v (l.length + 1) (limbsV l ++ [.int .u32 d])) : OwnL B v (l ++ [d]) w := by
 unfold OwnL limbsV
 rw [List.map_append, List.length_append]; exact h
theorem plus_any (v1 v2 : Value) (m n : Nat) (w : World) (h1 : NatAt w v1 m) (h2 : NatAt w v2 n) (hm : (digs LB m).length ≤ 1000000000) (hn : (digs LB n).length ≤ 1000000000) :
  Calls Tryz.prog 221 #[v1, v2] w fun e w' => ∃ v', e = .returned v' ∧ NatAt w' v' (m + n) ∧ Below w.heap.size w w' := by
 obtain ⟨A1, C1, rfl, hC1⟩ := h1.form
 obtain ⟨A2, C2, rfl, hC2⟩ := h2.form
 have H1 := hid h1; clear h1
 have H2 := hid h2; clear h2
 obtain ⟨x, hx⟩ : ∃ x, digs LB m = x := ⟨_, rfl⟩
 obtain ⟨y, hy⟩ : ∃ y, digs LB n = y := ⟨_, rfl⟩
 unfold NatAt at H1 H2
 rw [hx] at hm hC1 H1 ⊢
 rw [hy] at hn hC2 H2 ⊢
 have HX := hid hx; clear hx
 have HY := hid hy; clear hy
 obtain ⟨i0, hi0, hz0, hz1, hz2⟩ := info_u32
 have hx32 : ∀ d ∈ x, d < LB := by rw [← HX.out]; exact digs_lt LB_two m
 have hy32 : ∀ d ∈ y, d < LB := by rw [← HY.out]; exact digs_lt LB_two n
 have HX32 := hid hx32; clear hx32
 have HY32 := hid hy32; clear hy32
 have HC1 := hid hC1; clear hC1
 have HC2 := hid hC2; clear hC2
 obtain ⟨K, hK⟩ : ∃ K, max x.length y.length + 1 = K := ⟨_, rfl⟩
 have hKi : max (x.length : Int) (y.length : Int) + 1 = (K : Int) := by omega
 obtain ⟨B, hB⟩ : ∃ B, w.heap.size = B := ⟨_, rfl⟩
 have HB := hid hB
 go_enter Tryz.func221, Tryz.ntmps221
 go_wp2_with (refine wpList_make_own _ rfl _ _ 171 rfl B 182 i0 (.int .u32 0) 1 Tryz.underlying171 hi0 hz0 hz1 .i64 .i64 ((K : Nat) : Int) K rfl rfl rfl (by rw [hz2]; omega) (by unfold maxLen; omega) (by omega) ?_)
 intro w1 hown hgrow
 have hb1 : Below B w w1 := by rw [← HB.out]; exact below_none hgrow
 have HB1 := hid hb1; clear hb1 hgrow
 have HOW := hid hown; clear hown
 go_wp2
 go_loopg [5, 6, 7] (K + 1) (fun g v5 v6 v7 wx => ∃ (i c : Nat) (o : List Nat), i + g = K + 1 ∧ v6 = .int .u32 c ∧ v7 = .int .i64 i ∧ PlusInv LB x y i o c ∧ OwnL B v5 o wx ∧ Below B w wx ∧ B ≤ wx.heap.size)
 case atStart => exact ⟨0, 0, [], by omega, rfl, by go_num, PlusInv.start _ _ _, HOW.out, HB1.out, by have := HB1.out.size; omega⟩
 case round =>
  obtain ⟨i, c, o, hi, rfl, rfl, hinv, hown, hb, hs⟩ := hrel
  have hib := hinv.bound LB_two HX32.out HY32.out
  have hol : o.length = i := hinv.len
  have hc1 := hinv.carry
  have HOW2 := hid hown; clear hown
  have HIN := hid hinv; clear hinv
  have HB2 := hid hb; clear hb
  have HK := hid hK
  have hiK : i ≤ K := by omega
  clear hib HOW HB1
  have hstep : (i < x.length ∨ i < y.length ∨ 0 < c) → PlusInv LB x y (i + 1) (o ++ [(c + x.getD i 0 + y.getD i 0) % 1000000000]) ((c + x.getD i 0 + y.getD i 0) / 1000000000) := fun h => PlusInv.step LB_two HX32.out HY32.out HX.out.symm HY.out.symm HIN.out h
  have HST := hid hstep; clear hstep
  obtain ⟨dx, hdx⟩ : ∃ d, x.getD i 0 = d := ⟨_, rfl⟩
  obtain ⟨dy, hdy⟩ : ∃ d, y.getD i 0 = d := ⟨_, rfl⟩
  rw [hdx, hdy] at HST
  have hdx32 : dx < 1000000000 := by rw [← hdx]; exact getD_lt (by decide) HX32.out i
  have hdy32 : dy < 1000000000 := by rw [← hdy]; exact getD_lt (by decide) HY32.out i
  have HDX := hid hdx; clear hdx
  have HDY := hid hdy; clear hdy
  by_cases hx : i < x.length
  ·have hxb : decide ((i : Int) < (x.length : Int)) = true := decide_eq_true (by omega)
   have hxn : decide (i < x.length) = true := decide_eq_true hx
   have HHX : LimbsAt wr (.slice A1 x.length C1) x := H1.out.below (by rw [HB.out]; exact HB2.out)
   obtain ⟨b1, o1, rfl, e1⟩ := HHX.cellD i hx
   rw [HDX.out] at e1
   clear HHX
   by_cases hy : i < y.length
   ·have hyb : decide ((i : Int) < (y.length : Int)) = true := decide_eq_true (by omega)
    have hyn : decide (i < y.length) = true := decide_eq_true hy
    have HHY : LimbsAt wr (.slice A2 y.length C2) y := H2.out.below (by rw [HB.out]; exact HB2.out)
    obtain ⟨b2, o2, rfl, e2⟩ := HHY.cellD i hy
    rw [HDY.out] at e2
    clear HHY
    have HN := hid (HST.out (.inl hx))
    obtain ⟨av, cv, rfl⟩ := owns_form HOW2.out
    have hOWA := hid (HOW2.out.alloc (.cells #[.int .u32 (((c : Int) + dx + dy) % 1000000000)] 182))
    have hlen3 : o.length + 1 ≤ 1000000003 := by omega
    go_wp2_with (at_builtin; refine wpList_append_own _ rfl _ _ 171 rfl B 182 i0 (.int .u32 0) 1 4 Tryz.underlying171 hi0 hz0 hz1 hz2 rfl (by decide) (.slice av o.length cv) o.length (limbsV o) rfl hOWA.out ⟨wr.heap.size, 0, none⟩ 1 1 [.int .u32 (((c : Int) + dx + dy) % 1000000000)] rfl rfl (cell_one_new _ _ _) (by simp [Value.oneCell']) (by unfold maxLen; omega) (by omega) (by simp; omega) ?_)
    intro v3 w3 hown3 hgrow3 _
    have HN3 : Hid (OwnL B v3 (o ++ [(c + dx + dy) % 1000000000]) w3) := OwnL.snoc (by rw [hol]; rw [show (((c : Int) + dx + dy) % 1000000000 : Int) = (((c + dx + dy) % 1000000000 : Nat) : Int) by omega] at hown3; exact hown3)
    have HB3 : Hid (Below B w w3) := (HB2.out.alloc hs _).grown hgrow3 (by simp; omega) (fun k e => (HOW2.out.lt k (by rw [hol]; exact e)).1)
    have hs3 : B ≤ w3.heap.size := Nat.le_trans hs (Nat.le_trans (by simp) hgrow3.size)
    clear hown3 hgrow3
    go_wp2
    go_roundg (gk - 1)
    case measure => omega
    case rel => exact ⟨i + 1, (c + dx + dy) / 1000000000, o ++ [(c + dx + dy) % 1000000000], by omega, by go_num, by go_num, HN.out, HN3.out, HB3.out, hs3⟩
   ·have hyb : decide ((i : Int) < (y.length : Int)) = false := decide_eq_false (by omega)
    have hyn : decide (i < y.length) = false := decide_eq_false hy
    have hdy0 : dy = 0 := by rw [← HDY.out]; simp [List.getD, Nat.not_lt.1 hy]
    subst hdy0
    have HN := hid (HST.out (.inl hx))
    obtain ⟨av, cv, rfl⟩ := owns_form HOW2.out
    have hOWA := hid (HOW2.out.alloc (.cells #[.int .u32 (((c : Int) + dx) % 1000000000)] 182))
    have hlen3 : o.length + 1 ≤ 1000000003 := by omega
    go_wp2_with (at_builtin; refine wpList_append_own _ rfl _ _ 171 rfl B 182 i0 (.int .u32 0) 1 4 Tryz.underlying171 hi0 hz0 hz1 hz2 rfl (by decide) (.slice av o.length cv) o.length (limbsV o) rfl hOWA.out ⟨wr.heap.size, 0, none⟩ 1 1 [.int .u32 (((c : Int) + dx) % 1000000000)] rfl rfl (cell_one_new _ _ _) (by simp [Value.oneCell']) (by unfold maxLen; omega) (by omega) (by simp; omega) ?_)
    intro v3 w3 hown3 hgrow3 _
    have HN3 : Hid (OwnL B v3 (o ++ [(c + dx + 0) % 1000000000]) w3) := OwnL.snoc (by rw [hol]; rw [show (((c : Int) + dx) % 1000000000 : Int) = (((c + dx + 0) % 1000000000 : Nat) : Int) by omega] at hown3; exact hown3)
    have HB3 : Hid (Below B w w3) := (HB2.out.alloc hs _).grown hgrow3 (by simp; omega) (fun k e => (HOW2.out.lt k (by rw [hol]; exact e)).1)
    have hs3 : B ≤ w3.heap.size := Nat.le_trans hs (Nat.le_trans (by simp) hgrow3.size)
    clear hown3 hgrow3
    go_wp2
    go_roundg (gk - 1)
    case measure => omega
    case rel => exact ⟨i + 1, (c + dx + 0) / 1000000000, o ++ [(c + dx + 0) % 1000000000], by omega, by go_num, by go_num, HN.out, HN3.out, HB3.out, hs3⟩
  ·have hxb : decide ((i : Int) < (x.length : Int)) = false := decide_eq_false (by omega)
   have hxn : decide (i < x.length) = false := decide_eq_false hx
   have hdx0 : dx = 0 := by rw [← HDX.out]; simp [List.getD, Nat.not_lt.1 hx]
   subst hdx0
   by_cases hy : i < y.length
   ·have hyb : decide ((i : Int) < (y.length : Int)) = true := decide_eq_true (by omega)
    have hyn : decide (i < y.length) = true := decide_eq_true hy
    have HHY : LimbsAt wr (.slice A2 y.length C2) y := H2.out.below (by rw [HB.out]; exact HB2.out)
    obtain ⟨b2, o2, rfl, e2⟩ := HHY.cellD i hy
    rw [HDY.out] at e2
    clear HHY
    have HN := hid (HST.out (.inr (.inl hy)))
    obtain ⟨av, cv, rfl⟩ := owns_form HOW2.out
    have hOWA := hid (HOW2.out.alloc (.cells #[.int .u32 (((c : Int) + dy) % 1000000000)] 182))
    have hlen3 : o.length + 1 ≤ 1000000003 := by omega
    go_wp2_with (at_builtin; refine wpList_append_own _ rfl _ _ 171 rfl B 182 i0 (.int .u32 0) 1 4 Tryz.underlying171 hi0 hz0 hz1 hz2 rfl (by decide) (.slice av o.length cv) o.length (limbsV o) rfl hOWA.out ⟨wr.heap.size, 0, none⟩ 1 1 [.int .u32 (((c : Int) + dy) % 1000000000)] rfl rfl (cell_one_new _ _ _) (by simp [Value.oneCell']) (by unfold maxLen; omega) (by omega) (by simp; omega) ?_)
    intro v3 w3 hown3 hgrow3 _
    have HN3 : Hid (OwnL B v3 (o ++ [(c + 0 + dy) % 1000000000]) w3) := OwnL.snoc (by rw [hol]; rw [show (((c : Int) + dy) % 1000000000 : Int) = (((c + 0 + dy) % 1000000000 : Nat) : Int) by omega] at hown3; exact hown3)
    have HB3 : Hid (Below B w w3) := (HB2.out.alloc hs _).grown hgrow3 (by simp; omega) (fun k e => (HOW2.out.lt k (by rw [hol]; exact e)).1)
    have hs3 : B ≤ w3.heap.size := Nat.le_trans hs (Nat.le_trans (by simp) hgrow3.size)
    clear hown3 hgrow3
    go_wp2
    go_roundg (gk - 1)
    case measure => omega
    case rel => exact ⟨i + 1, (c + 0 + dy) / 1000000000, o ++ [(c + 0 + dy) % 1000000000], by omega, by go_num, by go_num, HN.out, HN3.out, HB3.out, hs3⟩
   ·have hyb : decide ((i : Int) < (y.length : Int)) = false := decide_eq_false (by omega)
    have hyn : decide (i < y.length) = false := decide_eq_false hy
    have hdy0 : dy = 0 := by rw [← HDY.out]; simp [List.getD, Nat.not_lt.1 hy]
    subst hdy0
    by_cases hc0 : 0 < c
    ·have hcb : decide ((0 : Int) < (c : Int)) = true := decide_eq_true (by omega)
     have hcn : decide (0 < c) = true := decide_eq_true hc0
     have HN := hid (HST.out (.inr (.inr hc0)))
     obtain ⟨av, cv, rfl⟩ := owns_form HOW2.out
     have hOWA := hid (HOW2.out.alloc (.cells #[.int .u32 (((c : Int)) % 1000000000)] 182))
     have hlen3 : o.length + 1 ≤ 1000000003 := by omega
     go_wp2_with (at_builtin; refine wpList_append_own _ rfl _ _ 171 rfl B 182 i0 (.int .u32 0) 1 4 Tryz.underlying171 hi0 hz0 hz1 hz2 rfl (by decide) (.slice av o.length cv) o.length (limbsV o) rfl hOWA.out ⟨wr.heap.size, 0, none⟩ 1 1 [.int .u32 (((c : Int)) % 1000000000)] rfl rfl (cell_one_new _ _ _) (by simp [Value.oneCell']) (by unfold maxLen; omega) (by omega) (by simp; omega) ?_)
     intro v3 w3 hown3 hgrow3 _
     have HN3 : Hid (OwnL B v3 (o ++ [(c + 0 + 0) % 1000000000]) w3) := OwnL.snoc (by rw [hol]; rw [show (((c : Int)) % 1000000000 : Int) = (((c + 0 + 0) % 1000000000 : Nat) : Int) by omega] at hown3; exact hown3)
     have HB3 : Hid (Below B w w3) := (HB2.out.alloc hs _).grown hgrow3 (by simp; omega) (fun k e => (HOW2.out.lt k (by rw [hol]; exact e)).1)
     have hs3 : B ≤ w3.heap.size := Nat.le_trans hs (Nat.le_trans (by simp) hgrow3.size)
     clear hown3 hgrow3
     go_wp2
     go_roundg (gk - 1)
     case measure => omega
     case rel => exact ⟨i + 1, (c + 0 + 0) / 1000000000, o ++ [(c + 0 + 0) % 1000000000], by omega, by go_num, by go_num, HN.out, HN3.out, HB3.out, hs3⟩
    ·have hcz : c = 0 := by omega
     subst hcz
     have hfin := HIN.out.done LB_two (by omega) (by omega)
     rw [← HX.out, ← HY.out, val_digs LB_two, val_digs LB_two] at hfin
     have HF := hid hfin; clear hfin
     go_wp2
     go_ret
     refine ⟨_, rfl, ?_, by rw [HB.out]; exact HB2.out⟩
     unfold NatAt
     rw [← HF.out]
     exact HOW2.out.at
end Go.Proofs.YtjcdeeahjkfmoaaGreatDoor.Num
