/- Contracts of the program's functions, joined from smaller texts. Conditions stand at each theorem. -/
import Derived.Test.YtjcdeeahjkfmoaaGreatDoorNumA
set_option linter.unusedVariables false
set_option linter.unusedSimpArgs false
set_option maxRecDepth 100000
set_option maxHeartbeats 8000000
namespace Go.Proofs.YtjcdeeahjkfmoaaGreatDoor
namespace Num
structure LessInv (b : Nat) (x y : List Nat) (i : Nat) (o : List Nat) (c : Nat) : Prop where
 len : o.length = i
 lt : ∀ d ∈ o, d < b
 borrow : c ≤ 1
 diff : val b o + val b (y.take i) = val b (x.take i) + b ^ i * c
theorem LessInv.start (b : Nat) (x y : List Nat) : LessInv b x y 0 [] 0 := ⟨rfl, by simp, by omega, by simp [val]⟩
theorem LessInv.step {b : Nat} (hb : 2 ≤ b) {x y : List Nat} (hx : ∀ d ∈ x, d < b) (hy : ∀ d ∈ y, d < b) {i : Nat} {o : List Nat} {c : Nat} (h : LessInv b x y i o c) :
  LessInv b x y (i + 1) (o ++ [less b (x.getD i 0) (c + y.getD i 0)]) (if x.getD i 0 < c + y.getD i 0 then 1 else 0) := by
 have h1 := getD_lt (show 0 < b by omega) hx i
 have h2 := getD_lt (show 0 < b by omega) hy i
 have hc := h.borrow
 have hlen := h.len
 have hd : less b (x.getD i 0) (c + y.getD i 0) < b := by unfold less; split <;> omega
 refine ⟨by simp [hlen], ?_, by split <;> omega, ?_⟩
 ·intro d hd'
  rcases List.mem_append.1 hd' with hd' | hd'
  ·exact h.lt d hd'
  ·rw [List.mem_singleton.1 hd']; exact hd
 ·rw [val_snoc, hlen, val_take_succ, val_take_succ]
  have hs := h.diff
  have e : less b (x.getD i 0) (c + y.getD i 0) + (c + y.getD i 0) = x.getD i 0 + b * (if x.getD i 0 < c + y.getD i 0 then 1 else 0) := by
   unfold less; split <;> omega
  have e2 := congrArg (fun t => b ^ i * t) e
  simp only [Nat.mul_add] at e2
  have e3 : b ^ (i + 1) * (if x.getD i 0 < c + y.getD i 0 then 1 else 0) = b ^ i * (b * (if x.getD i 0 < c + y.getD i 0 then 1 else 0)) := by rw [Nat.pow_succ, Nat.mul_assoc]
  rw [e3]; omega
theorem LessInv.done {b : Nat} {x y : List Nat} {o : List Nat} {c : Nat} (h : LessInv b x y x.length o c) (hle : val b y ≤ val b x) (hl : y.length ≤ x.length) : val b o = val b x - val b y := by
 have hs := h.diff
 rw [List.take_of_length_le (Nat.le_refl _), List.take_of_length_le hl] at hs
 have hlt := val_lt h.lt
 rw [h.len] at hlt
 have hb := h.borrow
 have : c = 0 ∨ c = 1 := by omega
 rcases this with rfl | rfl
 ·omega
 ·rw [Nat.mul_one] at hs; omega
theorem dgetD_set_ne {l : List Nat} {i j d : Nat} (h : i ≠ j) : (l.set i d).getD j 0 = l.getD j 0 := by
 simp [List.getD, List.getElem?_set_ne h]
theorem getD_set_eq {l : List Nat} {i d : Nat} (h : i < l.length) : (l.set i d).getD i 0 = d := by
 simp [List.getD, h]
structure AddInv (b : Nat) (o0 y : List Nat) (i d k : Nat) (o : List Nat) : Prop where
 len : o.length = o0.length
 low : ∀ j, j < i → o.getD j 0 = o0.getD j 0
 tail : o.drop (i + k) = o0.drop (i + k)
 top : ∀ j, o.getD j 0 ≤ b * (b - 1)
 sum : val b o = val b o0 + b ^ i * (d * val b (y.take k))
theorem AddInv.start {b : Nat} {o0 : List Nat} (hb : 2 ≤ b) (h0 : ∀ z ∈ o0, z < b) (y : List Nat) (i d : Nat) : AddInv b o0 y i d 0 o0 := by
 refine ⟨rfl, fun _ _ => rfl, rfl, fun j => ?_, by simp [val]⟩
 have h1 := getD_lt (show 0 < b by omega) h0 j
 have h2 : 1 * (b - 1) ≤ b * (b - 1) := Nat.mul_le_mul_right _ (by omega)
 omega
theorem AddInv.step {b : Nat} (hb : 2 ≤ b) {o0 y : List Nat} {i d k : Nat} {o : List Nat} (h0 : ∀ z ∈ o0, z < b) (h : AddInv b o0 y i d k o) (hd : d < b) (hy : ∀ z ∈ y, z < b) (hk : i + k < o0.length) :
  AddInv b o0 y i d (k + 1) (o.set (i + k) (o.getD (i + k) 0 + d * y.getD k 0)) := by
 have h1 := getD_lt (show 0 < b by omega) hy k
 have hlen := h.len
 have h2 : o.getD (i + k) 0 < b := by rw [getD_of_drop h.tail]; exact getD_lt (by omega) h0 _
 refine ⟨by simpa using hlen, fun j hj => ?_, ?_, fun j => ?_, ?_⟩
 ·rw [dgetD_set_ne (by omega)]; exact h.low j hj
 ·rw [← Nat.add_assoc, drop_set_after]
  have := congrArg (fun l => l.drop 1) h.tail
  simpa [List.drop_drop] using this
 ·by_cases hj : i + k = j
  ·subst hj
   rw [getD_set_eq (by omega)]
   have h3 : d * y.getD k 0 ≤ (b - 1) * (b - 1) := Nat.mul_le_mul (by omega) (by omega)
   have h4 : (b - 1) + (b - 1) * (b - 1) = b * (b - 1) := by
    obtain ⟨e, rfl⟩ : ∃ e, b = e + 1 := ⟨b - 1, by omega⟩
    simp only [Nat.add_sub_cancel, Nat.add_mul, Nat.one_mul]; omega
   omega
  ·rw [dgetD_set_ne hj]; exact h.top j
 ·have hv := val_set b o (i + k) (o.getD (i + k) 0 + d * y.getD k 0) (by omega)
  have hs := h.sum
  rw [val_take_succ]
  simp only [Nat.mul_add] at hv ⊢
  have e2 : b ^ i * (d * (b ^ k * y.getD k 0)) = b ^ (i + k) * (d * y.getD k 0) := by
   rw [Nat.pow_add, Nat.mul_left_comm d, Nat.mul_assoc]
  rw [e2]; omega
structure CarryInv (b : Nat) (T k : Nat) (o : List Nat) (c L : Nat) : Prop where
 len : o.length = L
 low : ∀ j, j < k → o.getD j 0 < b
 top : ∀ j, o.getD j 0 ≤ b * (b - 1)
 carry : c < b
 sum : val b o + b ^ k * c = T
theorem CarryInv.start {b : Nat} (hb : 2 ≤ b) {o0 y : List Nat} {i d : Nat} {o : List Nat} (h0 : ∀ z ∈ o0, z < b) (h : AddInv b o0 y i d y.length o) : CarryInv b (val b o0 + b ^ i * (d * val b y)) i o 0 o0.length := by
 refine ⟨h.len, fun j hj => ?_, h.top, by omega, ?_⟩
 ·rw [h.low j hj]; exact getD_lt (by omega) h0 _
 ·have := h.sum
  rw [List.take_of_length_le (Nat.le_refl _)] at this
  rw [this]; simp
theorem CarryInv.step {b : Nat} (hb : 2 ≤ b) {T k : Nat} {o : List Nat} {c L : Nat} (h : CarryInv b T k o c L) (hk : k < L) :
  CarryInv b T (k + 1) (o.set k ((o.getD k 0 + c) % b)) ((o.getD k 0 + c) / b) L := by
 have hlen := h.len
 have htop := h.top k
 have hc := h.carry
 refine ⟨by simpa using hlen, fun j hj => ?_, fun j => ?_, ?_, ?_⟩
 ·by_cases hj2 : k = j
  ·subst hj2
   rw [getD_set_eq (by omega)]; exact Nat.mod_lt _ (by omega)
  ·rw [dgetD_set_ne hj2]; exact h.low j (by omega)
 ·by_cases hj2 : k = j
  ·subst hj2
   rw [getD_set_eq (by omega)]
   have h1 := Nat.mod_lt (o.getD k 0 + c) (show 0 < b by omega)
   have h2 : 1 * (b - 1) ≤ b * (b - 1) := Nat.mul_le_mul_right _ (by omega)
   omega
  ·rw [dgetD_set_ne hj2]; exact h.top j
 ·apply (Nat.div_lt_iff_lt_mul (by omega)).2
  have : b * (b - 1) + b = b * b := by
   obtain ⟨e, rfl⟩ : ∃ e, b = e + 1 := ⟨b - 1, by omega⟩
   simp only [Nat.add_sub_cancel, Nat.mul_add, Nat.mul_one]
  omega
 ·have hv := val_set b o k ((o.getD k 0 + c) % b) (by omega)
  have hs := h.sum
  have hdm := Nat.mod_add_div (o.getD k 0 + c) b
  have e := congrArg (fun t => b ^ k * t) hdm
  simp only [Nat.mul_add] at e
  rw [Nat.pow_succ, Nat.mul_assoc]
  omega
theorem CarryInv.done {b : Nat} (_ : 2 ≤ b) {T : Nat} {o : List Nat} {c L : Nat} (h : CarryInv b T L o c L) (hT : T < b ^ L) : (∀ z ∈ o, z < b) ∧ val b o = T := by
 have hs := h.sum
 have hz : c = 0 := by
  apply Nat.eq_zero_of_not_pos
  intro hp
  have : b ^ L * 1 ≤ b ^ L * c := Nat.mul_le_mul_left _ hp
  omega
 subst hz
 refine ⟨fun z hz => ?_, by omega⟩
 obtain ⟨j, hj, rfl⟩ := List.mem_iff_getElem.1 hz
 have := h.low j (by rw [← h.len]; exact hj)
 simpa [List.getD, hj] using this
structure MulInv (b : Nat) (x y : List Nat) (i : Nat) (o : List Nat) : Prop where
 len : o.length = x.length + y.length
 lt : ∀ z ∈ o, z < b
 sum : val b o = val b (x.take i) * val b y
theorem MulInv.start {b : Nat} (hb : 2 ≤ b) (x y : List Nat) : MulInv b x y 0 (List.replicate (x.length + y.length) 0) :=
 ⟨by simp, fun z hz => by rw [(List.mem_replicate.1 hz).2]; omega, by simp [val, val_zeros]⟩
theorem MulInv.step {b : Nat} (hb : 2 ≤ b) {x y : List Nat} {i : Nat} {o0 o : List Nat} {c : Nat} (hx : ∀ z ∈ x, z < b) (hy : ∀ z ∈ y, z < b) (h : MulInv b x y i o0) (hi : i < x.length)
  (hr : CarryInv b (val b o0 + b ^ i * (x.getD i 0 * val b y)) o0.length o c o0.length) : MulInv b x y (i + 1) o := by
 have e : val b o0 + b ^ i * (x.getD i 0 * val b y) = val b (x.take (i + 1)) * val b y := by
  rw [h.sum, val_take_succ, Nat.add_mul, Nat.mul_assoc]
 have h1 := val_lt (b := b) (o := x.take (i + 1)) (fun d hd => hx d (List.mem_of_mem_take hd))
 have h2 := val_lt hy
 have hl : (x.take (i + 1)).length = i + 1 := by simp; omega
 rw [hl] at h1
 have h3 : val b (x.take (i + 1)) * val b y < b ^ (x.length + y.length) := by
  have hp : 0 < b ^ y.length := Nat.pow_pos (by omega)
  have a1 : val b (x.take (i + 1)) * val b y ≤ val b (x.take (i + 1)) * b ^ y.length := Nat.mul_le_mul_left _ (Nat.le_of_lt h2)
  have a2 : val b (x.take (i + 1)) * b ^ y.length < b ^ (i + 1) * b ^ y.length := (Nat.mul_lt_mul_right hp).2 h1
  have a3 : b ^ (i + 1) * b ^ y.length ≤ b ^ (x.length + y.length) := by
   rw [← Nat.pow_add]; exact Nat.pow_le_pow_right (by omega) (by omega)
  omega
 rw [h.len, e] at hr
 have hd := hr.done hb h3
 exact ⟨hr.len, hd.1, hd.2⟩
theorem MulInv.done {b : Nat} {x y : List Nat} {o : List Nat} (h : MulInv b x y x.length o) : val b o = val b x * val b y := by
 have := h.sum
 rwa [List.take_of_length_le (Nat.le_refl _)] at this
theorem gcd_half {n m : Nat} (hn : n % 2 = 0) (hm : m % 2 = 1) : Nat.gcd (n / 2) m = Nat.gcd n m := by
 have h2 : Nat.Coprime 2 m := by
  show Nat.gcd 2 m = 1
  rw [Nat.gcd_rec, hm]; rfl
 have e : n = 2 * (n / 2) := by omega
 conv => rhs; rw [e]
 rw [Nat.Coprime.gcd_mul_left_cancel _ h2]
theorem gcd_halves {n m : Nat} (hn : n % 2 = 0) (hm : m % 2 = 0) : Nat.gcd n m = 2 * Nat.gcd (n / 2) (m / 2) := by
 rw [← Nat.gcd_mul_left]
 congr 1 <;> omega
theorem digs_head (b n : Nat) (hb : 2 ≤ b) (hn : n ≠ 0) : (digs b n).getD 0 0 = n % b := by
 rw [digs_pos hb hn]; rfl
theorem digs_ten_rev (n : Nat) (hn : n ≠ 0) : (digs 10 n).reverse.map (fun d => UInt8.ofNat (48 + d)) = Lib.decDigits n := by
 induction n using Nat.strongRecOn with
 | _ n ih =>
  rw [digs_pos (by omega) hn, List.reverse_cons, List.map_append]
  by_cases h : n < 10
  ·rw [decDigits_small h]
   have e : n / 10 = 0 := by omega
   rw [e, digs_zero, Nat.mod_eq_of_lt h]; rfl
  ·rw [decDigits_step (by omega), ih (n / 10) (by omega) (by omega)]; rfl
theorem digs_ten_len (n : Nat) (hn : n ≠ 0) : (digs 10 n).length = (Lib.decDigits n).length := by
 rw [← digs_ten_rev n hn]; simp
def dig (c : UInt8) : Nat := c.toNat - 48
theorem val_rev : ∀ l : List UInt8, val 10 (l.reverse.map dig) = decVal l := by
 intro l
 induction l using snoc_ind with
 | h0 => rfl
 | h1 l c ih =>
  rw [List.reverse_append, List.map_append, decVal_snoc]
  simp only [List.reverse_singleton, List.map_cons, List.map_nil, List.singleton_append, val, ih, dig]
  omega
theorem rev_lt {l : List UInt8} (h : AllDigits l) : ∀ d ∈ l.reverse.map dig, d < 10 := by
 intro d hd
 obtain ⟨c, hc, rfl⟩ := List.mem_map.1 hd
 have := h c (List.mem_reverse.1 hc)
 unfold dig; omega
end Num
namespace Num
open Go.RowKit Go.Lib
def DigsAt (w : World) (v : Value) (l : List Nat) : Prop :=
 ∃ A C, v = .slice A l.length C ∧ l.length ≤ C ∧ ∀ (i : Nat) (h : i < l.length), ∃ b o, A = some ⟨b, o, none⟩ ∧ w.cell? ⟨b, o + i, none⟩ = some (.int .i64 l[i])
def DecAt (w : World) (v : Value) (n : Nat) : Prop := DigsAt w v (digs 10 n)
theorem DigsAt.below {w w' : World} {v : Value} {l : List Nat} (h : DigsAt w v l) (hb : Below w.heap.size w w') : DigsAt w' v l := by
 obtain ⟨A, C, rfl, hC, hc⟩ := h
 exact ⟨A, C, rfl, hC, fun i hi => let ⟨b, o, ha, hcell⟩ := hc i hi; ⟨b, o, ha, cell_below hcell hb⟩⟩
theorem DecAt.below {w w' : World} {v : Value} {n : Nat} (h : DecAt w v n) (hb : Below w.heap.size w w') : DecAt w' v n := DigsAt.below h hb
theorem DigsAt.drewN {w : World} {v : Value} {l : List Nat} (h : DigsAt w v l) (q : Nat) : DigsAt (w.drewN q) v l := h
theorem DigsAt.nil (w : World) (A : Option Addr) (C : Nat) : DigsAt w (.slice A 0 C) [] := ⟨A, C, rfl, Nat.zero_le _, fun _ hi => absurd hi (Nat.not_lt_zero _)⟩
theorem DecAt.zero (w : World) (A : Option Addr) (C : Nat) : DecAt w (.slice A 0 C) 0 := by unfold DecAt; rw [digs_zero]; exact DigsAt.nil w A C
theorem DigsAt.head {w : World} {A : Option Addr} {C : Nat} {l : List Nat} (h : DigsAt w (.slice A l.length C) l) (n : Nat) (hn : n ≤ l.length) : DigsAt w (.slice A n C) (l.take n) := by
 obtain ⟨A', C', e, hC, hc⟩ := h
 simp only [Value.slice.injEq, true_and] at e
 obtain ⟨rfl, rfl⟩ := e
 have hl : (l.take n).length = n := by simp; omega
 refine ⟨A, C, by rw [hl], by omega, fun i hi => ?_⟩
 obtain ⟨b, o, ha, hcell⟩ := hc i (by omega)
 exact ⟨b, o, ha, by rw [hcell]; simp⟩
def digsV (l : List Nat) : List Value := l.map fun d : Nat => Value.int .i64 d
theorem digsV_len (l : List Nat) : (digsV l).length = l.length := by simp [digsV]
def BeginsD (cs : Array Value) (l : List Nat) : Prop := ∀ (i : Nat) (h : i < l.length), cs[i]? = some (.int .i64 l[i])
theorem DigsAt.of_block {w : World} {g C : Nat} {cs : Array Value} {T : TypeId} {fz : Nat × Nat} {l : List Nat} (h : w.heap[g]? = some (.cells cs T fz)) (hc : BeginsD cs l) (hC : l.length ≤ C) : DigsAt w (.slice (some ⟨g, 0, none⟩) l.length C) l :=
 ⟨some ⟨g, 0, none⟩, C, rfl, hC, fun i hi => ⟨g, 0, rfl, by rw [Nat.zero_add, Lib.cell_of_heap h i]; exact hc i hi⟩⟩
theorem BeginsD.set {cs : Array Value} {l : List Nat} (h : BeginsD cs l) (i d : Nat) : BeginsD (cs.setIfInBounds i (.int .i64 d)) (l.set i d) := by
 intro j hj
 have hj' : j < l.length := by simpa using hj
 have hc := h j hj'
 have hjc : j < cs.size := (Array.getElem?_eq_some_iff.1 hc).1
 by_cases hij : i = j
 ·subst hij
  rw [Array.getElem?_setIfInBounds_self_of_lt hjc]; simp
 ·rw [Array.getElem?_setIfInBounds_ne hij, hc]; simp [List.getElem_set_ne hij]
theorem BeginsD.at {cs : Array Value} {l : List Nat} (h : BeginsD cs l) (i : Nat) (hi : i < l.length) : cs[i]? = some (.int .i64 (l.getD i 0)) := by
 rw [h i hi]; simp [List.getD, hi]
theorem BeginsD.of_owns {w : World} {B n : Nat} {e : TypeId} {v : Value} {l : List Nat} (h : w.ownsRow B e 1 v n (digsV l)) : DigsAt w v l := by
 have hn : l.length = n := by have := h.1; simpa [digsV] using this
 subst hn
 rcases h.2 with ⟨rfl, h0⟩ | ⟨g, cap, cur, rfl, hb, hg, hc1, hc2, hcs, htk⟩
 ·have : l = [] := List.eq_nil_of_length_eq_zero h0
  subst this
  exact DigsAt.nil w _ _
 ·refine DigsAt.of_block hg (fun i hi => ?_) hc1
  have e : (cur.toList.take (l.length * 1))[i]? = some (.int .i64 l[i]) := by rw [htk, digsV, List.getElem?_map, List.getElem?_eq_getElem hi]; rfl
  rw [List.getElem?_take_of_lt (by omega)] at e
  simpa using e
theorem DigsAt.form {w : World} {v : Value} {l : List Nat} (h : DigsAt w v l) : ∃ A C, v = .slice A l.length C ∧ l.length ≤ C := let ⟨A, C, h, hC, _⟩ := h; ⟨A, C, h, hC⟩
theorem DigsAt.cellD {w : World} {A : Option Addr} {C : Nat} {l : List Nat} (h : DigsAt w (.slice A l.length C) l) (i : Nat) (hi : i < l.length) : ∃ b o, A = some ⟨b, o, none⟩ ∧ w.cell? ⟨b, o + i, none⟩ = some (.int .i64 (l.getD i 0)) := by
 obtain ⟨A', C', e, hC, hc⟩ := h
 simp only [Value.slice.injEq, true_and] at e
 obtain ⟨rfl, rfl⟩ := e
 obtain ⟨b, o, ha, hcell⟩ := hc i hi
 exact ⟨b, o, ha, by rw [hcell]; simp [List.getD, hi]⟩
end Num
namespace Num
open Go.RowKit Go.Lib
theorem dtrim_own (v : Value) (l : List Nat) (w : World) (h : DigsAt w v l) (hd : ∀ d ∈ l, d < 10) (hl : l.length ≤ 1000000000) :
  Calls Tryz.prog 128 #[v] w fun e w' => ∃ v', e = .returned v' ∧ DecAt w v' (val 10 l) ∧ v'.ownBlock = v.ownBlock ∧ w' = w := by
 obtain ⟨A, C, rfl, hC⟩ := h.form
 have H := hid h; clear h
 have HD := hid hd; clear hd
 go_enter Tryz.func128, Tryz.ntmps128
 go_wp2
 go_loopg [0] l.length (fun g v0 wx => ∃ n, n = g ∧ n ≤ l.length ∧ v0 = .slice A n C ∧ val 10 (l.take n) = val 10 l ∧ wx = w)
 case atStart => exact ⟨l.length, rfl, Nat.le_refl _, rfl, by rw [List.take_length], rfl⟩
 case round =>
  obtain ⟨n, rfl, hn, rfl, hv, rfl⟩ := hrel
  have HV := hid hv; clear hv
  have hfin : (n = 0 ∨ l.getD (n - 1) 0 ≠ 0) → DecAt wr (.slice A n C) (val 10 l) := by
   intro hz
   have e := trim_done (show 2 ≤ 10 by decide) HD.out hn HV.out hz
   have h1 := H.out.head n hn
   unfold DecAt
   rw [← e]; exact h1
  have HF := hid hfin; clear hfin
  by_cases h0 : n = 0
  ·subst h0
   go_wp2
   go_ret
   exact ⟨_, rfl, HF.out (.inl (by simp)), by cases A <;> rfl, rfl⟩
  ·obtain ⟨j, rfl⟩ : ∃ j, n = j + 1 := ⟨n - 1, by omega⟩
   obtain ⟨b, o, rfl, hcell⟩ := H.out.cellD j (by omega)
   have hj : decide ((0 : Int) < ((j + 1 : Nat) : Int)) = true := decide_eq_true (by omega)
   obtain ⟨d, hdj⟩ : ∃ d, l.getD j 0 = d := ⟨_, rfl⟩
   rw [hdj] at hcell
   have HDJ := hid hdj; clear hdj
   by_cases hz : d = 0
   ·have hv2 := trim_step (by omega) HV.out (HDJ.out.trans hz)
    have HV2 := hid hv2; clear hv2
    subst hz
    go_wp2
    go_roundg j
    case measure => omega
    case rel => exact ⟨j, rfl, by omega, by go_num, HV2.out, rfl⟩
   ·have hzb : ((d : Int) == 0) = false := by rw [beq_eq_false_iff_ne]; omega
    have HZ := hid hz; clear hz
    go_wp2
    go_ret
    exact ⟨_, rfl, HF.out (.inr (by rw [Nat.add_sub_cancel, HDJ.out]; exact HZ.out)), rfl, rfl⟩
theorem digitAt_any (v : Value) (l : List Nat) (i : Nat) (w : World) (h : DigsAt w v l) (_ : i ≤ 2000000000) :
  Calls Tryz.prog 202 #[v, .int .i64 i] w fun e w' => e = .returned (.int .i64 (l.getD i 0 : Nat)) ∧ w' = w := by
 obtain ⟨A, C, rfl, hC⟩ := h.form
 obtain ⟨d, hd⟩ : ∃ d, l.getD i 0 = d := ⟨_, rfl⟩
 rw [hd]
 by_cases hlt : i < l.length
 ·obtain ⟨b, o, rfl, hcell⟩ := h.cellD i hlt
  rw [hd] at hcell
  have hb : decide ((i : Int) < (l.length : Int)) = true := decide_eq_true (by omega)
  have hbn : decide (i < l.length) = true := decide_eq_true hlt
  clear h hC hd
  go_enter Tryz.func202, Tryz.ntmps202
  go_wp2
  go_ret
  exact ⟨rfl, rfl⟩
 ·have hd0 : d = 0 := by rw [← hd]; simp [List.getD, Nat.not_lt.1 hlt]
  subst hd0
  have hb : decide ((i : Int) < (l.length : Int)) = false := decide_eq_false (by omega)
  have hbn : decide (i < l.length) = false := decide_eq_false hlt
  clear h hC hd
  go_enter Tryz.func202, Tryz.ntmps202
  go_wp2
  go_ret
  exact ⟨rfl, rfl⟩
theorem drew2 (w : World) (a b : Nat) : (w.drewN a).drewN b = w.drewN (a + b) := by simp
def cmpN (m n : Nat) : Int := if m < n then -1 else if n < m then 1 else 0
theorem dcompare_any (v1 v2 : Value) (m n : Nat) (w : World) (h1 : DecAt w v1 m) (h2 : DecAt w v2 n) (hm : (digs 10 m).length ≤ 1000000000) (_hn : (digs 10 n).length ≤ 1000000000) :
  Calls Tryz.prog 58 #[v1, v2] w fun e w' => e = .returned (.int .i64 (cmpN m n)) ∧ ∃ q, w' = w.drewN q := by
 obtain ⟨A1, C1, rfl, hC1⟩ := h1.form
 obtain ⟨A2, C2, rfl, hC2⟩ := h2.form
 have T10 : 2 ≤ 10 := by decide
 by_cases hl : (digs 10 m).length = (digs 10 n).length
 ·have H1 := hid h1; clear h1
  have H2 := hid h2; clear h2
  obtain ⟨x, hx⟩ : ∃ x, digs 10 m = x := ⟨_, rfl⟩
  obtain ⟨y, hy⟩ : ∃ y, digs 10 n = y := ⟨_, rfl⟩
  unfold DecAt at H1 H2
  rw [hx] at hm hl H1 ⊢
  rw [hy] at hl H2 ⊢
  have HX := hid hx; clear hx
  have HY := hid hy; clear hy
  obtain ⟨k, hk⟩ : ∃ k, x.length = k := ⟨_, rfl⟩
  have hky : y.length = k := by omega
  rw [hk] at H1 hm ⊢
  rw [hky] at H2 ⊢
  have HK := hid hk
  have HKY := hid hky
  have HC1 := hid hC1; clear hC1
  have HC2 := hid hC2; clear hC2
  have hkb : ((k : Int) != (k : Int)) = false := by simp
  obtain ⟨c, hc⟩ : ∃ c, cmpN m n = c := ⟨_, rfl⟩
  rw [hc]
  have HCC := hid hc
  clear hl hk hky hc
  go_enter Tryz.func58, Tryz.ntmps58
  go_wp2
  go_loopg [5] k (fun g v5 wx => ∃ (i q : Nat), i = g ∧ i ≤ k ∧ v5 = .int .i64 ((i : Int) - 1) ∧ x.drop i = y.drop i ∧ wx = w.drewN q)
  case atStart => exact ⟨k, 0, rfl, Nat.le_refl _, by go_num, by rw [List.drop_of_length_le (by rw [HK.out]; exact Nat.le_refl _), List.drop_of_length_le (by rw [HKY.out]; exact Nat.le_refl _)], rfl⟩
  case round =>
   obtain ⟨i, q, rfl, hi, rfl, hdr, rfl⟩ := hrel
   have HD := hid hdr; clear hdr
   by_cases h0 : i = 0
   ·subst h0
    go_wp2
    go_ret
    refine ⟨ret_int (k := .i64) (a := 0) ?_, q, rfl⟩
    have e : m = n := by
     apply digs_inj T10
     rw [HX.out, HY.out]; simpa using HD.out
    rw [← HCC.out, e]
    unfold cmpN
    rw [if_neg (Nat.lt_irrefl _), if_neg (Nat.lt_irrefl _)]
   ·obtain ⟨j, rfl⟩ : ∃ j, i = j + 1 := ⟨i - 1, by omega⟩
    have HH1 : DigsAt w (.slice A1 x.length C1) x := by rw [HK.out]; exact H1.out
    have HH2 : DigsAt w (.slice A2 y.length C2) y := by rw [HKY.out]; exact H2.out
    obtain ⟨b1, o1, rfl, e1⟩ := HH1.cellD j (by rw [HK.out]; omega)
    obtain ⟨b2, o2, rfl, e2⟩ := HH2.cellD j (by rw [HKY.out]; omega)
    clear HH1 HH2
    obtain ⟨d1, hd1⟩ : ∃ d, x.getD j 0 = d := ⟨_, rfl⟩
    obtain ⟨d2, hd2⟩ : ∃ d, y.getD j 0 = d := ⟨_, rfl⟩
    rw [hd1] at e1
    rw [hd2] at e2
    have hxd : x.drop j = d1 :: x.drop (j + 1) := by rw [List.drop_eq_getElem_cons (by rw [HK.out]; omega), ← hd1]; simp [List.getD, show j < x.length by rw [HK.out]; omega]
    have hyd : y.drop j = d2 :: y.drop (j + 1) := by rw [List.drop_eq_getElem_cons (by rw [HKY.out]; omega), ← hd2]; simp [List.getD, show j < y.length by rw [HKY.out]; omega]
    have HXD := hid hxd; clear hxd
    have HYD := hid hyd; clear hyd
    have hj0 : (0 : Int) ≤ (j : Int) := by omega
    have hjk : (j : Int) < (k : Int) := by omega
    have hlt1 : d1 < d2 → m < n := by
     intro h
     have := val_take_lt (b := 10) x y (by rw [← HX.out]; exact digs_lt T10 m) (by rw [← HY.out]; exact digs_lt T10 n) (by rw [HK.out, HKY.out]) j (by rw [HK.out]; omega) HD.out (by
      have a1 : x.getD j 0 = x[j]'(by rw [HK.out]; omega) := by simp [List.getD, show j < x.length by rw [HK.out]; omega]
      have a2 : y.getD j 0 = y[j]'(by rw [HKY.out]; omega) := by simp [List.getD, show j < y.length by rw [HKY.out]; omega]
      rw [← a1, ← a2, hd1, hd2]; exact h)
     rw [← HX.out, ← HY.out, val_digs T10, val_digs T10] at this
     exact this
    have hlt2 : d2 < d1 → n < m := by
     intro h
     have := val_take_lt (b := 10) y x (by rw [← HY.out]; exact digs_lt T10 n) (by rw [← HX.out]; exact digs_lt T10 m) (by rw [HK.out, HKY.out]) j (by rw [HKY.out]; omega) HD.out.symm (by
      have a1 : x.getD j 0 = x[j]'(by rw [HK.out]; omega) := by simp [List.getD, show j < x.length by rw [HK.out]; omega]
      have a2 : y.getD j 0 = y[j]'(by rw [HKY.out]; omega) := by simp [List.getD, show j < y.length by rw [HKY.out]; omega]
      rw [← a1, ← a2, hd1, hd2]; exact h)
     rw [← HX.out, ← HY.out, val_digs T10, val_digs T10] at this
     exact this
    have HL1 := hid hlt1; clear hlt1
    have HL2 := hid hlt2; clear hlt2
    clear hd1 hd2 h0
    by_cases hlt : d1 < d2
    ·have hltb : decide ((d1 : Int) < (d2 : Int)) = true := decide_eq_true (by omega)
     have hltn : decide (d1 < d2) = true := decide_eq_true hlt
     have hr := HL1.out hlt
     have HR := hid hr; clear hr hlt
     go_wp2
     go_quiet (fail)
     go_wp2
     go_ret
     exact ⟨ret_int (k := .i64) (a := -1) (by rw [← HCC.out]; unfold cmpN; rw [if_pos HR.out]), _, drew2 _ _ _⟩
    ·have hltb : decide ((d1 : Int) < (d2 : Int)) = false := decide_eq_false (by omega)
     have hltn : decide (d1 < d2) = false := decide_eq_false hlt
     by_cases hgt : d2 < d1
     ·have hgtb : decide ((d2 : Int) < (d1 : Int)) = true := decide_eq_true (by omega)
      have hgtn : decide (d2 < d1) = true := decide_eq_true hgt
      have hr := HL2.out hgt
      have HR := hid hr; clear hr hlt hgt
      go_wp2
      go_quiet (fail)
      go_wp2
      go_quiet (fail)
      go_wp2
      go_ret
      exact ⟨ret_int (k := .i64) (a := 1) (by rw [← HCC.out]; unfold cmpN; rw [if_neg (Nat.lt_asymm HR.out), if_pos HR.out]), _, drew3 _ _ _ _⟩
     ·obtain rfl : d1 = d2 := by omega
      clear hgt hlt hltb hltn
      have hir : decide ((d1 : Int) < (d1 : Int)) = false := decide_eq_false (by omega)
      have hirn : decide (d1 < d1) = false := decide_eq_false (by omega)
      go_wp2
      go_quiet (fail)
      go_wp2
      go_quiet (fail)
      go_wp2
      go_roundg j
      case measure => omega
      case rel => exact ⟨j, _, rfl, by omega, by go_num, by rw [HXD.out, HYD.out, HD.out], rfl⟩
 ·have hcmp : cmpN m n = if (digs 10 m).length < (digs 10 n).length then -1 else 1 := by
   have a1 : ∀ {p q : Nat}, (digs 10 p).length < (digs 10 q).length → p < q := by
    intro p q h
    apply Nat.lt_of_not_le
    intro hle
    have := digs_len_mono T10 hle
    omega
   unfold cmpN
   by_cases hlt : (digs 10 m).length < (digs 10 n).length
   ·rw [if_pos hlt, if_pos (a1 hlt)]
   ·have h2 := a1 (show (digs 10 n).length < (digs 10 m).length by omega)
    rw [if_neg hlt, if_neg (Nat.lt_asymm h2), if_pos h2]
  rw [hcmp]
  clear hcmp
  generalize (digs 10 m).length = k1 at hl hm ⊢
  generalize (digs 10 n).length = k2 at hl ⊢
  have hkb : ((k1 : Int) != (k2 : Int)) = true := by rw [bne_iff_ne]; omega
  clear h1 h2 hC1 hC2
  by_cases hlt : k1 < k2
  ·have hltb : decide ((k1 : Int) < (k2 : Int)) = true := decide_eq_true (by omega)
   have hltn : decide (k1 < k2) = true := decide_eq_true hlt
   rw [if_pos hlt]
   go_enter Tryz.func58, Tryz.ntmps58
   go_wp2
   go_ret
   exact ⟨rfl, 0, rfl⟩
  ·have hltb : decide ((k1 : Int) < (k2 : Int)) = false := decide_eq_false (by omega)
   have hltn : decide (k1 < k2) = false := decide_eq_false hlt
   rw [if_neg hlt]
   go_enter Tryz.func58, Tryz.ntmps58
   go_wp2
   go_ret
   exact ⟨rfl, 0, rfl⟩
end Num
namespace Num
open Go.RowKit Go.Lib
theorem info_dint : ∃ i0, Tryz.prog.info? 3 = some i0 ∧ i0.zero = some (.int .i64 0) ∧ i0.size = 1 ∧ i0.bytes = 8 := info_parts (by kernel_rfl)
theorem ten2 : 2 ≤ 10 := by decide
theorem quiet_here {P : Program} {f : FuncId} {args : Array Value} {w : World} {q : Nat} {v : Value} (h : Calls P f args (w.drewN q) fun e w' => e = .returned v ∧ w' = w.drewN q) :
  Calls P f args (w.drewN q) fun e w'' => e = .returned v ∧ ∃ m, w'' = w.drewN m := h.mono fun _ _ h => ⟨h.1, q, h.2⟩
def OwnD (B : Nat) (v : Value) (l : List Nat) (w : World) : Prop := w.ownsRow B 3 1 v l.length (digsV l)
theorem OwnD.at {B : Nat} {v : Value} {l : List Nat} {w : World} (h : OwnD B v l w) : DigsAt w v l := BeginsD.of_owns h
theorem OwnD.snoc {B : Nat} {v : Value} {l : List Nat} {w : World} {d : Nat} (h : w.ownsRow B 3 1 v (l.length + 1) (digsV l ++ [.int .i64 d])) : OwnD B v (l ++ [d]) w := by
 unfold OwnD digsV
 rw [List.map_append, List.length_append]; exact h
theorem dplus_any (v1 v2 : Value) (m n : Nat) (w : World) (h1 : DecAt w v1 m) (h2 : DecAt w v2 n) (hm : (digs 10 m).length ≤ 1000000000) (hn : (digs 10 n).length ≤ 1000000000) :
  Calls Tryz.prog 118 #[v1, v2] w fun e w' => ∃ v', e = .returned v' ∧ DecAt w' v' (m + n) ∧ Below w.heap.size w w' := by
 obtain ⟨A1, C1, rfl, hC1⟩ := h1.form
 obtain ⟨A2, C2, rfl, hC2⟩ := h2.form
 have H1 := hid h1; clear h1
 have H2 := hid h2; clear h2
 obtain ⟨x, hx⟩ : ∃ x, digs 10 m = x := ⟨_, rfl⟩
 obtain ⟨y, hy⟩ : ∃ y, digs 10 n = y := ⟨_, rfl⟩
 unfold DecAt at H1 H2
 rw [hx] at hm hC1 H1 ⊢
 rw [hy] at hn hC2 H2 ⊢
 have HX := hid hx; clear hx
 have HY := hid hy; clear hy
 obtain ⟨i0, hi0, hz0, hz1, hz2⟩ := info_dint
 have hx32 : ∀ d ∈ x, d < 10 := by rw [← HX.out]; exact digs_lt ten2 m
 have hy32 : ∀ d ∈ y, d < 10 := by rw [← HY.out]; exact digs_lt ten2 n
 have HX32 := hid hx32; clear hx32
 have HY32 := hid hy32; clear hy32
 have HC1 := hid hC1; clear hC1
 have HC2 := hid hC2; clear hC2
 obtain ⟨K, hK⟩ : ∃ K, max x.length y.length + 1 = K := ⟨_, rfl⟩
 obtain ⟨B, hB⟩ : ∃ B, w.heap.size = B := ⟨_, rfl⟩
 have HB := hid hB
 have TD1 := hid (fun W (i : Nat) (hd : DigsAt W (.slice A1 x.length C1) x) (hi : i ≤ 2000000000) => digitAt_any (.slice A1 x.length C1) x i W hd hi)
 have TD2 := hid (fun W (i : Nat) (hd : DigsAt W (.slice A2 y.length C2) y) (hi : i ≤ 2000000000) => digitAt_any (.slice A2 y.length C2) y i W hd hi)
 go_enter Tryz.func118, Tryz.ntmps118
 go_wp2
 go_loopg [5, 6, 7, 8] (K + 1) (fun g v5 v6 v7 v8 wx => ∃ (i c : Nat) (o : List Nat), i + g = K + 1 ∧ v6 = .int .i64 c ∧ v7 = .int .i64 i ∧ PlusInv 10 x y i o c ∧ OwnD B v5 o wx ∧ Below B w wx ∧ B ≤ wx.heap.size)
 case atStart => exact ⟨0, 0, [], by omega, rfl, by go_num, PlusInv.start _ _ _, by unfold OwnD; exact World.ownsRow_nil _ _ _ _, by rw [← HB.out]; exact Below.refl _ _, by rw [HB.out]; exact Nat.le_refl _⟩
 case round =>
  obtain ⟨i, c, o, hi, rfl, rfl, hinv, hown, hb, hs⟩ := hrel
  have hib := hinv.bound ten2 HX32.out HY32.out
  have HOL : Hid (o.length = i) := hinv.len
  have hlen3 : o.length + 1 ≤ 1000000003 := by have := hinv.len; omega
  have hc1 := hinv.carry
  have HOW2 := hid hown; clear hown
  have HIN := hid hinv; clear hinv
  have HB2 := hid hb; clear hb
  have HK := hid hK
  have hiK : i ≤ K := by omega
  have hiM : i ≤ 2000000000 := by omega
  clear hib
  have hstep : (i < x.length ∨ i < y.length ∨ 0 < c) → PlusInv 10 x y (i + 1) (o ++ [(c + x.getD i 0 + y.getD i 0) % 10]) ((c + x.getD i 0 + y.getD i 0) / 10) := fun h => PlusInv.step ten2 HX32.out HY32.out HX.out.symm HY.out.symm HIN.out h
  have HST := hid hstep; clear hstep
  have HHX : Hid (DigsAt wr (.slice A1 x.length C1) x) := H1.out.below (by rw [HB.out]; exact HB2.out)
  have HHY : Hid (DigsAt wr (.slice A2 y.length C2) y) := H2.out.below (by rw [HB.out]; exact HB2.out)
  have TX := hid (TD1.out wr i HHX.out hiM)
  have TY := hid (TD2.out wr i HHY.out hiM)
  obtain ⟨dx, hdx⟩ : ∃ d, x.getD i 0 = d := ⟨_, rfl⟩
  obtain ⟨dy, hdy⟩ : ∃ d, y.getD i 0 = d := ⟨_, rfl⟩
  rw [hdx, hdy] at HST
  rw [hdx] at TX
  rw [hdy] at TY
  have hdx32 : dx < 10 := by rw [← hdx]; exact getD_lt (by decide) HX32.out i
  have hdy32 : dy < 10 := by rw [← hdy]; exact getD_lt (by decide) HY32.out i
  clear hdx hdy
  by_cases hgo : i < x.length ∨ i < y.length ∨ 0 < c
  ·have HN := hid (HST.out hgo)
   obtain ⟨av, cv, rfl⟩ := owns_form HOW2.out
   have hOWA := hid (HOW2.out.alloc (.cells #[.int .i64 (((dx : Int) + dy + c) % 10)] 3))
   have htm : ((dx : Int) + dy + c).tmod 10 = ((dx : Int) + dy + c) % 10 := Int.tmod_eq_emod_of_nonneg (by omega)
   have htd : ((dx : Int) + dy + c).tdiv 10 = ((dx : Int) + dy + c) / 10 := Int.tdiv_eq_ediv_of_nonneg (by omega)
   have HBODY : Hid (∀ (v3 : Value) (w3 : World), w3.ownsRow B 3 1 v3 (o.length + 1) (digsV o ++ [.int .i64 (((dx : Int) + dy + c) % 10)]) → (wr.alloc (.cells #[.int .i64 (((dx : Int) + dy + c) % 10)] 3)).grownBy w3 (Value.slice av o.length cv).ownBlock → OwnD B v3 (o ++ [(c + dx + dy) % 10]) w3 ∧ Below B w w3 ∧ B ≤ w3.heap.size) := by
    intro v3 w3 hown3 hgrow3
    refine ⟨OwnD.snoc (by rw [show (((dx : Int) + dy + c) % 10 : Int) = (((c + dx + dy) % 10 : Nat) : Int) by omega] at hown3; exact hown3), (HB2.out.alloc hs _).grown hgrow3 (by simp; omega) (fun k e => (HOW2.out.lt k e).1), Nat.le_trans hs (Nat.le_trans (by simp) hgrow3.size)⟩
   by_cases hx : i < x.length
   ·have hxb : decide ((i : Int) < (x.length : Int)) = true := decide_eq_true (by omega)
    have hxn : decide (i < x.length) = true := decide_eq_true hx
    go_wp2_with fail
    refine TX.out.mono ?_
    rintro e wr ⟨rfl, rfl⟩
    go_wp2_with fail
    refine TY.out.mono ?_
    rintro e wr ⟨rfl, rfl⟩
    go_wp2_with (at_builtin; refine wpList_append_own _ rfl _ _ 57 rfl B 3 i0 (.int .i64 0) 1 8 Tryz.underlying57 hi0 hz0 hz1 hz2 rfl (by decide) (.slice av o.length cv) o.length (digsV o) rfl hOWA.out ⟨wr.heap.size, 0, none⟩ 1 1 [.int .i64 (((dx : Int) + dy + c) % 10)] rfl rfl (cell_one_new _ _ _) (by simp [Value.oneCell']) (by unfold maxLen; omega) (by omega) (by simp; omega) ?_)
    intro v3 w3 hown3 hgrow3 _
    obtain ⟨hn3, hb3, hs3⟩ := HBODY.out v3 w3 hown3 hgrow3
    have HN3 := hid hn3; have HB3 := hid hb3
    clear hown3 hgrow3 hn3 hb3
    go_wp2
    go_roundg (gk - 1)
    case measure => omega
    case rel => exact ⟨i + 1, (c + dx + dy) / 10, o ++ [(c + dx + dy) % 10], by omega, by go_num, by go_num, HN.out, HN3.out, HB3.out, hs3⟩
   ·have hxb : decide ((i : Int) < (x.length : Int)) = false := decide_eq_false (by omega)
    have hxn : decide (i < x.length) = false := decide_eq_false hx
    by_cases hy : i < y.length
    ·have hyb : decide ((i : Int) < (y.length : Int)) = true := decide_eq_true (by omega)
     have hyn : decide (i < y.length) = true := decide_eq_true hy
     go_wp2_with fail
     refine TX.out.mono ?_
     rintro e wr ⟨rfl, rfl⟩
     go_wp2_with fail
     refine TY.out.mono ?_
     rintro e wr ⟨rfl, rfl⟩
     go_wp2_with (at_builtin; refine wpList_append_own _ rfl _ _ 57 rfl B 3 i0 (.int .i64 0) 1 8 Tryz.underlying57 hi0 hz0 hz1 hz2 rfl (by decide) (.slice av o.length cv) o.length (digsV o) rfl hOWA.out ⟨wr.heap.size, 0, none⟩ 1 1 [.int .i64 (((dx : Int) + dy + c) % 10)] rfl rfl (cell_one_new _ _ _) (by simp [Value.oneCell']) (by unfold maxLen; omega) (by omega) (by simp; omega) ?_)
     intro v3 w3 hown3 hgrow3 _
     obtain ⟨hn3, hb3, hs3⟩ := HBODY.out v3 w3 hown3 hgrow3
     have HN3 := hid hn3; have HB3 := hid hb3
     clear hown3 hgrow3 hn3 hb3
     go_wp2
     go_roundg (gk - 1)
     case measure => omega
     case rel => exact ⟨i + 1, (c + dx + dy) / 10, o ++ [(c + dx + dy) % 10], by omega, by go_num, by go_num, HN.out, HN3.out, HB3.out, hs3⟩
    ·have hyb : decide ((i : Int) < (y.length : Int)) = false := decide_eq_false (by omega)
     have hyn : decide (i < y.length) = false := decide_eq_false hy
     have hcb : decide ((0 : Int) < (c : Int)) = true := decide_eq_true (by omega)
     have hcn : decide (0 < c) = true := decide_eq_true (by omega)
     go_wp2_with fail
     refine TX.out.mono ?_
     rintro e wr ⟨rfl, rfl⟩
     go_wp2_with fail
     refine TY.out.mono ?_
     rintro e wr ⟨rfl, rfl⟩
     go_wp2_with (at_builtin; refine wpList_append_own _ rfl _ _ 57 rfl B 3 i0 (.int .i64 0) 1 8 Tryz.underlying57 hi0 hz0 hz1 hz2 rfl (by decide) (.slice av o.length cv) o.length (digsV o) rfl hOWA.out ⟨wr.heap.size, 0, none⟩ 1 1 [.int .i64 (((dx : Int) + dy + c) % 10)] rfl rfl (cell_one_new _ _ _) (by simp [Value.oneCell']) (by unfold maxLen; omega) (by omega) (by simp; omega) ?_)
     intro v3 w3 hown3 hgrow3 _
     obtain ⟨hn3, hb3, hs3⟩ := HBODY.out v3 w3 hown3 hgrow3
     have HN3 := hid hn3; have HB3 := hid hb3
     clear hown3 hgrow3 hn3 hb3
     go_wp2
     go_roundg (gk - 1)
     case measure => omega
     case rel => exact ⟨i + 1, (c + dx + dy) / 10, o ++ [(c + dx + dy) % 10], by omega, by go_num, by go_num, HN.out, HN3.out, HB3.out, hs3⟩
  ·have hxb : decide ((i : Int) < (x.length : Int)) = false := decide_eq_false (by omega)
   have hxn : decide (i < x.length) = false := decide_eq_false (by omega)
   have hyb : decide ((i : Int) < (y.length : Int)) = false := decide_eq_false (by omega)
   have hyn : decide (i < y.length) = false := decide_eq_false (by omega)
   have hcz : c = 0 := by omega
   subst hcz
   have hfin := HIN.out.done ten2 (by omega) (by omega)
   rw [← HX.out, ← HY.out, val_digs ten2, val_digs ten2] at hfin
   have HF := hid hfin; clear hfin
   go_wp2
   go_ret
   refine ⟨_, rfl, ?_, by rw [HB.out]; exact HB2.out⟩
   unfold DecAt
   rw [← HF.out]
   exact HOW2.out.at
theorem dless_any (v1 v2 : Value) (m n : Nat) (w : World) (h1 : DecAt w v1 m) (h2 : DecAt w v2 n) (hle : n ≤ m) (hm : (digs 10 m).length ≤ 1000000000) :
  Calls Tryz.prog 120 #[v1, v2] w fun e w' => ∃ v', e = .returned v' ∧ DecAt w' v' (m - n) ∧ (∀ g, v'.ownBlock = some g → w.heap.size ≤ g) ∧ Below w.heap.size w w' := by
 have hn := digs_len_mono ten2 hle
 have hfin : ∀ o c, LessInv 10 (digs 10 m) (digs 10 n) (digs 10 m).length o c → val 10 o = m - n := by
  intro o c h
  have := h.done (by rw [val_digs ten2, val_digs ten2]; exact hle) hn
  rwa [val_digs ten2, val_digs ten2] at this
 obtain ⟨A1, C1, rfl, hC1⟩ := h1.form
 obtain ⟨A2, C2, rfl, hC2⟩ := h2.form
 have H1 := hid h1; clear h1
 have H2 := hid h2; clear h2
 obtain ⟨x, hx⟩ : ∃ x, digs 10 m = x := ⟨_, rfl⟩
 obtain ⟨y, hy⟩ : ∃ y, digs 10 n = y := ⟨_, rfl⟩
 unfold DecAt at H1 H2
 have HX := hid hx
 have HY := hid hy
 rw [hx] at hm hn hC1 H1 hfin ⊢
 rw [hy] at hn hC2 H2 hfin ⊢
 have HF := hid hfin; clear hfin hx hy
 obtain ⟨i0, hi0, hz0, hz1, hz2⟩ := info_dint
 have hx32 : ∀ d ∈ x, d < 10 := by rw [← HX.out]; exact digs_lt ten2 m
 have hy32 : ∀ d ∈ y, d < 10 := by rw [← HY.out]; exact digs_lt ten2 n
 have HX32 := hid hx32; clear hx32
 have HY32 := hid hy32; clear hy32
 have HC1 := hid hC1; clear hC1
 have HC2 := hid hC2; clear hC2
 obtain ⟨B, hB⟩ : ∃ B, w.heap.size = B := ⟨_, rfl⟩
 have HB := hid hB
 have TD2 := hid (fun W (i : Nat) (hd : DigsAt W (.slice A2 y.length C2) y) (hi : i ≤ 2000000000) => digitAt_any (.slice A2 y.length C2) y i W hd hi)
 have TT := hid (fun v l W (h : DigsAt W v l) (hd : ∀ d ∈ l, d < 10) (hl : l.length ≤ 1000000000) => dtrim_own v l W h hd hl)
 go_enter Tryz.func120, Tryz.ntmps120
 go_wp2
 go_loopg [5, 6, 7, 8, 11] x.length (fun g v5 v6 v7 v8 v11 wx => ∃ (i c : Nat) (o : List Nat), i + g = x.length ∧ v6 = .int .i64 c ∧ v11 = .int .i64 i ∧ LessInv 10 x y i o c ∧ OwnD B v5 o wx ∧ Below B w wx ∧ B ≤ wx.heap.size)
 case atStart => exact ⟨0, 0, [], by omega, rfl, by go_num, LessInv.start _ _ _, by unfold OwnD; exact World.ownsRow_nil _ _ _ _, by rw [← HB.out]; exact Below.refl _ _, by rw [HB.out]; exact Nat.le_refl _⟩
 case round =>
  obtain ⟨i, c, o, hi, rfl, rfl, hinv, hown, hb, hs⟩ := hrel
  have HOL : Hid (o.length = i) := hinv.len
  have hlen3 : o.length + 1 ≤ 1000000003 := by have := hinv.len; omega
  have hc1 := hinv.borrow
  have HOW2 := hid hown; clear hown
  have HIN := hid hinv; clear hinv
  have HB2 := hid hb; clear hb
  have HHY : Hid (DigsAt wr (.slice A2 y.length C2) y) := H2.out.below (by rw [HB.out]; exact HB2.out)
  by_cases hx : i < x.length
  ·have hxb : decide ((i : Int) < (x.length : Int)) = true := decide_eq_true (by omega)
   have hxn : decide (i < x.length) = true := decide_eq_true hx
   have hj0 : (0 : Int) ≤ (i : Int) := by omega
   have hjk : (i : Int) < (x.length : Int) := by omega
   have HHX : DigsAt wr (.slice A1 x.length C1) x := H1.out.below (by rw [HB.out]; exact HB2.out)
   obtain ⟨b1, o1, rfl, e1⟩ := HHX.cellD i hx
   clear HHX
   have HN := hid (LessInv.step ten2 HX32.out HY32.out HIN.out)
   have TY := hid (fun q => TD2.out (wr.drewN q) i (HHY.out.drewN q) (by omega))
   obtain ⟨dx, hdx⟩ : ∃ d, x.getD i 0 = d := ⟨_, rfl⟩
   obtain ⟨dy, hdy⟩ : ∃ d, y.getD i 0 = d := ⟨_, rfl⟩
   rw [hdx] at e1
   rw [hdx, hdy] at HN
   rw [hdy] at TY
   have hdx32 : dx < 10 := by rw [← hdx]; exact getD_lt (by decide) HX32.out i
   have hdy32 : dy < 10 := by rw [← hdy]; exact getD_lt (by decide) HY32.out i
   clear hdx hdy
   obtain ⟨av, cv, rfl⟩ := owns_form HOW2.out
   by_cases hlt : dx < c + dy
   ·rw [if_pos hlt] at HN
    have hltb : decide ((dx : Int) - dy - c < 0) = true := decide_eq_true (by omega)
    have hls : Hid (((dx : Int) - dy - c + 10) = ((less 10 dx (c + dy) : Nat) : Int)) := by
     show _ = _
     unfold less; rw [if_pos hlt]; omega
    obtain ⟨E, hE⟩ : ∃ E : Int, (dx : Int) - dy - c + 10 = E := ⟨_, rfl⟩
    rw [hE] at hls
    have hE0 : 0 ≤ E := by omega
    have hE1 : E < 10 := by omega
    clear hlt
    go_wp2
    go_quiet ((go_at_call 202; exact quiet_here (TY.out _)))
    go_wp2_with (at_builtin; refine wpList_append_own _ rfl _ _ 57 rfl B 3 i0 (.int .i64 0) 1 8 Tryz.underlying57 hi0 hz0 hz1 hz2 rfl (by decide) (.slice av o.length cv) o.length (digsV o) rfl (HOW2.out.alloc (.cells #[.int .i64 E] 3)) ⟨wr.heap.size, 0, none⟩ 1 1 [.int .i64 E] rfl rfl (cell_one_new _ _ _) (by simp [Value.oneCell']) (by unfold maxLen; omega) (by omega) (by simp; omega) ?_)
    intro v3 w3 hown3 hgrow3 _
    have HN3 : Hid (OwnD B v3 (o ++ [less 10 dx (c + dy)]) w3) := OwnD.snoc (by rw [hls.out] at hown3; exact hown3)
    have HB3 : Hid (Below B w w3) := ((below_drewN HB2.out _).alloc hs _).grown hgrow3 (by simp; omega) (fun k e => (HOW2.out.lt k e).1)
    have hs3 : B ≤ w3.heap.size := Nat.le_trans hs (Nat.le_trans (by simp) hgrow3.size)
    clear hown3 hgrow3
    go_wp2
    go_roundg (gk - 1)
    case measure => omega
    case rel => exact ⟨i + 1, 1, o ++ [less 10 dx (c + dy)], by omega, rfl, by go_num, HN.out, HN3.out, HB3.out, hs3⟩
   ·rw [if_neg hlt] at HN
    have hltb : decide ((dx : Int) - dy - c < 0) = false := decide_eq_false (by omega)
    have hls : Hid (((dx : Int) - dy - c) = ((less 10 dx (c + dy) : Nat) : Int)) := by
     show _ = _
     unfold less; rw [if_neg hlt]; omega
    obtain ⟨E, hE⟩ : ∃ E : Int, (dx : Int) - dy - c = E := ⟨_, rfl⟩
    rw [hE] at hls hltb
    have hE0 : 0 ≤ E := by omega
    have hE1 : E < 10 := by omega
    clear hlt
    go_wp2
    go_quiet ((go_at_call 202; exact quiet_here (TY.out _)))
    go_wp2_with (at_builtin; refine wpList_append_own _ rfl _ _ 57 rfl B 3 i0 (.int .i64 0) 1 8 Tryz.underlying57 hi0 hz0 hz1 hz2 rfl (by decide) (.slice av o.length cv) o.length (digsV o) rfl (HOW2.out.alloc (.cells #[.int .i64 E] 3)) ⟨wr.heap.size, 0, none⟩ 1 1 [.int .i64 E] rfl rfl (cell_one_new _ _ _) (by simp [Value.oneCell']) (by unfold maxLen; omega) (by omega) (by simp; omega) ?_)
    intro v3 w3 hown3 hgrow3 _
    have HN3 : Hid (OwnD B v3 (o ++ [less 10 dx (c + dy)]) w3) := OwnD.snoc (by rw [hls.out] at hown3; exact hown3)
    have HB3 : Hid (Below B w w3) := ((below_drewN HB2.out _).alloc hs _).grown hgrow3 (by simp; omega) (fun k e => (HOW2.out.lt k e).1)
    have hs3 : B ≤ w3.heap.size := Nat.le_trans hs (Nat.le_trans (by simp) hgrow3.size)
    clear hown3 hgrow3
    go_wp2
    go_roundg (gk - 1)
    case measure => omega
    case rel => exact ⟨i + 1, 0, o ++ [less 10 dx (c + dy)], by omega, rfl, by go_num, HN.out, HN3.out, HB3.out, hs3⟩
  ·have hxb : decide ((i : Int) < (x.length : Int)) = false := decide_eq_false (by omega)
   have hxn : decide (i < x.length) = false := decide_eq_false hx
   obtain rfl : i = x.length := by omega
   have hv := HF.out o c HIN.out
   have HV := hid hv; clear hv
   have HO := hid (show ∀ d ∈ o, d < 10 from HIN.out.lt)
   have TQ := hid (TT.out _ _ _ HOW2.out.at HO.out (by have := HOL.out; omega))
   go_wp2_with fail
   refine TQ.out.mono ?_
   rintro e W1 ⟨v', rfl, hd, hob, rfl⟩
   rw [HV.out] at hd
   have HD := hid hd; clear hd
   have HOB : Hid (∀ g, v'.ownBlock = some g → w.heap.size ≤ g) := fun g hg => by rw [hob] at hg; rw [HB.out]; exact (HOW2.out.lt g hg).1
   clear hob
   go_wp2
   go_ret
   exact ⟨_, rfl, HD.out, HOB.out, by rw [HB.out]; exact HB2.out⟩
end Num
namespace Num
open Go.RowKit Go.Lib
theorem made_beginsD (n : Nat) : BeginsD (madeCells #[.int .i64 0] n) (List.replicate n 0) := by
 intro i hi
 have hi' : i < n := by simpa using hi
 simp [madeCells, hi', Nat.mod_one]
structure DAt (B g : Nat) (w : World) (o : List Nat) (wx : World) : Prop where
 block : ∃ cs, wx.heap[g]? = some (.cells cs 3 (0, 0)) ∧ BeginsD cs o
 below : Below B w wx
theorem DAt.set {B g : Nat} {w wx : World} {o : List Nat} (h : DAt B g w o wx) (hB : B ≤ g) (i e : Nat) : DAt B g w (o.set i e) (wx.setCell ⟨g, i, none⟩ (.int .i64 e)) := by
 obtain ⟨cs, h1, h2⟩ := h.block
 exact ⟨⟨_, heap_setCell_at h1 i _, h2.set i _⟩, h.below.setCell (p := ⟨g, i, none⟩) hB _⟩
theorem DAt.cell {B g : Nat} {w wx : World} {o : List Nat} (h : DAt B g w o wx) (i : Nat) (hi : i < o.length) : wx.cell? ⟨g, i, none⟩ = some (.int .i64 (o.getD i 0)) ∧ wx.frozen? ⟨g, i, none⟩ = false := by
 obtain ⟨cs, h1, h2⟩ := h.block
 exact ⟨by rw [Lib.cell_of_heap h1 i, h2.at i hi], Lib.frozen_of_heap h1 i⟩
theorem DAt.drew {B g : Nat} {w wx : World} {o : List Nat} (h : DAt B g w o wx) : DAt B g w o wx.drew := ⟨h.block, h.below.drew⟩
theorem DAt.grown {B g : Nat} {w wx wy : World} {o : List Nat} (h : DAt B g w o wx) (hb : Below wx.heap.size wx wy) (hs : B ≤ wx.heap.size) : DAt B g w o wy := by
 obtain ⟨cs, h1, h2⟩ := h.block
 exact ⟨⟨cs, (hb.block g (heap_lt h1)).trans h1, h2⟩, h.below.trans (hb.mono hs)⟩
theorem dtimes_any (v1 v2 : Value) (m n : Nat) (w : World) (h1 : DecAt w v1 m) (h2 : DecAt w v2 n) (hm : (digs 10 m).length ≤ 100000000) (hn : (digs 10 n).length ≤ 100000000) :
  Calls Tryz.prog 57 #[v1, v2] w fun e w' => ∃ v', e = .returned v' ∧ DecAt w' v' (m * n) ∧ Below w.heap.size w w' := by
 obtain ⟨A1, C1, rfl, hC1⟩ := h1.form
 obtain ⟨A2, C2, rfl, hC2⟩ := h2.form
 have hfin : ∀ o, MulInv 10 (digs 10 m) (digs 10 n) (digs 10 m).length o → val 10 o = m * n := by
  intro o h
  have := h.done
  rwa [val_digs ten2, val_digs ten2] at this
 have HFIN := hid hfin; clear hfin
 have H1 := hid h1; clear h1
 have H2 := hid h2; clear h2
 have hx32 := digs_lt ten2 m
 have hy32 := digs_lt ten2 n
 unfold DecAt at H1 H2
 generalize digs 10 m = x at *
 generalize digs 10 n = y at *
 have HX32 := hid hx32; clear hx32
 have HY32 := hid hy32; clear hy32
 have HC1 := hid hC1; clear hC1
 have HC2 := hid hC2; clear hC2
 obtain ⟨B, hB⟩ : ∃ B, w.heap.size = B := ⟨_, rfl⟩
 have HB := hid hB
 have hmk := run_make_row' (P := Tryz.prog) 57 3 (.int .i64 0) 8 Tryz.underlying57 (by kernel_rfl) rfl .i64 .i64 (x.length + y.length) (by omega) (by omega)
 have hcast : ((x.length + y.length : Nat) : Int) = (x.length : Int) + (y.length : Int) := by omega
 rw [hcast] at hmk
 have hta : DAt B B w (List.replicate (x.length + y.length) 0) (w.alloc (.cells (madeCells #[.int .i64 0] (x.length + y.length)) 3)) := ⟨⟨_, alloc_at _ _ _ hB, made_beginsD _⟩, by rw [← hB]; exact (Below.refl _ _).alloc (Nat.le_refl _) _⟩
 have HTA := hid hta; clear hta
 obtain ⟨L, hL⟩ : ∃ L, x.length + y.length = L := ⟨_, rfl⟩
 have hLi : (x.length : Int) + (y.length : Int) = (L : Int) := by omega
 rw [hL] at HTA hmk
 rw [hLi] at hmk
 have TT := hid (fun v l W (h : DigsAt W v l) (hd : ∀ d ∈ l, d < 10) (hl : l.length ≤ 1000000000) => dtrim_own v l W h hd hl)
 go_enter Tryz.func57, Tryz.ntmps57
 go_wp2
 go_loopg [6, 7, 8, 9, 10, 19] x.length (fun gh v6 v7 v8 v9 v10 v19 wx => ∃ (i : Nat) (o : List Nat), i + gh = x.length ∧ v19 = .int .i64 i ∧ MulInv 10 x y i o ∧ DAt B B w o wx)
 case atStart => exact ⟨0, _, by omega, by go_num, by rw [← hL]; exact MulInv.start ten2 x y, HTA.out⟩
 case round =>
  obtain ⟨i, o, hi, rfl, hti, hta⟩ := hrel
  have HTI := hid hti; clear hti
  have HTO := hid hta; clear hta
  have hol : o.length = L := by rw [HTI.out.len, hL]
  have HOL := hid hol; clear hol
  by_cases hix : i < x.length
  ·have hib : decide ((i : Int) < (x.length : Int)) = true := decide_eq_true (by omega)
   have hin : decide (i < x.length) = true := decide_eq_true hix
   obtain ⟨dx, hdx⟩ : ∃ d, x.getD i 0 = d := ⟨_, rfl⟩
   have hdx32 : dx < 10 := by rw [← hdx]; exact getD_lt (by decide) HX32.out i
   have hstep : ∀ (o' : List Nat) (c : Nat), CarryInv 10 (val 10 o + 10 ^ i * (dx * val 10 y)) L o' c L → MulInv 10 x y (i + 1) o' := by
    intro o' c h
    refine HTI.out.step ten2 HX32.out HY32.out hix (c := c) ?_
    rw [hdx, HOL.out]; exact h
   have HSTEP := hid hstep; clear hstep
   have HDX := hid hdx; clear hdx
   obtain ⟨gkO, rfl⟩ : ∃ g : Nat, g = gk := ⟨_, rfl⟩
   go_wp2
   go_loopg [7, 24] y.length (fun gh v7 v24 wx => ∃ (k : Nat) (o' : List Nat), k + gh = y.length ∧ v24 = .int .i64 k ∧ AddInv 10 o y i dx k o' ∧ DAt B B w o' wx)
   case atStart => exact ⟨0, o, by omega, by go_num, AddInv.start ten2 HTI.out.lt y i dx, HTO.out⟩
   case round =>
    obtain ⟨k, o', hk, rfl, hri, hto⟩ := hrel
    have HRI := hid hri; clear hri
    have HT2 := hid hto; clear hto
    have HOL2 : Hid (o'.length = L) := HRI.out.len.trans HOL.out
    by_cases hky : k < y.length
    ·have hkb : decide ((k : Int) < (y.length : Int)) = true := decide_eq_true (by omega)
     have hkn : decide (k < y.length) = true := decide_eq_true hky
     have hikL : i + k < L := by omega
     have hj0 : (0 : Int) ≤ (i : Int) + (k : Int) := by omega
     have hj1 : (i : Int) + (k : Int) < (L : Int) := by omega
     have hj2 : (0 : Int) ≤ (i : Int) := by omega
     have hj3 : (i : Int) < (x.length : Int) := by omega
     have hj4 : (0 : Int) ≤ (k : Int) := by omega
     have hj5 : (k : Int) < (y.length : Int) := by omega
     have htn : ((i : Int) + (k : Int)).toNat = i + k := by omega
     have hwr : IntKind.i64.wrap ((i : Int) + (k : Int)) = (i : Int) + (k : Int) := by rw [IntKind.wrap_i64]; omega
     have HHX : DigsAt wr.drew (.slice A1 x.length C1) x := (H1.out.below (by rw [HB.out]; exact HT2.out.below) : DigsAt wr _ _)
     have HHY : DigsAt wr.drew (.slice A2 y.length C2) y := (H2.out.below (by rw [HB.out]; exact HT2.out.below) : DigsAt wr _ _)
     obtain ⟨b1, o1, rfl, e1⟩ := HHX.cellD i hix
     rw [HDX.out] at e1
     obtain ⟨b2, o2, rfl, e2⟩ := HHY.cellD k hky
     obtain ⟨hcell, hfro⟩ := HT2.out.drew.cell (i + k) (by rw [HOL2.out]; omega)
     have hrs := HRI.out.step ten2 HTI.out.lt hdx32 HY32.out (by rw [HOL.out]; omega)
     have hset := HT2.out.drew.set (Nat.le_refl _) (i + k)
     have htop := HRI.out.top (i + k)
     obtain ⟨dy, hdy⟩ : ∃ d, y.getD k 0 = d := ⟨_, rfl⟩
     obtain ⟨d0, hd0⟩ : ∃ d, o'.getD (i + k) 0 = d := ⟨_, rfl⟩
     have hdy32 : dy < 10 := by rw [← hdy]; exact getD_lt (by decide) HY32.out k
     rw [hdy] at e2 hrs
     rw [hd0] at hcell hrs htop
     obtain ⟨p, hp⟩ : ∃ p, dx * dy = p := ⟨_, rfl⟩
     have hpm : p ≤ 81 := by
      rw [← hp]
      calc dx * dy ≤ 9 * 9 := Nat.mul_le_mul (by omega) (by omega)
       _ = 81 := by decide
     rw [hp] at hrs
     have hpi : (dx : Int) * (dy : Int) = (p : Int) := by rw [← hp]; simp
     have hs2 := hset (d0 + p)
     rw [show ((d0 + p : Nat) : Int) = (d0 : Int) + (p : Int) by omega] at hs2
     have HRS := hid hrs; clear hrs
     have HS2 := hid hs2; clear hs2
     clear hset HHY HHX hdy hd0 hp
     go_wp2
     refine wp_region_still_tail 17 (by kernel_rfl) (by kernel_rfl) ?_
     simp only [List.take_succ_cons, List.take_zero, List.drop_succ_cons, List.drop_zero]
     change wpStill _ _ (World.drew _) (fun a' => wpList _ _ _ _ a' (World.drew _)) _ _
     generalize hW : World.drew _ = w2 at *
     repeat still_step
     refine wpStill_nil ?_
     go_wp2
     go_roundg (gk - 1)
     case measure => omega
     case rel => exact ⟨k + 1, _, by omega, by go_num, HRS.out, HS2.out⟩
    ·have hkb : decide ((k : Int) < (y.length : Int)) = false := decide_eq_false (by omega)
     have hkn : decide (k < y.length) = false := decide_eq_false hky
     obtain rfl : k = y.length := by omega
     have hci := CarryInv.start ten2 HTI.out.lt HRI.out
     rw [HOL.out] at hci
     have HCI := hid hci; clear hci
     go_wp2
     go_loopg [8, 9, 10] L (fun gh v8 v9 v10 wx => ∃ (j c : Nat) (oo : List Nat), j + gh = L + i ∧ i ≤ j ∧ j ≤ L ∧ v8 = .int .i64 c ∧ v9 = .int .i64 j ∧ CarryInv 10 (val 10 o + 10 ^ i * (dx * val 10 y)) j oo c L ∧ DAt B B w oo wx)
     case atStart => exact ⟨i, 0, o', by omega, by omega, by omega, rfl, rfl, HCI.out, HT2.out⟩
     case round =>
      obtain ⟨j, c, oo, hj, hij, hjl, rfl, rfl, hci, hdo⟩ := hrel
      have HCR := hid hci; clear hci
      have HT3 := hid hdo; clear hdo
      have hc10 : c < 10 := HCR.out.carry
      have hij2 := hid hij; clear hij
      by_cases hjL : j < L
      ·have hjb : decide ((j : Int) < (L : Int)) = true := decide_eq_true (by omega)
       have hjn : decide (j < L) = true := decide_eq_true hjL
       obtain ⟨hcell, hfro⟩ := HT3.out.cell j (by rw [HCR.out.len]; omega)
       have hset := HT3.out.set (Nat.le_refl _) j
       have htop := HCR.out.top j
       have hcs := HCR.out.step ten2 hjL
       obtain ⟨d0, hd0⟩ : ∃ d, oo.getD j 0 = d := ⟨_, rfl⟩
       rw [hd0] at hcell htop hcs
       have hs2 := hset ((d0 + c) % 10)
       rw [show (((d0 + c) % 10 : Nat) : Int) = ((d0 : Int) + (c : Int)) % 10 by omega] at hs2
       have HS2 := hid hs2; clear hs2
       have HCS := hid hcs; clear hcs
       have htm : ((d0 : Int) + (c : Int)).tmod 10 = ((d0 : Int) + (c : Int)) % 10 := Int.tmod_eq_emod_of_nonneg (by omega)
       have htd : ((d0 : Int) + (c : Int)).tdiv 10 = ((d0 : Int) + (c : Int)) / 10 := Int.tdiv_eq_ediv_of_nonneg (by omega)
       clear hset hd0
       go_wp2
       go_roundg (gk - 1)
       case measure => omega
       case rel => exact ⟨j + 1, (d0 + c) / 10, _, by omega, by have := hij2.out; omega, by omega, by go_num, by go_num, HCS.out, HS2.out⟩
      ·have hjb : decide ((j : Int) < (L : Int)) = false := decide_eq_false (by omega)
       have hjn : decide (j < L) = false := decide_eq_false hjL
       have hjeq : j = L := by omega
       subst hjeq
       have HMI := hid (HSTEP.out _ _ HCR.out)
       go_wp2
       go_roundg (gkO - 1)
       case measure => omega
       case rel => exact ⟨i + 1, _, by omega, by go_num, HMI.out, HT3.out⟩
  ·have hib : decide ((i : Int) < (x.length : Int)) = false := decide_eq_false (by omega)
   have hin : decide (i < x.length) = false := decide_eq_false hix
   obtain rfl : i = x.length := by omega
   obtain ⟨cs2, hk1, hk2⟩ := HTO.out.block
   have hat : DigsAt wr (.slice (some ⟨B, 0, none⟩) L L) o := by rw [← HOL.out]; exact DigsAt.of_block hk1 hk2 (Nat.le_refl _)
   have hv := HFIN.out o HTI.out
   have HV := hid hv; clear hv
   have HAT := hid hat; clear hat hk1 hk2
   go_wp2_with fail
   refine (TT.out _ o wr HAT.out HTI.out.lt (by rw [HOL.out]; omega)).mono ?_
   rintro e w2 ⟨v2, rfl, hn2, _, rfl⟩
   rw [HV.out] at hn2
   have HN2 := hid hn2; clear hn2
   go_wp2
   go_ret
   exact ⟨_, rfl, HN2.out, by rw [HB.out]; exact HTO.out.below⟩
end Num
namespace Num
open Go.RowKit Go.Lib
theorem dhalf_any (v1 : Value) (X : Nat) (w : World) (h1 : DecAt w v1 X) (hl1 : (digs 10 X).length ≤ 1000000000) :
  Calls Tryz.prog 127 #[v1] w fun e w' => ∃ v', e = .returned v' ∧ DecAt w' v' (X / 2) ∧ Below w.heap.size w w' := by
 obtain ⟨A1, C1, rfl, hC1⟩ := h1.form
 have H1 := hid h1; clear h1
 have HX32 := hid (digs_lt ten2 X)
 obtain ⟨x, hx⟩ : ∃ x, digs 10 X = x := ⟨_, rfl⟩
 have HX := hid hx
 rw [hx] at HX32 hC1 hl1 H1 ⊢
 clear hx
 have HC1 := hid hC1; clear hC1
 have hfin : ∀ q r, DivInv 10 x 2 0 q r → val 10 q = X / 2 := by
  intro q r h
  have := h.done.1
  rw [← HX.out, val_digs ten2] at this
  exact this
 have HFIN := hid hfin; clear hfin
 obtain ⟨B, hB⟩ : ∃ B, w.heap.size = B := ⟨_, rfl⟩
 have HB := hid hB
 have hmk := run_make_row' (P := Tryz.prog) 57 3 (.int .i64 0) 8 Tryz.underlying57 (by kernel_rfl) rfl .i64 .i64 x.length (by omega) (by omega)
 have hta : DAt B B w (List.replicate x.length 0) (w.alloc (.cells (madeCells #[.int .i64 0] x.length) 3)) := ⟨⟨_, alloc_at _ _ _ hB, made_beginsD _⟩, by rw [← hB]; exact (Below.refl _ _).alloc (Nat.le_refl _) _⟩
 have HTA := hid hta; clear hta
 go_enter Tryz.func127, Tryz.ntmps127
 go_wp2
 go_loopg [4, 5, 6] x.length (fun g v4 v5 v6 wx => ∃ (j : Nat) (q : List Nat) (r : Nat), j = g ∧ j ≤ x.length ∧ v4 = .int .i64 r ∧ v5 = .int .i64 ((j : Int) - 1) ∧ DivInv 10 x 2 j q r ∧ DAt B B w q wx)
 case atStart => exact ⟨x.length, _, 0, rfl, Nat.le_refl _, rfl, by go_num, DivInv.start ten2 x 2, HTA.out⟩
 case round =>
  obtain ⟨j, q, r, rfl, hj, rfl, rfl, hdi, hta⟩ := hrel
  have HDI := hid hdi; clear hdi
  have HTQ := hid hta; clear hta
  by_cases h0 : j = 0
  ·subst h0
   have hge : decide ((0 : Int) ≤ ((0 : Nat) : Int) - 1) = false := rfl
   have hv := HFIN.out q r HDI.out
   obtain ⟨cs2, hk1, hk2⟩ := HTQ.out.block
   have hol := HDI.out.len
   have hat : DigsAt wr (.slice (some ⟨B, 0, none⟩) x.length x.length) q := by rw [← hol]; exact DigsAt.of_block hk1 hk2 (by omega)
   have HV := hid hv; clear hv
   have HAT := hid hat; clear hat hk1 hk2
   go_wp2_with fail
   refine (dtrim_own _ q wr HAT.out HDI.out.lt (by omega)).mono ?_
   rintro e w2 ⟨vq, rfl, hnq, _, rfl⟩
   rw [HV.out] at hnq
   have HNQ := hid hnq; clear hnq
   go_wp2
   go_ret
   exact ⟨_, rfl, HNQ.out, by rw [HB.out]; exact HTQ.out.below⟩
  ·obtain ⟨i, rfl⟩ : ∃ i, j = i + 1 := ⟨j - 1, by omega⟩
   have hge : decide ((0 : Int) ≤ (i : Int)) = true := decide_eq_true (by omega)
   have hij : (((i + 1 : Nat) : Int) - 1) = (i : Int) := by omega
   have HHX : DigsAt wr (.slice A1 x.length C1) x := by
    have h := H1.out
    unfold DecAt at h
    rw [HX.out] at h
    exact h.below (by rw [HB.out]; exact HTQ.out.below)
   obtain ⟨b1, o1, rfl, e1⟩ := HHX.cellD i (by omega)
   obtain ⟨d, hd⟩ : ∃ d, x.getD i 0 = d := ⟨_, rfl⟩
   have hd32 : d < 10 := by rw [← hd]; exact getD_lt (by decide) HX32.out i
   obtain ⟨hdi2, hqlt⟩ := HDI.out.step ten2 (by decide) HX32.out (by omega)
   have hr2 : r < 2 := by rw [HDI.out.rem]; exact Nat.mod_lt _ (by decide)
   rw [hd] at e1 hdi2 hqlt
   have hqi : i < q.length := by rw [HDI.out.len]; omega
   obtain ⟨hcell, hfro⟩ := HTQ.out.cell i hqi
   have hset := HTQ.out.set (Nat.le_refl _) i ((d + 10 * r) / 2)
   rw [show (((d + 10 * r) / 2 : Nat) : Int) = ((10 : Int) * r + d) / 2 by omega] at hset
   have htm : ((10 : Int) * r + d).tmod 2 = ((10 : Int) * r + d) % 2 := Int.tmod_eq_emod_of_nonneg (by omega)
   have htd : ((10 : Int) * r + d).tdiv 2 = ((10 : Int) * r + d) / 2 := Int.tdiv_eq_ediv_of_nonneg (by omega)
   have HSET := hid hset; clear hset
   have HDI2 := hid hdi2; clear hdi2
   clear hd hqlt hqi HHX
   go_wp2
   go_roundg i
   case measure => omega
   case rel => exact ⟨i, _, (d + 10 * r) % 2, by omega, by omega, by go_num, by go_num, HDI2.out, HSET.out⟩
theorem getD_zeros (n k : Nat) : (List.replicate n 0).getD k 0 = 0 := by
 simp [List.getD, List.getElem?_replicate]; split <;> rfl
theorem set_zero {q : List Nat} {i : Nat} (h : i < q.length) (hz : q.getD i 0 = 0) : q.set i 0 = q := by
 apply List.ext_getElem?
 intro k
 by_cases hk : i = k
 ·subst hk
  rw [List.getElem?_set_self h, List.getElem?_eq_getElem h]
  simpa [List.getD, h] using hz.symm
 ·rw [List.getElem?_set_ne hk]
theorem one_atD (wr : World) (d : Nat) : DigsAt (wr.alloc (.cells #[.int .i64 (d : Int)] 3)) (.slice (some ⟨wr.heap.size, 0, none⟩) 1 1) [d] := by
 refine DigsAt.of_block (l := [d]) (alloc_at _ _ _ rfl) ?_ (Nat.le_refl _)
 intro i hi
 obtain rfl : i = 0 := by simpa using hi
 rfl
theorem digsV_cells {w : World} {a : Addr} {C : Nat} {l : List Nat} (h : DigsAt w (.slice (some a) l.length C) l) (o : Obj) : ∀ j u, (digsV l)[j]? = some u → (w.alloc o).cell? (a.add j) = some u := by
 intro j u hj
 obtain ⟨hj1, hj2⟩ := List.getElem?_eq_some_iff.1 hj
 have hj3 : j < l.length := by simpa [digsV] using hj1
 obtain ⟨b, o', ha, hcell⟩ := h.cellD j hj3
 obtain rfl := Option.some.inj ha
 rw [Addr.add_lit]
 refine Lib.cell?_alloc_some _ ?_
 rw [hcell, ← hj2]
 simp [digsV, List.getD, hj3]
theorem digsV_one (l : List Nat) : ∀ u ∈ digsV l, u.oneCell' = true := by
 intro u hu
 obtain ⟨d, _, rfl⟩ := List.mem_map.1 hu
 rfl
theorem made_oneD (wr : World) (d : Nat) : (wr.alloc (.cells #[.int .i64 (d : Int)] 3)).ownsRow wr.heap.size 3 1 (.slice (some ⟨wr.heap.size, 0, none⟩) 1 1) 1 [.int .i64 (d : Int)] :=
 ⟨rfl, .inr ⟨wr.heap.size, 1, #[.int .i64 (d : Int)], rfl, Nat.le_refl _, heap_alloc_new _ _, Nat.le_refl _, by decide, rfl, rfl⟩⟩
theorem DigsAt.setCell {w : World} {v : Value} {l : List Nat} (h : DigsAt w v l) (g i : Nat) (u : Value) (hne : v.ownBlock ≠ some g) : DigsAt (w.setCell ⟨g, i, none⟩ u) v l := by
 obtain ⟨A, C, rfl, hC, hc⟩ := h
 refine ⟨A, C, rfl, hC, fun j hj => ?_⟩
 obtain ⟨b, o, rfl, hcell⟩ := hc j hj
 refine ⟨b, o, rfl, ?_⟩
 rw [World.cell?_setCell_other _ _ _ _ (by intro e; apply hne; simp only [Addr.mk.injEq] at e; simp [Value.ownBlock, e.1])]
 exact hcell
theorem digs_snoc_len (d r : Nat) : (digs 10 (d + 10 * r)).length ≤ (digs 10 r).length + 1 ∨ d ≥ 10 := by
 by_cases hd : d < 10
 ·left
  refine digs_len_le ten2 ?_
  have h := digs_upper ten2 r
  rw [Nat.pow_succ]
  omega
 ·right; omega
theorem ddivide_any (v1 vM : Value) (X M : Nat) (w : World) (h1 : DecAt w v1 X) (h2 : DecAt w vM M) (hM : M ≠ 0) (hl1 : (digs 10 X).length ≤ 10000000) (hl2 : (digs 10 M).length ≤ 10000000) :
  Calls Tryz.prog 56 #[v1, vM] w fun e w' => ∃ vq vr, e = .returned (.tuple #[vq, vr]) ∧ DecAt w' vq (X / M) ∧ DecAt w' vr (X % M) ∧ Below w.heap.size w w' := by
 obtain ⟨A1, C1, rfl, hC1⟩ := h1.form
 have H1 := hid h1; clear h1
 have H2 := hid h2; clear h2
 have HM := hid hM; clear hM
 have HL2 := hid hl2; clear hl2
 have HX32 := hid (digs_lt ten2 X)
 obtain ⟨x, hx⟩ : ∃ x, digs 10 X = x := ⟨_, rfl⟩
 have HX := hid hx
 rw [hx] at HX32 hC1 hl1 H1 ⊢
 clear hx
 have HC1 := hid hC1; clear hC1
 have hfin : ∀ q r, DivInv 10 x M 0 q r → val 10 q = X / M ∧ r = X % M := by
  intro q r h
  have := h.done
  rw [← HX.out, val_digs ten2] at this
  exact this
 have HFIN := hid hfin; clear hfin
 obtain ⟨B, hB⟩ : ∃ B, w.heap.size = B := ⟨_, rfl⟩
 have HB := hid hB
 have hmk := run_make_row' (P := Tryz.prog) 57 3 (.int .i64 0) 8 Tryz.underlying57 (by kernel_rfl) rfl .i64 .i64 x.length (by omega) (by omega)
 have hta : DAt B B w (List.replicate x.length 0) (w.alloc (.cells (madeCells #[.int .i64 0] x.length) 3)) := ⟨⟨_, alloc_at _ _ _ hB, made_beginsD _⟩, by rw [← hB]; exact (Below.refl _ _).alloc (Nat.le_refl _) _⟩
 have HTA := hid hta; clear hta
 go_enter Tryz.func56, Tryz.ntmps56
 go_wp2
 go_loopg [7, 8] x.length (fun g v7 v8 wx => ∃ (j : Nat) (q : List Nat) (r : Nat), j = g ∧ j ≤ x.length ∧ v8 = .int .i64 ((j : Int) - 1) ∧ DivInv 10 x M j q r ∧ (∀ k, k < j → q.getD k 0 = 0) ∧ DecAt wx v7 r ∧ DAt B B w q wx)
 case atStart => exact ⟨x.length, _, 0, rfl, Nat.le_refl _, by go_num, DivInv.start ten2 x M, fun k _ => getD_zeros _ k, DecAt.zero _ _ _, HTA.out⟩
 case round =>
  obtain ⟨j, q, r, rfl, hj, rfl, hdi, hzq, hnr, hta⟩ := hrel
  have HZQ := hid hzq; clear hzq
  have HDI := hid hdi; clear hdi
  have HNR := hid hnr; clear hnr
  have HTQ := hid hta; clear hta
  by_cases h0 : j = 0
  ·subst h0
   have hge : decide ((0 : Int) ≤ ((0 : Nat) : Int) - 1) = false := rfl
   obtain ⟨hv, hr⟩ := HFIN.out q r HDI.out
   obtain ⟨cs2, hk1, hk2⟩ := HTQ.out.block
   have hol := HDI.out.len
   have hat : DigsAt wr (.slice (some ⟨B, 0, none⟩) x.length x.length) q := by rw [← hol]; exact DigsAt.of_block hk1 hk2 (by omega)
   have HV := hid hv; clear hv
   have HR := hid hr; clear hr
   have HAT := hid hat; clear hat hk1 hk2
   go_wp2_with fail
   refine (dtrim_own _ q wr HAT.out HDI.out.lt (by omega)).mono ?_
   rintro e w2 ⟨vq, rfl, hnq, _, rfl⟩
   rw [HV.out] at hnq
   have HNQ := hid hnq; clear hnq
   go_wp2
   go_ret2
   exact ⟨_, _, rfl, HNQ.out, by rw [← HR.out]; exact HNR.out, by rw [HB.out]; exact HTQ.out.below⟩
  ·obtain ⟨i, rfl⟩ : ∃ i, j = i + 1 := ⟨j - 1, by omega⟩
   have hge : decide ((0 : Int) ≤ (i : Int)) = true := decide_eq_true (by omega)
   have hij : (((i + 1 : Nat) : Int) - 1) = (i : Int) := by omega
   have HHX : DigsAt wr (.slice A1 x.length C1) x := by
    have h := H1.out
    unfold DecAt at h
    rw [HX.out] at h
    exact h.below (by rw [HB.out]; exact HTQ.out.below)
   obtain ⟨b1, o1, rfl, e1⟩ := HHX.cellD i (by omega)
   obtain ⟨d, hd⟩ : ∃ d, x.getD i 0 = d := ⟨_, rfl⟩
   have hd32 : d < 10 := by rw [← hd]; exact getD_lt (by decide) HX32.out i
   obtain ⟨hdi2, hqlt⟩ := HDI.out.step ten2 (Nat.pos_of_ne_zero HM.out) HX32.out (by omega)
   have hrM : r < M := by rw [HDI.out.rem]; exact Nat.mod_lt _ (Nat.pos_of_ne_zero HM.out)
   rw [hd] at e1 hdi2 hqlt
   obtain ⟨R, hR⟩ : ∃ R, d + 10 * r = R := ⟨_, rfl⟩
   rw [hR] at hdi2 hqlt
   have hlr : (digs 10 r).length ≤ (digs 10 M).length := digs_len_mono ten2 (Nat.le_of_lt hrM)
   have hvR : val 10 (d :: digs 10 r) = R := by rw [digs_cons ten2 _ _ (by omega), hR]
   have hall : ∀ z ∈ d :: digs 10 r, z < 10 := by
    intro z hz
    rcases List.mem_cons.1 hz with rfl | hz
    ·omega
    ·exact digs_lt ten2 r z hz
   have hlR : (digs 10 R).length ≤ (digs 10 r).length + 1 := by
    rcases digs_snoc_len d r with h | h
    ·rw [hR] at h; exact h
    ·omega
   have HDI2 := hid hdi2; clear hdi2
   have HQLT := hid hqlt; clear hqlt
   have HVR := hid hvR; clear hvR
   have HALL := hid hall; clear hall
   have hlr7 : (digs 10 r).length ≤ 10000000 := Nat.le_trans hlr HL2.out
   have HLR : Hid ((digs 10 R).length ≤ 100000000) := by show (digs 10 R).length ≤ 100000000; omega
   have HLr := hid hlr7
   have HLM : Hid ((digs 10 M).length ≤ 1000000000) := by show _ ≤ _; have := HL2.out; omega
   clear hlr hlR hR hd hrM HHX
   have hs0 : B ≤ wr.heap.size := by have := HTQ.out.below.size; rw [HB.out] at this; exact this
   have hqi : i < q.length := by rw [HDI.out.len]; omega
   have HQI := hid hqi; clear hqi
   obtain ⟨Ar, Cr, rfl, hCr⟩ := HNR.out.form
   obtain ⟨lr, hlr⟩ : ∃ lr, (digs 10 r).length = lr := ⟨_, rfl⟩
   rw [hlr] at hCr hlr7 ⊢
   have HLRE := hid hlr; clear hlr
   have HCR := hid hCr; clear hCr
   obtain ⟨i0, hi0, hz0, hz1, hz2⟩ := info_dint
   have HNR2 : DigsAt wr (.slice Ar (digs 10 r).length Cr) (digs 10 r) := by
    have h := HNR.out
    unfold DecAt at h
    exact h
   clear HNR
   have HNR2 := hid HNR2
   obtain ⟨gkO, hgkO⟩ : ∃ g : Nat, g = i := ⟨_, rfl⟩
   have HGK := hid hgkO; clear hgkO
   cases Ar with
   | none =>
    have hz : digs 10 r = [] := by
     match hdg : digs 10 r with
     | [] => rfl
     | z :: t =>
      have h := HNR2.out
      rw [hdg] at h
      obtain ⟨b, o, hA, _⟩ := h.cellD 0 (by simp)
      cases hA
    have hlz : lr = 0 := by rw [← HLRE.out, hz]; rfl
    subst hlz
    have HL2L : Hid (DigsAt (wr.alloc (.cells #[.int .i64 (d : Int)] 3)) (.slice (some ⟨wr.heap.size, 0, none⟩) 1 1) (d :: digs 10 r)) := by
     show DigsAt _ _ _
     rw [hz]; exact one_atD wr d
    have HB2 : Hid (Below wr.heap.size wr (wr.alloc (.cells #[.int .i64 (d : Int)] 3))) := (Below.refl _ _).alloc (Nat.le_refl _) _
    have HOB : Hid ((Value.slice (some ⟨wr.heap.size, 0, none⟩) 1 1).ownBlock ≠ some B) := by
     show _ ≠ _
     simp [Value.ownBlock]
     have := heap_lt (Classical.choose_spec HTQ.out.block).1
     omega
    clear hz
    go_wp2_with fail
    refine (dtrim_own _ (d :: digs 10 r) _ HL2L.out HALL.out (by have := HLr.out; simp only [List.length_cons]; omega)).mono ?_
    rintro e w3 ⟨v3, rfl, hn3, hob3, rfl⟩
    rw [HVR.out] at hn3
    have HOB3 : Hid (v3.ownBlock ≠ some B) := by show _ ≠ _; rw [hob3]; exact HOB.out
    clear hob3 HOB
    have HN3 := hid hn3; clear hn3
    have HT3 := hid (HTQ.out.grown HB2.out hs0)
    clear HB2 HL2L HTQ
    go_wp2
    go_loopg [7] (R / M) (fun g v7 wx => ∃ (va : Value) (t rr : Nat), va = v7 ∧ t + g = R / M ∧ rr + M * t = R ∧ DecAt wx va rr ∧ va.ownBlock ≠ some B ∧ DAt B B w (q.set i t) wx)
    case atStart =>
     refine ⟨_, 0, R, rfl, by omega, by omega, HN3.out, HOB3.out, ?_⟩
     have hz : q.set i 0 = q := set_zero HQI.out (HZQ.out i (Nat.lt_succ_self i))
     rw [hz]; exact HT3.out
    case round =>
     clear HN3 HOB3 HT3
     obtain ⟨va, t, rr, rfl, ht, hrr, hd7, ho7, hta⟩ := hrel
     have HD7 := hid hd7; clear hd7
     have HO7 := hid ho7; clear ho7
     have HTA := hid hta; clear hta
     have HRR := hid hrr; clear hrr
     have hlrr : (digs 10 rr).length ≤ 1000000000 := by
      have h1 := digs_len_mono ten2 (show rr ≤ R by have := HRR.out; omega)
      have := HLR.out; omega
     have HLRR := hid hlrr; clear hlrr
     have hs0 : B ≤ wr.heap.size := by have := HTA.out.below.size; rw [HB.out] at this; exact this
     go_wp2_with fail
     refine (dcompare_any _ vM rr M wr HD7.out (H2.out.below (by rw [HB.out]; exact HTA.out.below)) HLRR.out HLM.out).mono ?_
     rintro e w4 ⟨rfl, nq, rfl⟩
     by_cases hge2 : M ≤ rr
     ·have hcb : decide ((0 : Int) ≤ cmpN rr M) = true := decide_eq_true (by unfold cmpN; rw [if_neg (by omega)]; split <;> omega)
      have htk : t + 1 ≤ R / M := by
       rw [Nat.le_div_iff_mul_le (Nat.pos_of_ne_zero HM.out), Nat.add_mul, Nat.one_mul, Nat.mul_comm t M]
       have := HRR.out; omega
      go_wp2_with fail
      refine (dless_any _ vM rr M (wr.drewN nq) (HD7.out.drewN nq) ((H2.out.below (by rw [HB.out]; exact HTA.out.below)).drewN nq) hge2 HLRR.out).mono ?_
      rintro e w5 ⟨v5, rfl, hd5, ho5, hb5⟩
      have HT5 : Hid (DAt B B w (q.set i t) w5) := (⟨HTA.out.block, below_drewN HTA.out.below nq⟩ : DAt B B w (q.set i t) (wr.drewN nq)).grown hb5 hs0
      have HO5 : Hid (v5.ownBlock ≠ some B) := by
       intro e
       have h3 := ho5 B e
       have h4 := heap_lt (Classical.choose_spec HTA.out.block).1
       simp at h3
       omega
      have HD5 := hid hd5
      have HGE := hid hge2
      clear hd5 ho5 hb5 hge2
      have hqi2 : i < (q.set i t).length := by rw [List.length_set]; exact HQI.out
      obtain ⟨hcell, hfro⟩ := HT5.out.cell i hqi2
      rw [getD_set_eq HQI.out] at hcell
      have hset := HT5.out.set (Nat.le_refl _) i (t + 1)
      rw [List.set_set, show ((t + 1 : Nat) : Int) = (t : Int) + 1 by omega] at hset
      have HSET := hid hset; clear hset
      have HDS : Hid (DecAt (w5.setCell ⟨B, i, none⟩ (.int .i64 ((t : Int) + 1))) v5 (rr - M)) := DigsAt.setCell HD5.out B i _ HO5.out
      have HLT : Hid (R / M < 10) := HQLT.out
      have ht9 : t < 10 := by have := HLT.out; omega
      clear hqi2
      go_wp2
      go_roundg (gk - 1)
      case measure => omega
      case rel => exact ⟨_, t + 1, rr - M, rfl, by omega, by have := HRR.out; have := HGE.out; rw [Nat.mul_add]; omega, HDS.out, HO5.out, HSET.out⟩
     ·have hcb : decide ((0 : Int) ≤ cmpN rr M) = false := decide_eq_false (by unfold cmpN; rw [if_pos (by omega)]; omega)
      have hte : t = R / M ∧ rr = R % M := by
       have h1 := HRR.out
       have h2 : R / M = t := by
        rw [← h1, Nat.add_mul_div_left _ _ (Nat.pos_of_ne_zero HM.out), Nat.div_eq_of_lt (by omega)]; omega
       have h3 : R % M = rr := by
        rw [← h1, Nat.add_mul_mod_self_left, Nat.mod_eq_of_lt (by omega)]
       exact ⟨h2.symm, h3.symm⟩
      obtain ⟨ht1, ht2⟩ := hte
      have HTE : Hid (DAt B B w (q.set i (R / M)) (wr.drewN nq)) := by rw [← ht1]; exact ⟨HTA.out.block, below_drewN HTA.out.below nq⟩
      have HDE : Hid (DecAt (wr.drewN nq) va (R % M)) := by rw [← ht2]; exact HD7.out.drewN nq
      clear ht ht1 ht2 hge2
      go_wp2
      go_roundg gkO
      case measure => have := HGK.out; omega
      case rel => exact ⟨i, _, R % M, by have := HGK.out; omega, by omega, by go_num, HDI2.out, fun k hk => by rw [dgetD_set_ne (by omega)]; exact HZQ.out k (by omega), HDE.out, HTE.out⟩
   | some ar =>
    have HOWN := hid (made_oneD wr d)
    have HCE := hid (digsV_cells HNR2.out (.cells #[.int .i64 (d : Int)] 3))
    have HLEN : Hid ((digsV (digs 10 r)).length = lr * 1) := by show _ = _; rw [digsV_len, HLRE.out]; omega
    go_wp2_with (at_builtin; refine wpList_append_own _ rfl _ _ 57 rfl wr.heap.size 3 i0 (.int .i64 0) 1 8 Tryz.underlying57 hi0 hz0 hz1 hz2 rfl (by decide) _ 1 _ rfl HOWN.out ar lr Cr (digsV (digs 10 r)) rfl HLEN.out HCE.out (digsV_one _) (by unfold maxLen; omega) (by omega) (by simp) ?_)
    intro v2 w2 hown2 hgrow2 _
    have HL2L : Hid (DigsAt w2 v2 (d :: digs 10 r)) := by
     have h2 : OwnD wr.heap.size v2 (d :: digs 10 r) w2 := by
      unfold OwnD
      rw [List.length_cons, HLRE.out, Nat.add_comm lr 1]
      exact hown2
     exact h2.at
    have HB2 : Hid (Below wr.heap.size wr w2) := ((Below.refl _ wr).alloc (Nat.le_refl _) _).grown hgrow2 (by simp) (by intro k hk; simp [Value.ownBlock] at hk; omega)
    have HOB : Hid (v2.ownBlock ≠ some B) := by
     intro e
     have h3 := (hown2.lt B e).1
     have := heap_lt (Classical.choose_spec HTQ.out.block).1
     omega
    clear hown2 hgrow2
    go_wp2_with fail
    refine (dtrim_own _ (d :: digs 10 r) _ HL2L.out HALL.out (by have := HLr.out; simp only [List.length_cons]; omega)).mono ?_
    rintro e w3 ⟨v3, rfl, hn3, hob3, rfl⟩
    rw [HVR.out] at hn3
    have HOB3 : Hid (v3.ownBlock ≠ some B) := by show _ ≠ _; rw [hob3]; exact HOB.out
    clear hob3 HOB
    have HN3 := hid hn3; clear hn3
    have HT3 := hid (HTQ.out.grown HB2.out hs0)
    clear HB2 HL2L HTQ
    go_wp2
    go_loopg [7] (R / M) (fun g v7 wx => ∃ (va : Value) (t rr : Nat), va = v7 ∧ t + g = R / M ∧ rr + M * t = R ∧ DecAt wx va rr ∧ va.ownBlock ≠ some B ∧ DAt B B w (q.set i t) wx)
    case atStart =>
     refine ⟨_, 0, R, rfl, by omega, by omega, HN3.out, HOB3.out, ?_⟩
     have hz : q.set i 0 = q := set_zero HQI.out (HZQ.out i (Nat.lt_succ_self i))
     rw [hz]; exact HT3.out
    case round =>
     clear HN3 HOB3 HT3
     obtain ⟨va, t, rr, rfl, ht, hrr, hd7, ho7, hta⟩ := hrel
     have HD7 := hid hd7; clear hd7
     have HO7 := hid ho7; clear ho7
     have HTA := hid hta; clear hta
     have HRR := hid hrr; clear hrr
     have hlrr : (digs 10 rr).length ≤ 1000000000 := by
      have h1 := digs_len_mono ten2 (show rr ≤ R by have := HRR.out; omega)
      have := HLR.out; omega
     have HLRR := hid hlrr; clear hlrr
     have hs0 : B ≤ wr.heap.size := by have := HTA.out.below.size; rw [HB.out] at this; exact this
     go_wp2_with fail
     refine (dcompare_any _ vM rr M wr HD7.out (H2.out.below (by rw [HB.out]; exact HTA.out.below)) HLRR.out HLM.out).mono ?_
     rintro e w4 ⟨rfl, nq, rfl⟩
     by_cases hge2 : M ≤ rr
     ·have hcb : decide ((0 : Int) ≤ cmpN rr M) = true := decide_eq_true (by unfold cmpN; rw [if_neg (by omega)]; split <;> omega)
      have htk : t + 1 ≤ R / M := by
       rw [Nat.le_div_iff_mul_le (Nat.pos_of_ne_zero HM.out), Nat.add_mul, Nat.one_mul, Nat.mul_comm t M]
       have := HRR.out; omega
      go_wp2_with fail
      refine (dless_any _ vM rr M (wr.drewN nq) (HD7.out.drewN nq) ((H2.out.below (by rw [HB.out]; exact HTA.out.below)).drewN nq) hge2 HLRR.out).mono ?_
      rintro e w5 ⟨v5, rfl, hd5, ho5, hb5⟩
      have HT5 : Hid (DAt B B w (q.set i t) w5) := (⟨HTA.out.block, below_drewN HTA.out.below nq⟩ : DAt B B w (q.set i t) (wr.drewN nq)).grown hb5 hs0
      have HO5 : Hid (v5.ownBlock ≠ some B) := by
       intro e
       have h3 := ho5 B e
       have h4 := heap_lt (Classical.choose_spec HTA.out.block).1
       simp at h3
       omega
      have HD5 := hid hd5
      have HGE := hid hge2
      clear hd5 ho5 hb5 hge2
      have hqi2 : i < (q.set i t).length := by rw [List.length_set]; exact HQI.out
      obtain ⟨hcell, hfro⟩ := HT5.out.cell i hqi2
      rw [getD_set_eq HQI.out] at hcell
      have hset := HT5.out.set (Nat.le_refl _) i (t + 1)
      rw [List.set_set, show ((t + 1 : Nat) : Int) = (t : Int) + 1 by omega] at hset
      have HSET := hid hset; clear hset
      have HDS : Hid (DecAt (w5.setCell ⟨B, i, none⟩ (.int .i64 ((t : Int) + 1))) v5 (rr - M)) := DigsAt.setCell HD5.out B i _ HO5.out
      have HLT : Hid (R / M < 10) := HQLT.out
      have ht9 : t < 10 := by have := HLT.out; omega
      clear hqi2
      go_wp2
      go_roundg (gk - 1)
      case measure => omega
      case rel => exact ⟨_, t + 1, rr - M, rfl, by omega, by have := HRR.out; have := HGE.out; rw [Nat.mul_add]; omega, HDS.out, HO5.out, HSET.out⟩
     ·have hcb : decide ((0 : Int) ≤ cmpN rr M) = false := decide_eq_false (by unfold cmpN; rw [if_pos (by omega)]; omega)
      have hte : t = R / M ∧ rr = R % M := by
       have h1 := HRR.out
       have h2 : R / M = t := by
        rw [← h1, Nat.add_mul_div_left _ _ (Nat.pos_of_ne_zero HM.out), Nat.div_eq_of_lt (by omega)]; omega
       have h3 : R % M = rr := by
        rw [← h1, Nat.add_mul_mod_self_left, Nat.mod_eq_of_lt (by omega)]
       exact ⟨h2.symm, h3.symm⟩
      obtain ⟨ht1, ht2⟩ := hte
      have HTE : Hid (DAt B B w (q.set i (R / M)) (wr.drewN nq)) := by rw [← ht1]; exact ⟨HTA.out.block, below_drewN HTA.out.below nq⟩
      have HDE : Hid (DecAt (wr.drewN nq) va (R % M)) := by rw [← ht2]; exact HD7.out.drewN nq
      clear ht ht1 ht2 hge2
      go_wp2
      go_roundg gkO
      case measure => have := HGK.out; omega
      case rel => exact ⟨i, _, R % M, by have := HGK.out; omega, by omega, by go_num, HDI2.out, fun k hk => by rw [dgetD_set_ne (by omega)]; exact HZQ.out k (by omega), HDE.out, HTE.out⟩
end Num
end Go.Proofs.YtjcdeeahjkfmoaaGreatDoor
