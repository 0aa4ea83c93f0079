/- Contracts of the program's functions, joined from smaller texts. Conditions stand at each theorem. -/
import Derived.Test.YtjcdeeahjkfmoaaGreatDoorDebA
set_option linter.unusedVariables false
set_option linter.unusedSimpArgs false
namespace Go.Proofs.YtjcdeeahjkfmoaaGreatDoor
namespace Num
open Go.RowKit Go.Lib
def restOps (P : Program) (ops : Array Oper) (Q : Exit → Act → World → Prop) : Nat → List Nat → Act → World → Prop
 | 0, _, a, w => Q .normal a w
 | f + 1, rem, a, w => ∀ i ∈ rem, (∀ j ∈ rem, ndOf ops i j = false) → wpOp P ops Q i (fun a' w' => restOps P ops Q f (rem.erase i) a' w') a w
theorem bit_ne {listed : Array Bool} {i j : Nat} (h : i ≠ j) : (listed.setIfInBounds i true).getD j false = listed.getD j false := by rw [getD_set_ne false h]
theorem bit_in {listed : Array Bool} {i : Nat} (h : i < listed.size) : (listed.setIfInBounds i true).getD i false = true := by simp [h]
theorem range_from {m n i : Nat} : i ∈ (List.range n).drop m ↔ m ≤ i ∧ i < n := by
 rw [List.range_eq_range', List.drop_range', List.mem_range'_1]
 omega
theorem wp_region_rest {P : Program} {ops : Array Oper} {Q : Exit → Act → World → Prop} {id : Nat} {a0 : Act} {w : World} (m : Nat) (J : Array Bool → Act → World → Prop) (hm : P.follows .mixedOrders = true) (hb : backB ops = true) (hmn : m ≤ ops.size)
  (ht : ((List.range ops.size).all fun i => decide (i < m) || (List.range m).all fun j => ndOf ops i j) = true)
  (h0 : J (Array.replicate ops.size false) a0 w.drew)
  (hstep : ∀ listed a W, J listed a W → ∀ i, i < m → listed.getD i true = false → (∀ j, ndOf ops i j = true → listed.getD j false = true) → wpOp P ops Q i (fun a' W' => J (listed.setIfInBounds i true) a' W') a W)
  (hmid : ∀ listed a W, J listed a W → (∀ j, j < m → listed.getD j false = true) → restOps P ops Q (ops.size - m) ((List.range ops.size).drop m) a W) : (Code.region id ops true).wp P Q a0 w := by
 refine wp_region_inv hm (fun listed a W => listed.size = ops.size ∧ ((∀ i, m ≤ i → i < ops.size → listed.getD i false = false) ∧ J listed a W ∨ ∃ rem : List Nat, rem.Nodup ∧ (∀ i, i < ops.size → (listed.getD i false = false ↔ i ∈ rem)) ∧ (∀ i ∈ rem, i < ops.size) ∧ restOps P ops Q rem.length rem a W)) ⟨by simp, .inl ⟨fun i _ _ => by simp [Array.getD, Array.getElem_replicate], h0⟩⟩ ?_ ?_
 ·rintro listed a W ⟨hsz, hI⟩ i o ho hun hpre0
  have hi : i < ops.size := (Array.getElem?_eq_some_iff.1 ho).1
  have hil : i < listed.size := by omega
  have hoffi : listed.getD i false = false := by simp [hil] at hun ⊢; exact hun
  have hpre : ∀ j, ndOf ops i j = true → listed.getD j false = true := by
   intro j hj
   unfold ndOf needs at hj
   rw [ho] at hj
   simp only [List.contains_iff_mem, List.mem_map, List.mem_filter, Array.mem_toList_iff] at hj
   obtain ⟨e, ⟨he, hbd⟩, rfl⟩ := hj
   exact hpre0 e he hbd
  have go : ∀ rem : List Nat, rem.Nodup → (∀ k, k < ops.size → (listed.getD k false = false ↔ k ∈ rem)) → (∀ k ∈ rem, k < ops.size) → restOps P ops Q rem.length rem a W → wpOp P ops Q i (fun a' W' => (listed.setIfInBounds i true).size = ops.size ∧ ((∀ j, m ≤ j → j < ops.size → (listed.setIfInBounds i true).getD j false = false) ∧ J (listed.setIfInBounds i true) a' W' ∨ ∃ rem : List Nat, rem.Nodup ∧ (∀ k, k < ops.size → ((listed.setIfInBounds i true).getD k false = false ↔ k ∈ rem)) ∧ (∀ k ∈ rem, k < ops.size) ∧ restOps P ops Q rem.length rem a' W')) a W := by
   intro rem hnd hiff hlt hs
   have him := (hiff i hi).1 hoffi
   obtain ⟨f, hf⟩ : ∃ f, rem.length = f + 1 := ⟨rem.length - 1, by have := List.length_pos_of_mem him; omega⟩
   rw [hf] at hs
   refine wpOp_mono (fun a' W' h => ⟨by simpa using hsz, .inr ⟨rem.erase i, hnd.erase i, fun k hk => ?_, fun k hk => hlt k (List.mem_of_mem_erase hk), ?_⟩⟩) (hs i him fun j hj => ?_)
   ·by_cases e : i = k
    ·subst e
     rw [bit_in hil]
     exact ⟨fun h => (by cases h), fun h => absurd h (hnd.not_mem_erase)⟩
    ·rw [bit_ne e, hiff k hk]
     exact (List.mem_erase_of_ne (fun h => e h.symm)).symm
   ·rw [List.length_erase_of_mem him, hf, Nat.add_sub_cancel]; exact h
   ·cases hn : ndOf ops i j with
    | false => rfl
    | true =>
     have h1 := hpre j hn
     rw [(hiff j (hlt j hj)).2 hj] at h1
     cases h1
  rcases hI with ⟨hoff, hJ⟩ | ⟨rem, hnd, hiff, hlt, hs⟩
  ·rcases Nat.lt_or_ge i m with h | h
   ·exact wpOp_mono (fun a' W' hJ' => ⟨by simpa using hsz, .inl ⟨fun j h1 h2 => by rw [bit_ne (by omega)]; exact hoff j h1 h2, hJ'⟩⟩) (hstep listed a W hJ i h hun hpre)
   ·have hall : ∀ j, j < m → listed.getD j false = true := fun j hj => hpre j (by
     have h1 := List.all_eq_true.1 ht i (List.mem_range.2 hi)
     rw [Bool.or_eq_true] at h1
     rcases h1 with h1 | h1
     ·have := of_decide_eq_true h1; omega
     ·exact List.all_eq_true.1 h1 j (List.mem_range.2 hj))
    refine go ((List.range ops.size).drop m) (List.nodup_range.sublist (List.drop_sublist _ _)) (fun k hk => ?_) (fun k hk => (range_from.1 hk).2) ?_
    ·constructor
     ·intro hk0
      refine range_from.2 ⟨?_, hk⟩
      rcases Nat.lt_or_ge k m with h2 | h2
      ·rw [hall k h2] at hk0; cases hk0
      ·exact h2
     ·intro hk0
      exact hoff k (range_from.1 hk0).1 hk
    ·rw [List.length_drop, List.length_range]
     exact hmid listed a W hJ hall
  ·exact go rem hnd hiff hlt hs
 ·rintro listed a W ⟨hsz, hI⟩ hr
  have hall := all_listed hsz hb hr
  rcases hI with ⟨hoff, hJ⟩ | ⟨rem, hnd, hiff, hlt, hs⟩
  ·have e : m = ops.size := by
    rcases Nat.lt_or_ge m ops.size with h | h
    ·have := hoff m (Nat.le_refl _) h
     rw [hall m h] at this
     cases this
    ·omega
   have := hmid listed a W hJ (fun j hj => hall j (by omega))
   rw [e, Nat.sub_self] at this
   exact this
  ·have e : rem = [] := by
    cases rem with
    | nil => rfl
    | cons k r =>
     have h1 := hall k (hlt k List.mem_cons_self)
     rw [(hiff k (hlt k List.mem_cons_self)).2 List.mem_cons_self] at h1
     cases h1
   subst e
   exact hs
theorem wp_region_facts_tail {P : Program} {ops : Array Oper} {Q : Exit → Act → World → Prop} {id : Nat} {a0 : Act} {w W0 : World} {row : Option Nat} (m f n : Nat) (rem : List Nat) (ks : List RK) (slots : List (Option Nat)) (hm : P.follows .mixedOrders = true) (hb : backB ops = true) (ht : ((List.range ops.size).all fun i => decide (i < m) || (List.range m).all fun j => ndOf ops i j) = true) (hn : ops.size = n) (hf : n - m = f) (hmn : m ≤ n) (hrem : (List.range n).drop m = rem)
  (vs0 : List Value) (h00 : putO a0 slots vs0 = a0) (hF0 : Fs (ndOf ops) n ks w row (Array.replicate n false) vs0 W0.drew)
  (hstep : ∀ listed vs W, Fs (ndOf ops) n ks w row listed vs W → ∀ i, i < m → listed.getD i true = false → (∀ j, ndOf ops i j = true → listed.getD j false = true) → wpOp P ops Q i (fun a' W' => ∃ v, Fs (ndOf ops) n ks w row (listed.setIfInBounds i true) (vs.set i v) W' ∧ a' = putO a0 slots (vs.set i v)) (putO a0 slots vs) W)
  (hdone : ∀ listed vs W, Fs (ndOf ops) n ks w row listed vs W → (∀ j, j < m → listed.getD j false = true) → restOps P ops Q f rem (putO a0 slots vs) W) : (Code.region id ops true).wp P Q a0 W0 := by
 refine wp_region_rest m (fun listed a W => ∃ vs, Fs (ndOf ops) n ks w row listed vs W ∧ a = putO a0 slots vs) hm hb (by omega) ht ⟨vs0, by rw [hn]; exact hF0, h00.symm⟩ ?_ ?_
 ·rintro listed a W ⟨vs, hF, rfl⟩ i hi hun hpre
  refine wpOp_mono (fun a' w' h => ?_) (hstep listed vs W hF i hi hun hpre)
  obtain ⟨v, hF', rfl⟩ := h
  exact ⟨_, hF', rfl⟩
 ·rintro listed a W ⟨vs, hF, rfl⟩ hall
  rw [hn, hf, hrem]
  exact hdone listed vs W hF hall
section
variable {P : Program} {ops : Array Oper} {Q : Exit → Act → World → Prop} {f i j : Nat} {rem remi remj : List Nat} {a : Act} {w : World}
theorem rest_one (i : Nat) (o : Oper) (ho : ops[i]? = some o) (hr : (rem.all fun k => k == i || rem.any fun j => ndOf ops k j) = true) (he : rem.erase i = remi)
  (h : ∀ K' : Act → World → Prop, Shut (∀ a w, restOps P ops Q f remi a w → K' a w) → if Region.wanted o (yielded ops a.tmps) = true then Oper.wp P o a w K' Q else K' (a.put o.dst undef) w) : restOps P ops Q (f + 1) rem a w := by
 subst he
 intro k hk hready
 have h1 := List.all_eq_true.1 hr k hk
 rw [Bool.or_eq_true] at h1
 rcases h1 with h1 | h1
 ·rw [beq_iff_eq] at h1
  subst h1
  exact step_of o ho h
 ·obtain ⟨j, hj, hn⟩ := List.any_eq_true.1 h1
  rw [hready j hj] at hn
  cases hn
theorem rest_end (h : Q .normal a w) : restOps P ops Q 0 rem a w := h
end
end Num
namespace Num
open Go.RowKit Go.Lib
def distO : List (Option Nat) → Bool
 | [] => true
 | none :: r => distO r
 | some d :: r => !r.contains (some d) && distO r
theorem layT_out : ∀ (sl : List (Option Nat)) (vs : List Value) (t : Array Value) (d : Nat), sl.contains (some d) = false → (layT sl vs t)[d]? = t[d]?
 | [], vs, t, d, _ => by rw [layT_nil]
 | none :: sl, [], t, d, _ => rfl
 | some e :: sl, [], t, d, _ => rfl
 | none :: sl, v :: vs, t, d, h => by
  rw [layT_none]
  exact layT_out sl vs t d (by simpa using h)
 | some e :: sl, v :: vs, t, d, h => by
  have h2 : d ≠ e ∧ sl.contains (some d) = false := by simpa using h
  rw [layT_some, layT_out sl vs _ d h2.2, Array.getElem?_setIfInBounds_ne (Ne.symm h2.1)]
theorem layT_in : ∀ (sl : List (Option Nat)) (vs : List Value) (t : Array Value) (i d : Nat) (v : Value), distO sl = true → sl[i]? = some (some d) → vs[i]? = some v → d < t.size → (layT sl vs t)[d]? = some v
 | [], _, _, i, _, _, _, h, _, _ => by simp at h
 | _ :: _, [], _, i, _, _, _, _, h, _ => by simp at h
 | none :: sl, u :: vs, t, 0, d, v, _, h, _, _ => by simp at h
 | none :: sl, u :: vs, t, i + 1, d, v, hd, h, hv, ht => by
  rw [layT_none]
  exact layT_in sl vs t i d v hd (by simpa using h) (by simpa using hv) ht
 | some e :: sl, u :: vs, t, 0, d, v, hd, h, hv, ht => by
  have h1 : e = d := by simpa using h
  have h2 : u = v := by simpa using hv
  subst h1
  subst h2
  have hd : (!sl.contains (some e) && distO sl) = true := hd
  rw [Bool.and_eq_true, Bool.not_eq_true'] at hd
  rw [layT_some, layT_out sl vs _ e hd.1, Array.getElem?_setIfInBounds_self_of_lt ht]
 | some e :: sl, u :: vs, t, i + 1, d, v, hd, h, hv, ht => by
  have hd : (!sl.contains (some e) && distO sl) = true := hd
  rw [Bool.and_eq_true] at hd
  rw [layT_some]
  exact layT_in sl vs _ i d v hd.2 (by simpa using h) (by simpa using hv) (by simpa using ht)
theorem layT_comm : ∀ (sl : List (Option Nat)) (vs : List Value) (t : Array Value) (d : Nat) (v : Value), sl.contains (some d) = false → (layT sl vs t).setIfInBounds d v = layT sl vs (t.setIfInBounds d v)
 | [], vs, t, d, v, _ => by rw [layT_nil, layT_nil]
 | none :: sl, [], t, d, v, _ => rfl
 | some e :: sl, [], t, d, v, _ => rfl
 | none :: sl, u :: vs, t, d, v, h => by
  rw [layT_none, layT_none]
  exact layT_comm sl vs t d v (by simpa using h)
 | some e :: sl, u :: vs, t, d, v, h => by
  have h2 : d ≠ e ∧ sl.contains (some d) = false := by simpa using h
  rw [layT_some, layT_some, layT_comm sl vs _ d v h2.2, Array.setIfInBounds_comm _ _ (Ne.symm h2.1)]
theorem layT_put : ∀ (sl : List (Option Nat)) (vs : List Value) (t : Array Value) (i d : Nat) (v : Value), distO sl = true → sl[i]? = some (some d) → i < vs.length → (layT sl vs t).setIfInBounds d v = layT sl (vs.set i v) t
 | [], _, _, i, _, _, _, h, _ => by simp at h
 | _ :: _, [], _, i, _, _, _, _, h => by simp at h
 | none :: sl, u :: vs, t, 0, d, v, _, h, _ => by simp at h
 | none :: sl, u :: vs, t, i + 1, d, v, hd, h, hv => by
  rw [layT_none, List.set_cons_succ, layT_none]
  exact layT_put sl vs t i d v hd (by simpa using h) (by simpa using hv)
 | some e :: sl, u :: vs, t, 0, d, v, hd, h, hv => by
  have h1 : e = d := by simpa using h
  subst h1
  have hd : (!sl.contains (some e) && distO sl) = true := hd
  rw [Bool.and_eq_true, Bool.not_eq_true'] at hd
  rw [layT_some, List.set_cons_zero, layT_some, layT_comm sl vs _ e v hd.1]
  simp
 | some e :: sl, u :: vs, t, i + 1, d, v, hd, h, hv => by
  have hd : (!sl.contains (some e) && distO sl) = true := hd
  rw [Bool.and_eq_true] at hd
  rw [layT_some, List.set_cons_succ, layT_some]
  exact layT_put sl vs _ i d v hd.2 (by simpa using h) (by simpa using hv)
theorem layT_skip : ∀ (sl : List (Option Nat)) (vs : List Value) (t : Array Value) (i : Nat) (v : Value), sl[i]? = some none → layT sl (vs.set i v) t = layT sl vs t
 | [], _, _, i, _, h => by simp at h
 | _ :: _, [], _, i, _, _ => rfl
 | none :: sl, u :: vs, t, 0, v, _ => rfl
 | some e :: sl, u :: vs, t, 0, v, h => by simp at h
 | none :: sl, u :: vs, t, i + 1, v, h => by
  rw [layT_none, List.set_cons_succ, layT_none]
  exact layT_skip sl vs t i v (by simpa using h)
 | some e :: sl, u :: vs, t, i + 1, v, h => by
  rw [layT_some, List.set_cons_succ, layT_some]
  exact layT_skip sl vs _ i v (by simpa using h)
def putI (A : Act) (sl : List (Option Nat)) (i : Nat) (v : Value) : Act :=
 match sl[i]? with
 | some (some d) => { A with tmps := A.tmps.setIfInBounds d v }
 | _ => A
theorem putI_is {a0 : Act} {sl : List (Option Nat)} {vs : List Value} {i : Nat} (hd : distO sl = true) (hi : i < vs.length) (hs : i < sl.length) (v : Value) : putI (putO a0 sl vs) sl i v = putO a0 sl (vs.set i v) := by
 unfold putI
 obtain ⟨x, hx⟩ : ∃ x, sl[i]? = some x := ⟨sl[i], List.getElem?_eq_getElem hs⟩
 rw [hx]
 cases x with
 | none =>
  show putO a0 sl vs = putO a0 sl (vs.set i v)
  unfold putO
  rw [layT_skip sl vs _ i v hx]
 | some d =>
  show ({ putO a0 sl vs with tmps := (putO a0 sl vs).tmps.setIfInBounds d v } : Act) = putO a0 sl (vs.set i v)
  unfold putO
  simp only []
  rw [layT_put sl vs _ i d v hd hx hi]
structure Reads (A : Act) (sl : List (Option Nat)) (vs : List Value) (outs : List (Nat × Value)) : Prop where
 own : ∀ (i d : Nat) (v : Value), sl[i]? = some (some d) → vs[i]? = some v → A.tmps[d]? = some v
 out : ∀ (k : Nat) (x : Nat × Value), outs[k]? = some x → A.tmps[x.1]? = some x.2
def slotsOk (sl : List (Option Nat)) (size : Nat) (outs : List Nat) : Bool :=
 distO sl && (sl.all fun | some d => decide (d < size) | none => true) && outs.all fun d => !sl.contains (some d)
theorem reads_of {a0 : Act} {sl : List (Option Nat)} {vs : List Value} {outs : List (Nat × Value)} {size : Nat} (ok : slotsOk sl size (outs.map (·.1)) = true) (hsz : a0.tmps.size = size) (ho : ∀ (k : Nat) (x : Nat × Value), outs[k]? = some x → a0.tmps[x.1]? = some x.2) : Reads (putO a0 sl vs) sl vs outs := by
 unfold slotsOk at ok
 rw [Bool.and_eq_true, Bool.and_eq_true] at ok
 obtain ⟨⟨h1, h2⟩, h3⟩ := ok
 refine ⟨fun i d v hs hv => layT_in sl vs _ i d v h1 hs hv ?_, fun k x hk => ?_⟩
 ·have := List.all_eq_true.1 h2 (some d) (List.mem_of_getElem? hs)
  simp only [decide_eq_true_eq] at this
  rw [hsz]; exact this
 ·have hm : x.1 ∈ outs.map (·.1) := List.mem_map.2 ⟨x, List.mem_of_getElem? hk, rfl⟩
  have := List.all_eq_true.1 h3 x.1 hm
  rw [Bool.not_eq_true'] at this
  show (layT sl vs a0.tmps)[x.1]? = some x.2
  rw [layT_out sl vs _ x.1 this]
  exact ho k x hk
theorem wp_region_facts_abs {P : Program} {ops : Array Oper} {Q : Exit → Act → World → Prop} {id : Nat} {a0 : Act} {w W0 : World} {row : Option Nat} (m f n : Nat) (rem : List Nat) (ks : List RK) (slots : List (Option Nat)) (outs : List (Nat × Value)) (size : Nat)
  (hm : P.follows .mixedOrders = true) (hb : backB ops = true) (ht : ((List.range ops.size).all fun i => decide (i < m) || (List.range m).all fun j => ndOf ops i j) = true) (hn : ops.size = n) (hf : n - m = f) (hmn : m ≤ n) (hrem : (List.range n).drop m = rem)
  (hso : slotsOk slots size (outs.map (·.1)) = true) (hsl : slots.length = n) (hkl : n ≤ ks.length) (hsz : a0.tmps.size = size) (hout : ∀ (k : Nat) (x : Nat × Value), outs[k]? = some x → a0.tmps[x.1]? = some x.2)
  (vs0 : List Value) (h00 : putO a0 slots vs0 = a0) (hF0 : Fs (ndOf ops) n ks w row (Array.replicate n false) vs0 W0.drew)
  (hstep : ∀ A listed vs W, Fs (ndOf ops) n ks w row listed vs W → Reads A slots vs outs → ∀ i, i < m → listed.getD i true = false → (∀ j, ndOf ops i j = true → listed.getD j false = true) → wpOp P ops Q i (fun a' W' => ∃ v, Fs (ndOf ops) n ks w row (listed.setIfInBounds i true) (vs.set i v) W' ∧ a' = putI A slots i v) A W)
  (hdone : ∀ listed vs W, Fs (ndOf ops) n ks w row listed vs W → (∀ j, j < m → listed.getD j false = true) → restOps P ops Q f rem (putO a0 slots vs) W) : (Code.region id ops true).wp P Q a0 W0 := by
 refine wp_region_facts_tail m f n rem ks slots hm hb ht hn hf hmn hrem vs0 h00 hF0 ?_ hdone
 intro listed vs W hF i hi hun hpre
 refine wpOp_mono (fun a' W' h => ?_) (hstep (putO a0 slots vs) listed vs W hF (reads_of hso hsz hout) i hi hun hpre)
 obtain ⟨v, hF', ha⟩ := h
 refine ⟨v, hF', ha.trans (putI_is ?_ ?_ ?_ v)⟩
 ·unfold slotsOk at hso
  rw [Bool.and_eq_true, Bool.and_eq_true] at hso
  exact hso.1.1
 ·rw [hF.len]; omega
 ·rw [hsl]; omega
end Num
namespace Num
open Go.RowKit Go.Lib Num
theorem eqi {i k : Nat} (h : i < k + 1) (g : k ≤ i) : i = k := Nat.le_antisymm (Nat.le_of_lt_succ h) g
set_option linter.defProp false in
def layL := And.intro @layT_some (And.intro @layT_none (And.intro @layT_nil (And.intro (@List.setIfInBounds_toArray Value) (And.intro (@List.set_cons_zero Value) (@List.set_cons_succ Value)))))
def Bel (w W : World) : Prop := Below w.heap.size w W
theorem Bel.step {w W W' : World} (h : Bel w W) (hb : Below W.heap.size W W') : Bel w W' := h.trans (hb.mono h.size)
end Num
end Go.Proofs.YtjcdeeahjkfmoaaGreatDoor
