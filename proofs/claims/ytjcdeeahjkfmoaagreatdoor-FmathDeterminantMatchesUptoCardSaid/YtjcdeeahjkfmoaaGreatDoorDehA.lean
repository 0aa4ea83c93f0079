/- Contracts of the program's functions, joined from smaller texts. Conditions stand at each theorem. -/
import Derived.Test.YtjcdeeahjkfmoaaGreatDoorDebB
set_option linter.unusedVariables false
set_option linter.unusedSimpArgs false
namespace Go.Proofs.YtjcdeeahjkfmoaaGreatDoor.Num
open Go.RowKit Go.Lib
theorem wp_region_facts_abs_d {P : Program} {ops : Array Oper} {Q : Exit → Act → World → Prop} {id : Nat} {a0 : Act} {w W0 : World} {row : Option Nat} (m f n : Nat) (rem : List Nat) (ks : List RK) (slots : List (Option Nat)) (outs : List (Nat × Value)) (size : Nat)
  (hm : P.follows .mixedOrders = true) (hb : backB ops = true) (ht : ((List.range ops.size).all fun i => decide (i < m) || (List.range m).all fun j => ndOf ops i j) = true) (hn : ops.size = n) (hf : n - m = f) (hmn : m ≤ n) (hrem : (List.range n).drop m = rem)
  (hso : slotsOk slots size (outs.map (·.1)) = true) (hsl : slots.length = n) (hkl : n ≤ ks.length) (hsz : a0.tmps.size = size) (hout : ∀ (k : Nat) (x : Nat × Value), outs[k]? = some x → a0.tmps[x.1]? = some x.2)
  (vs0 : List Value) (h00 : putO a0 slots vs0 = a0) (hF0 : Fs (ndOf ops) n ks w row (Array.replicate n false) vs0 W0.drew)
  (hstep : ∀ A listed vs W, Fs (ndOf ops) n ks w row listed vs W → Reads A slots vs outs → A.defers = a0.defers → ∀ i, i < m → listed.getD i true = false → (∀ j, ndOf ops i j = true → listed.getD j false = true) → wpOp P ops Q i (fun a' W' => ∃ v, Fs (ndOf ops) n ks w row (listed.setIfInBounds i true) (vs.set i v) W' ∧ a' = putI A slots i v) A W)
  (hdone : ∀ listed vs W, Fs (ndOf ops) n ks w row listed vs W → (∀ j, j < m → listed.getD j false = true) → restOps P ops Q f rem (putO a0 slots vs) W) : (Code.region id ops true).wp P Q a0 W0 := by
 refine wp_region_facts_tail m f n rem ks slots hm hb ht hn hf hmn hrem vs0 h00 hF0 ?_ hdone
 intro listed vs W hF i hi hun hpre
 refine wpOp_mono (fun a' W' h => ?_) (hstep (putO a0 slots vs) listed vs W hF (reads_of hso hsz hout) rfl i hi hun hpre)
 obtain ⟨v, hF', ha⟩ := h
 refine ⟨v, hF', ha.trans (putI_is ?_ ?_ ?_ v)⟩
 ·unfold slotsOk at hso
  rw [Bool.and_eq_true, Bool.and_eq_true] at hso
  exact hso.1.1
 ·rw [hF.len]; omega
 ·rw [hsl]; omega
end Go.Proofs.YtjcdeeahjkfmoaaGreatDoor.Num
