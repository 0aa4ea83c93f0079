/- Numbers as texts of digits, fractions, values and the functions of fmath: contracts of the program's functions, joined from smaller texts. Conditions stand at each theorem. -/
import Derived.OrdersHeld
import Derived.Deep.RegionHeld3
import Derived.Test.YtcbolipiaflfbaaGreatDoorNumH
import Derived.Test.YtcbolipiaflfbaaGreatDoorRows
import Derived.ProofKit
import Derived.SevenTiedAt
import Derived.Test.YtcbolipiaflfbaaGreatDoorNumG
import Derived.Test.YtcbolipiaflfbaaGreatDoorNumE

/- A region that draws its order, by one condition on what has come up, the frame and the world: each operation is walked once. Plain: of no program. -/
namespace Go.Proofs.YtcbolipiaflfbaaGreatDoor.Num

section
variable {P : Program} {ops : Array Oper} {Q : Exit → Act → World → Prop} {md : Region.Mode}

def unl (ops : Array Oper) (listed : Array Bool) : List Nat := (List.range ops.size).filter fun j => !(listed.getD j true)
theorem unl_set {listed : Array Bool} {i : Nat} (hi : i < ops.size) (hun : listed.getD i true = false) : (unl ops (listed.setIfInBounds i true)).length < (unl ops listed).length := by
  have hsz : i < listed.size := by
    rcases Nat.lt_or_ge i listed.size with h | h
    · exact h
    · simp [Array.getElem?_eq_none h] at hun
  have e : unl ops (listed.setIfInBounds i true) = (unl ops listed).filter fun j => !(j == i) := by
    unfold unl
    rw [List.filter_filter]
    apply List.filter_congr
    intro j hj
    by_cases hji : i = j
    · subst hji; simp [hsz]
    · have : (j == i) = false := by simp; omega
      rw [getD_set_ne true hji, this]; simp
  rw [e, List.length_filter_lt_length_iff_exists]
  refine ⟨i, ?_, by simp⟩
  unfold unl
  rw [List.mem_filter, List.mem_range]
  exact ⟨hi, by rw [hun]; rfl⟩
theorem unl_ready {listed : Array Bool} {i : Nat} (h : i ∈ Region.ready md ops listed) : 0 < (unl ops listed).length := by
  obtain ⟨h0, o, ho, _⟩ := mem_ready.1 h
  have hi : i < ops.size := (Array.getElem?_eq_some_iff.1 ho).1
  refine List.length_pos_of_mem (a := i) ?_
  unfold unl
  rw [List.mem_filter, List.mem_range]
  exact ⟨hi, by rw [h0]; rfl⟩

theorem wpAny_inv (I : Array Bool → Act → World → Prop)
    (hstep : ∀ listed a w, I listed a w → ∀ i o, ops[i]? = some o → listed.getD i true = false → (∀ e ∈ o.after, Region.binds md e = true → listed.getD e.on false = true) → wpOp P ops Q i (fun a' w' => I (listed.setIfInBounds i true) a' w') a w)
    (hdone : ∀ listed a w, I listed a w → Region.ready md ops listed = [] → Q .normal a w) :
    ∀ fuel listed a w, (unl ops listed).length ≤ fuel → I listed a w → wpAny P md ops Q fuel listed a w := by
  intro fuel
  induction fuel with
  | zero =>
    intro listed a w hu hI
    have hr : Region.ready md ops listed = [] := by
      cases hr : Region.ready md ops listed with
      | nil => rfl
      | cons i r => have := unl_ready (md := md) (ops := ops) (listed := listed) (i := i) (by rw [hr]; simp); omega
    exact ⟨hr, hdone listed a w hI hr⟩
  | succ n ih =>
    intro listed a w hu hI
    refine ⟨fun hr => hdone listed a w hI hr, fun i hi => ?_⟩
    obtain ⟨h0, o, ho, hall⟩ := mem_ready.1 hi
    refine wpOp_mono (fun a' w' h => ih _ a' w' ?_ h) (hstep listed a w hI i o ho h0 hall)
    have := unl_set (ops := ops) (Array.getElem?_eq_some_iff.1 ho).1 h0
    omega

theorem wp_region_inv {id : Nat} {a : Act} {w : World} (hm : P.follows .mixedOrders = true) (I : Array Bool → Act → World → Prop)
    (h0 : I (Array.replicate ops.size false) a w.drew)
    (hstep : ∀ listed a w, I listed a w → ∀ i o, ops[i]? = some o → listed.getD i true = false → (∀ e ∈ o.after, Region.binds .any e = true → listed.getD e.on false = true) → wpOp P ops Q i (fun a' w' => I (listed.setIfInBounds i true) a' w') a w)
    (hdone : ∀ listed a w, I listed a w → Region.ready .any ops listed = [] → Q .normal a w) : (Code.region id ops true).wp P Q a w :=
  wp_region_any hm (wpAny_inv I hstep hdone _ _ _ _ (by
    unfold unl
    refine Nat.le_trans (List.length_filter_le _ _) ?_
    rw [List.length_range]; exact Nat.le_refl _) h0)

/-- the operations that number i waits for -/
def needs (md : Region.Mode) (ops : Array Oper) (i : Nat) : List Nat :=
  match ops[i]? with
  | some o => (o.after.toList.filter fun e => Region.binds md e).map (·.on)
  | none => []
/-- every edge leads back -/
def backB (ops : Array Oper) : Bool := (List.range ops.size).all fun i => match ops[i]? with
  | some o => o.after.toList.all fun e => !Region.binds .any e || decide (e.on < i)
  | none => true
theorem all_listed {listed : Array Bool} (hsz : listed.size = ops.size) (hb : backB ops = true) (hr : Region.ready .any ops listed = []) : ∀ j, j < ops.size → listed.getD j false = true := by
  intro j
  induction j using Nat.strongRecOn with
  | ind j ih =>
    intro hj
    cases hl : listed.getD j false with
    | true => rfl
    | false =>
      have hun : listed.getD j true = false := by
        have hj' : j < listed.size := by omega
        simp [hj'] at hl ⊢
        exact hl
      have ho : ops[j]? = some ops[j] := Array.getElem?_eq_getElem hj
      have hbj := List.all_eq_true.1 hb j (List.mem_range.2 hj)
      rw [ho] at hbj
      have : j ∈ Region.ready .any ops listed := mem_ready.2 ⟨hun, ops[j], ho, fun e he hbd => by
        have h1 := List.all_eq_true.1 hbj e (Array.mem_toList_iff.2 he)
        rw [hbd] at h1
        have := of_decide_eq_true h1
        exact ih e.on this (by omega)⟩
      rw [hr] at this
      cases this

/-- the frame with some slots laid anew -/
def putAll (a : Act) (slots : List Nat) (vs : List Value) : Act := { a with tmps := (slots.zip vs).foldl (fun t x => t.setIfInBounds x.1 x.2) a.tmps }
theorem wp_region_by {id : Nat} {a0 : Act} {w : World} (slots : List Nat) (J : Array Bool → List Value → World → Prop) (hm : P.follows .mixedOrders = true) (hb : backB ops = true)
    (vs0 : List Value) (h00 : putAll a0 slots vs0 = a0) (h0 : J (Array.replicate ops.size false) vs0 w.drew)
    (hstep : ∀ listed vs w, J listed vs w → ∀ i, i < ops.size → listed.getD i true = false → (∀ j, (needs .any ops i).contains j = true → listed.getD j false = true) → wpOp P ops Q i (fun a' w' => ∃ vs', J (listed.setIfInBounds i true) vs' w' ∧ a' = putAll a0 slots vs') (putAll a0 slots vs) w)
    (hdone : ∀ listed vs w, J listed vs w → (∀ j, j < ops.size → listed.getD j false = true) → Q .normal (putAll a0 slots vs) w) : (Code.region id ops true).wp P Q a0 w := by
  refine wp_region_inv hm (fun listed a w => listed.size = ops.size ∧ ∃ vs, J listed vs w ∧ a = putAll a0 slots vs) ⟨by simp, vs0, h0, h00.symm⟩ ?_ ?_
  · rintro listed a w ⟨hsz, vs, hJ, rfl⟩ i o ho hun hpre
    refine wpOp_mono (fun a' w' h => ⟨by simpa using hsz, h⟩) (hstep listed vs w hJ i (Array.getElem?_eq_some_iff.1 ho).1 hun ?_)
    intro j hj
    unfold needs at hj
    rw [ho] at hj
    simp only [List.contains_iff_mem, List.mem_map, List.mem_filter, Array.mem_toList_iff] at hj
    obtain ⟨e, ⟨he, hbd⟩, rfl⟩ := hj
    exact hpre e he hbd
  · rintro listed a w ⟨hsz, vs, hJ, rfl⟩ hr
    exact hdone listed vs w hJ (all_listed hsz hb hr)
theorem step_of {i : Nat} {K : Act → World → Prop} {a : Act} {w : World} (o : Oper) (ho : ops[i]? = some o)
    (h : ∀ K' : Act → World → Prop, Shut (∀ a w, K a w → K' a w) → if Region.wanted o (yielded ops a.tmps) = true then Oper.wp P o a w K' Q else K' (a.put o.dst undef) w) : wpOp P ops Q i K a w :=
  wpOp_step ho (fun K' hK => h K' hK)

theorem bit_mono {listed : Array Bool} {i j : Nat} (h : listed.getD j false = true) : (listed.setIfInBounds i true).getD j false = true := by
  by_cases e : i = j
  · subst e
    have hsz : i < listed.size := by
      rcases Nat.lt_or_ge i listed.size with h' | h'
      · exact h'
      · simp [Array.getElem?_eq_none h'] at h
    simp [hsz]
  · rwa [getD_set_ne false e]
theorem bit_off {listed : Array Bool} {i : Nat} (h : listed.getD i true = false) : ¬ listed.getD i false = true := by
  have hsz : i < listed.size := by
    rcases Nat.lt_or_ge i listed.size with h' | h'
    · exact h'
    · simp [Array.getElem?_eq_none h'] at h
  simp [hsz] at h ⊢
  exact h
theorem bit_none {n i : Nat} : ¬ (Array.replicate n false).getD i false = true := by
  simp [Array.getElem?_replicate]
  split <;> simp
theorem bit_if {listed : Array Bool} {i j : Nat} {α : Type} {x y : α} (h : i ≠ j) : (if (listed.setIfInBounds i true).getD j false then x else y) = if listed.getD j false then x else y := by
  rw [getD_set_ne false h]
theorem bit_set {listed : Array Bool} {i j : Nat} (h : (listed.setIfInBounds i true).getD j false = true) : j = i ∨ listed.getD j false = true := by
  by_cases e : i = j
  · exact .inl e.symm
  · exact .inr (by rwa [getD_set_ne false e] at h)
theorem bit_self {listed : Array Bool} {i : Nat} (h : listed.getD i true = false) : (listed.setIfInBounds i true).getD i false = true := by
  have hsz : i < listed.size := by
    rcases Nat.lt_or_ge i listed.size with h' | h'
    · exact h'
    · simp [Array.getElem?_eq_none h'] at h
  simp [hsz]
end
end Go.Proofs.YtcbolipiaflfbaaGreatDoor.Num

/- A region that draws its order: what each operation yields is said once, each operation is walked once. Plain: of no program. -/
namespace Go.Proofs.YtcbolipiaflfbaaGreatDoor.Num
open Go.RowKit Go.Lib

/-- what an operation yields: a known value; a row of its own; a variable of its own (zero, then what store number st writes); a store; anything that lasts -/
inductive RK where
  | pure (v : Value)
  | row (cs : Array Value) (T : TypeId) (n : Nat)
  | box (g : Option Nat) (z f : Array Value) (T : TypeId) (st : Nat)
  | put (al : Nat)
  | any (R : Value → World → Prop)
def RK.owns : RK → Bool
  | .row .. => true
  | .box .. => true
  | _ => false
def RK.isAny : RK → Bool
  | .any _ => true
  | _ => false
def blkOf : Value → Option Nat
  | .pointer (some p) => some p.block
  | .slice (some p) _ _ => some p.block
  | _ => none
def RK.holds (B : Nat) (listed : Array Bool) (v : Value) (W : World) : RK → Prop
  | .pure c => v = c
  | .row cs T n => ∃ G, v = .slice (some ⟨G, 0, none⟩) n n ∧ B ≤ G ∧ W.heap[G]? = some (.cells cs T (0, 0))
  | .box g z f T st => ∃ G, v = .pointer (some ⟨G, 0, none⟩) ∧ (∀ k, g = some k → G = k) ∧ B ≤ G ∧ W.heap[G]? = some (.cells (if listed.getD st false = true then f else z) T (0, 0))
  | .put _ => True
  | .any R => R v W
def RK.putsB : RK → Nat → Bool
  | .put al, j => al == j
  | _, _ => false
def RK.boxB (n : Nat) (ks : List RK) (j : Nat) : RK → Bool
  | .box _ _ _ _ st => decide (n ≤ st) || match ks[st]? with
    | some k => k.putsB j
    | none => false
  | .put _ => decide (j < n)
  | _ => true
/-- each variable's store is its own; what stands behind the first n are blocks from before -/
def okB (n : Nat) (ks : List RK) : Bool := (List.range ks.length).all fun j => match ks[j]? with
  | some k => k.boxB n ks j
  | none => true
def RK.lasts : RK → Prop
  | .any R => ∀ v W W', R v W → Below W.heap.size W W' → R v W'
  | _ => True

theorem noAny_of {ks : List RK} (h : (ks.all fun k => !k.isAny) = true) : ∀ (i : Nat) (R : Value → World → Prop), ks[i]? ≠ some (.any R) := by
  intro i R hi
  have := List.all_eq_true.1 h _ (List.mem_of_getElem? hi)
  cases this
theorem lasts_of {ks : List RK} (h : ∀ (i : Nat) (R : Value → World → Prop), ks[i]? ≠ some (.any R)) : ∀ (i : Nat) (k : RK), ks[i]? = some k → k.lasts := by
  intro i k hi
  cases k with
  | any R => exact absurd hi (h i R)
  | pure v => trivial
  | row cs T n => trivial
  | box g z f T st => trivial
  | put al => trivial
theorem okB_box {n : Nat} {ks : List RK} (h : okB n ks = true) {j : Nat} {z f : Array Value} {T : TypeId} {st : Nat} {g : Option Nat} (hj : ks[j]? = some (.box g z f T st)) : n ≤ st ∨ ks[st]? = some (.put j) := by
  have hlt := (List.getElem?_eq_some_iff.1 hj).1
  have := List.all_eq_true.1 h j (List.mem_range.2 hlt)
  rw [hj] at this
  have this : (decide (n ≤ st) || match ks[st]? with | some k => k.putsB j | none => false) = true := this
  rw [Bool.or_eq_true] at this
  rcases this with h | this
  · exact .inl (of_decide_eq_true h)
  right
  cases hs : ks[st]? with
  | none => rw [hs] at this; cases this
  | some k =>
    rw [hs] at this
    cases k with
    | put al =>
      have e : (al == j) = true := this
      rw [beq_iff_eq.1 e]
    | pure v => cases this
    | row cs T n => cases this
    | box g z f T st => cases this
    | any R => cases this
theorem okB_put {n : Nat} {ks : List RK} (h : okB n ks = true) {j al : Nat} (hj : ks[j]? = some (.put al)) : j < n := by
  have hlt := (List.getElem?_eq_some_iff.1 hj).1
  have := List.all_eq_true.1 h j (List.mem_range.2 hlt)
  rw [hj] at this
  exact of_decide_eq_true this

/-- it has come up, or it was there before -/
def On (n : Nat) (listed : Array Bool) (i : Nat) : Prop := n ≤ i ∨ listed.getD i false = true
structure Fs (nd : Nat → Nat → Bool) (n : Nat) (ks : List RK) (w : World) (row : Option Nat) (listed : Array Bool) (vs : List Value) (W : World) : Prop where
  lsz : listed.size = n
  len : vs.length = ks.length
  low : w.grownBy W row
  get : ∀ i k, ks[i]? = some k → On n listed i → k.holds w.heap.size listed (vs.getD i undef) W
  ne : ∀ i j ki kj, i ≠ j → ks[i]? = some ki → ks[j]? = some kj → ki.owns = true → kj.owns = true → On n listed i → On n listed j → blkOf (vs.getD i undef) ≠ blkOf (vs.getD j undef)
  puts : ∀ i al, ks[i]? = some (.put al) → listed.getD i false = true → On n listed al
  back : ∀ i j, listed.getD i false = true → nd i j = true → listed.getD j false = true
theorem On.mono {n : Nat} {listed : Array Bool} {i j : Nat} (h : On n listed j) : On n (listed.setIfInBounds i true) j := h.imp id bit_mono
theorem On.of_set {n : Nat} {listed : Array Bool} {i j : Nat} (h : On n (listed.setIfInBounds i true) j) (hne : i ≠ j) : On n listed j := h.imp id fun h => by rwa [getD_set_ne false hne] at h

theorem getD_vset (vs : List Value) (i : Nat) (v d : Value) (hi : i < vs.length) : (vs.set i v).getD i d = v := by
  simp [List.getD, hi]
theorem getD_vset_ne {vs : List Value} {i j : Nat} {v d : Value} (h : i ≠ j) : (vs.set i v).getD j d = vs.getD j d := by
  simp [List.getD, List.getElem?_set_ne h]
theorem RK.blk {k : RK} {B : Nat} {listed : Array Bool} {v : Value} {W : World} (h : k.holds B listed v W) (ho : k.owns = true) : ∃ G, blkOf v = some G ∧ B ≤ G ∧ G < W.heap.size := by
  cases k with
  | row cs T n => obtain ⟨G, rfl, hB, hG⟩ := h; exact ⟨G, rfl, hB, heap_lt hG⟩
  | box g z f T st => obtain ⟨G, rfl, _, hB, hG⟩ := h; exact ⟨G, rfl, hB, heap_lt hG⟩
  | pure v => cases ho
  | put al => cases ho
  | any R => cases ho

theorem back_set {nd : Nat → Nat → Bool} {listed : Array Bool} {i : Nat} (h : ∀ i j, listed.getD i false = true → nd i j = true → listed.getD j false = true) (hpre : ∀ j, nd i j = true → listed.getD j false = true) :
    ∀ a b, (listed.setIfInBounds i true).getD a false = true → nd a b = true → (listed.setIfInBounds i true).getD b false = true := by
  intro a b ha hn
  by_cases e : i = a
  · subst e; exact bit_mono (hpre b hn)
  · rw [getD_set_ne false e] at ha
    exact bit_mono (h a b ha hn)
theorem below_only {w W W' : World} {row : Option Nat} (h : w.grownBy W row) (hb : Below w.heap.size W W') : w.grownBy W' row :=
  ⟨hb.os.trans h.os, hb.tape.trans h.tape, hb.output.trans h.output, Nat.le_trans h.size hb.size, fun k hk hr => (hb.block k hk).trans (h.block k hk hr)⟩
/-- an operation that writes nothing that stood -/
theorem Fs.grow {nd : Nat → Nat → Bool} {n : Nat} {ks : List RK} {w : World} {row : Option Nat} {listed : Array Bool} {vs : List Value} {W W' : World} (hF : Fs nd n ks w row listed vs W) (hok : okB n ks = true) (hl : ∀ (i : Nat) (k : RK), ks[i]? = some k → k.lasts)
    {i : Nat} {k : RK} {v : Value} (hpre : ∀ j, nd i j = true → listed.getD j false = true) (hk : ks[i]? = some k) (hnp : ∀ al, k ≠ .put al) (hb : Below W.heap.size W W') (hv : k.holds w.heap.size (listed.setIfInBounds i true) v W')
    (hfresh : k.owns = true → ∃ G, blkOf v = some G ∧ W.heap.size ≤ G) : Fs nd n ks w row (listed.setIfInBounds i true) (vs.set i v) W' := by
  have hi : i < vs.length := by rw [hF.len]; exact (List.getElem?_eq_some_iff.1 hk).1
  refine ⟨by simpa using hF.lsz, by rw [List.length_set]; exact hF.len, only_trans hF.low (only_of_below hb row), ?_, ?_, ?_, back_set hF.back hpre⟩
  · intro j kj hj hlj
    by_cases e : i = j
    · subst e
      rw [hk] at hj
      cases hj
      rw [getD_vset _ _ _ _ hi]; exact hv
    · have hlj' := hlj.of_set e
      rw [getD_vset_ne e]
      have h := hF.get j kj hj hlj'
      cases kj with
      | pure c => exact h
      | row cs T n => obtain ⟨G, hG, hB, hh⟩ := h; exact ⟨G, hG, hB, keep_block hh hb⟩
      | box g z f T st =>
        obtain ⟨G, hG, hgg, hB, hh⟩ := h
        have hne : listed.getD st false = (listed.setIfInBounds i true).getD st false := by
          rcases okB_box hok hj with hst | hst
          · have h1 : ¬ st < listed.size := by rw [hF.lsz]; omega
            simp [h1]
          · have hne : i ≠ st := by
              rintro rfl
              rw [hk] at hst
              exact hnp j (Option.some.inj hst)
            rw [getD_set_ne false hne]
        refine ⟨G, hG, hgg, hB, ?_⟩
        rw [← hne]
        exact keep_block hh hb
      | put al => trivial
      | any R => exact hl j _ hj _ _ _ h hb
  · intro a b ka kb hab ha hb' oa ob la lb
    by_cases ea : i = a
    · subst ea
      rw [hk] at ha
      cases ha
      have lb' := lb.of_set hab
      rw [getD_vset _ _ _ _ hi, getD_vset_ne hab]
      obtain ⟨G, hG, hge⟩ := hfresh oa
      obtain ⟨G', hG', _, hlt⟩ := RK.blk (hF.get b kb hb' lb') ob
      rw [hG, hG']
      intro h
      have := Option.some.inj h
      omega
    · have la' := la.of_set ea
      rw [getD_vset_ne ea]
      by_cases eb : i = b
      · subst eb
        rw [hk] at hb'
        cases hb'
        rw [getD_vset _ _ _ _ hi]
        obtain ⟨G, hG, hge⟩ := hfresh ob
        obtain ⟨G', hG', _, hlt⟩ := RK.blk (hF.get a ka ha la') oa
        rw [hG, hG']
        intro h
        have := Option.some.inj h
        omega
      · rw [getD_vset_ne eb]
        exact hF.ne a b ka kb hab ha hb' oa ob la' (lb.of_set eb)
  · intro a al ha la
    by_cases ea : i = a
    · subst ea
      rw [hk] at ha
      exact absurd (Option.some.inj ha) (hnp al)
    · rw [getD_set_ne false ea] at la
      exact (hF.puts a al ha la).mono
section
variable {nd : Nat → Nat → Bool} {n : Nat} {ks : List RK} {w : World} {rr : Option Nat} {listed : Array Bool} {vs : List Value} {W W' : World} {i : Nat}
theorem Fs.pure (hF : Fs nd n ks w rr listed vs W) (hok : okB n ks = true) (hl : ∀ (i : Nat) (k : RK), ks[i]? = some k → k.lasts) (hpre : ∀ j, nd i j = true → listed.getD j false = true) {c : Value} (hk : ks[i]? = some (.pure c)) (hb : Below W.heap.size W W') : Fs nd n ks w rr (listed.setIfInBounds i true) (vs.set i c) W' :=
  hF.grow hok hl hpre hk (fun _ h => by cases h) hb rfl (fun h => by cases h)
theorem Fs.any (hF : Fs nd n ks w rr listed vs W) (hok : okB n ks = true) (hl : ∀ (i : Nat) (k : RK), ks[i]? = some k → k.lasts) (hpre : ∀ j, nd i j = true → listed.getD j false = true) {R : Value → World → Prop} (hk : ks[i]? = some (.any R)) {v : Value} (hb : Below W.heap.size W W') (hv : R v W') : Fs nd n ks w rr (listed.setIfInBounds i true) (vs.set i v) W' :=
  hF.grow hok hl hpre hk (fun _ h => by cases h) hb hv (fun h => by cases h)
theorem Fs.row (hF : Fs nd n ks w rr listed vs W) (hok : okB n ks = true) (hl : ∀ (i : Nat) (k : RK), ks[i]? = some k → k.lasts) (hpre : ∀ j, nd i j = true → listed.getD j false = true) {cs : Array Value} {T : TypeId} {m : Nat} (hk : ks[i]? = some (.row cs T m)) : Fs nd n ks w rr (listed.setIfInBounds i true) (vs.set i (.slice (some ⟨W.heap.size, 0, none⟩) m m)) (W.alloc (.cells cs T)) :=
  hF.grow hok hl hpre hk (fun _ h => by cases h) ((Below.refl _ _).alloc (Nat.le_refl _) _) ⟨_, rfl, hF.low.size, heap_alloc_new W _⟩ (fun _ => ⟨_, rfl, Nat.le_refl _⟩)
theorem Fs.box (hF : Fs nd n ks w rr listed vs W) (hok : okB n ks = true) (hl : ∀ (i : Nat) (k : RK), ks[i]? = some k → k.lasts) (hpre : ∀ j, nd i j = true → listed.getD j false = true) (hun : listed.getD i true = false) {z f : Array Value} {T : TypeId} {st : Nat} (hk : ks[i]? = some (.box none z f T st)) : Fs nd n ks w rr (listed.setIfInBounds i true) (vs.set i (.pointer (some ⟨W.heap.size, 0, none⟩))) (W.alloc (.cells z T)) := by
  have hin : i < listed.size := by
    rcases Nat.lt_or_ge i listed.size with h | h
    · exact h
    · simp [Array.getElem?_eq_none h] at hun
  have hoff : ¬ (listed.setIfInBounds i true).getD st false = true := by
    rcases okB_box hok hk with hst | hst
    · have h1 : ¬ st < listed.size := by rw [hF.lsz]; omega
      simp [h1]
    · have hne : i ≠ st := by
        rintro rfl
        rw [hk] at hst
        cases hst
      rw [getD_set_ne false hne]
      intro h
      rcases hF.puts st i hst h with h | h
      · have := hF.lsz; omega
      · exact bit_off hun h
  refine hF.grow hok hl hpre hk (fun _ h => by cases h) ((Below.refl _ _).alloc (Nat.le_refl _) _) ⟨_, rfl, fun _ h => (by cases h), hF.low.size, ?_⟩ (fun _ => ⟨_, rfl, Nat.le_refl _⟩)
  rw [if_neg hoff]
  exact heap_alloc_new W _
theorem Fs.put (hF : Fs nd n ks w rr listed vs W) (hok : okB n ks = true) (hna : ∀ (i : Nat) (R : Value → World → Prop), ks[i]? ≠ some (.any R)) (hpre : ∀ j, nd i j = true → listed.getD j false = true) (hun : listed.getD i true = false) {al : Nat} (hk : ks[i]? = some (.put al)) {z f : Array Value} {T : TypeId} {G : Nat} {g : Option Nat} (v : Value)
    (hbox : ks[al]? = some (.box g z f T i)) (hal : On n listed al) (hG : vs.getD al undef = .pointer (some ⟨G, 0, none⟩)) (hnew : W'.heap[G]? = some (.cells f T (0, 0))) (hoth : ∀ k, k ≠ G → W'.heap[k]? = W.heap[k]?) (hb : Below w.heap.size W W') : Fs nd n ks w rr (listed.setIfInBounds i true) (vs.set i v) W' := by
  have hi : i < vs.length := by rw [hF.len]; exact (List.getElem?_eq_some_iff.1 hk).1
  have hin := okB_put hok hk
  have hia : i ≠ al := by
    rintro rfl
    rw [hk] at hbox
    cases hbox
  refine ⟨by simpa using hF.lsz, by rw [List.length_set]; exact hF.len, below_only hF.low hb, ?_, ?_, ?_, back_set hF.back hpre⟩
  · intro j kj hj hlj
    by_cases e : i = j
    · subst e
      rw [hk] at hj
      cases hj
      trivial
    · have hlj' := hlj.of_set e
      rw [getD_vset_ne e]
      have h := hF.get j kj hj hlj'
      have far : kj.owns = true → j ≠ al → ∀ G', blkOf (vs.getD j undef) = some G' → G' ≠ G := by
        intro o hja G' hG' e'
        have := hF.ne j al kj _ hja hj hbox o rfl hlj' hal
        rw [hG', hG, e'] at this
        exact this rfl
      cases kj with
      | pure c => exact h
      | row cs T' m =>
        obtain ⟨G', hG', hB, hh⟩ := h
        have hja : j ≠ al := by rintro rfl; rw [hj] at hbox; cases hbox
        have hne := far rfl hja G' (by rw [hG']; rfl)
        exact ⟨G', hG', hB, (hoth _ hne).trans hh⟩
      | box g' z' f' T' st =>
        obtain ⟨G', hG', hgg, hB, hh⟩ := h
        by_cases hja : j = al
        · subst hja
          rw [hbox] at hj
          cases hj
          rw [hG] at hG'
          have : G = G' := by
            have := congrArg blkOf hG'
            exact Option.some.inj this
          subst this
          refine ⟨G, hG, hgg, hB, ?_⟩
          rw [if_pos (bit_self hun)]
          exact hnew
        · have hne := far rfl hja G' (by rw [hG']; rfl)
          have hns : i ≠ st := by
            rintro rfl
            rcases okB_box hok hj with hst | hst
            · omega
            · rw [hk] at hst
              have := Option.some.inj hst
              injection this with this
              exact hja this.symm
          refine ⟨G', hG', hgg, hB, ?_⟩
          rw [getD_set_ne false hns]
          exact (hoth _ hne).trans hh
      | put _ => trivial
      | any R => exact absurd hj (hna j R)
  · intro a b ka kb hab ha hb' oa ob la lb
    have ea : i ≠ a := by rintro rfl; rw [hk] at ha; cases ha; cases oa
    have eb : i ≠ b := by rintro rfl; rw [hk] at hb'; cases hb'; cases ob
    rw [getD_vset_ne ea, getD_vset_ne eb]
    exact hF.ne a b ka kb hab ha hb' oa ob (la.of_set ea) (lb.of_set eb)
  · intro a al' ha la
    by_cases ea : i = a
    · subst ea
      rw [hk] at ha
      have := Option.some.inj ha
      injection this with this
      subst this
      exact hal.mono
    · rw [getD_set_ne false ea] at la
      exact (hF.puts a al' ha la).mono
/-- nothing has come up yet -/
theorem Fs.start (hlen : vs.length = ks.length) (hn : ks.length = n) : Fs nd n ks w rr (Array.replicate n false) vs w.drew :=
  ⟨by simp, hlen, only_of_below (Below.refl _ _).drew rr, fun i k hk h => absurd (h.resolve_left (by have := (List.getElem?_eq_some_iff.1 hk).1; omega)) bit_none, fun i _ k _ _ hk _ _ _ h => absurd (h.resolve_left (by have := (List.getElem?_eq_some_iff.1 hk).1; omega)) bit_none, fun _ _ _ h => absurd h bit_none, fun _ _ h => absurd h bit_none⟩
end

/-- the blocks from before hold what they hold, and are not one another -/
def Far (v : Value) : List RK → List Value → Prop
  | k :: ks, u :: vs => (k.owns = true → blkOf v ≠ blkOf u) ∧ Far v ks vs
  | _, _ => True
def Olds (B : Nat) (W : World) : List RK → List Value → Prop
  | k :: ks, v :: vs => k.holds B #[] v W ∧ (k.owns = true → Far v ks vs) ∧ Olds B W ks vs
  | _, _ => True
theorem far_get {v : Value} : ∀ {ks : List RK} {vs : List Value}, Far v ks vs → vs.length = ks.length → ∀ {i : Nat} {k : RK}, ks[i]? = some k → k.owns = true → blkOf v ≠ blkOf (vs.getD i undef)
  | k :: ks, u :: vs, h, hl, 0, k', hk, ho => by
    cases hk
    exact h.1 ho
  | k :: ks, u :: vs, h, hl, i + 1, k', hk, ho => by
    have := far_get (i := i) h.2 (by simpa using hl) (by simpa using hk) ho
    simpa using this
  | [], _, _, _, i, k', hk, _ => by simp at hk
theorem olds_get {B : Nat} {W : World} : ∀ {ks : List RK} {vs : List Value}, Olds B W ks vs → vs.length = ks.length → ∀ {i : Nat} {k : RK}, ks[i]? = some k → k.holds B #[] (vs.getD i undef) W
  | k :: ks, u :: vs, h, hl, 0, k', hk => by
    cases hk
    exact h.1
  | k :: ks, u :: vs, h, hl, i + 1, k', hk => by
    have := olds_get (i := i) h.2.2 (by simpa using hl) (by simpa using hk)
    simpa using this
  | [], _, _, _, i, k', hk => by simp at hk
theorem olds_ne {B : Nat} {W : World} : ∀ {ks : List RK} {vs : List Value}, Olds B W ks vs → vs.length = ks.length → ∀ {i j : Nat} {ki kj : RK}, i < j → ks[i]? = some ki → ks[j]? = some kj → ki.owns = true → kj.owns = true → blkOf (vs.getD i undef) ≠ blkOf (vs.getD j undef)
  | k :: ks, u :: vs, h, hl, 0, j + 1, ki, kj, hij, hi, hj, oi, oj => by
    cases hi
    have := far_get (h.2.1 oi) (by simpa using hl) (i := j) (by simpa using hj) oj
    simpa using this
  | k :: ks, u :: vs, h, hl, i + 1, j + 1, ki, kj, hij, hi, hj, oi, oj => by
    have := olds_ne (i := i) (j := j) h.2.2 (by simpa using hl) (by omega) (by simpa using hi) (by simpa using hj) oi oj
    simpa using this
  | [], _, _, _, i, j, ki, kj, _, hi, _, _, _ => by simp at hi
theorem holds_none {B n : Nat} {v : Value} {W : World} {k : RK} (h : k.holds B #[] v W) : k.holds B (Array.replicate n false) v W := by
  cases k with
  | box g z f T st =>
    obtain ⟨G, hG, hgg, hB, hh⟩ := h
    refine ⟨G, hG, hgg, hB, ?_⟩
    rw [if_neg bit_none]
    simpa using hh
  | pure c => exact h
  | row cs T m => exact h
  | put al => trivial
  | any R => exact h
theorem Fs.start_olds {nd : Nat → Nat → Bool} {n : Nat} {ks : List RK} {w W : World} {row : Option Nat} {vs : List Value} (hl : ∀ (i : Nat) (k : RK), ks[i]? = some k → k.lasts) (hlen : vs.length = ks.length) (low : w.grownBy W row) (hO : Olds w.heap.size W (ks.drop n) (vs.drop n)) :
    Fs nd n ks w row (Array.replicate n false) vs W.drew := by
  have hlen' : (vs.drop n).length = (ks.drop n).length := by simp [hlen]
  have hk' : ∀ {i : Nat} {k : RK}, ks[i]? = some k → n ≤ i → (ks.drop n)[i - n]? = some k := by
    intro i k hk hi
    rw [List.getElem?_drop, show n + (i - n) = i by omega]; exact hk
  have hv' : ∀ {i : Nat}, n ≤ i → (vs.drop n).getD (i - n) undef = vs.getD i undef := by
    intro i hi
    simp only [List.getD, List.getElem?_drop]
    rw [show n + (i - n) = i by omega]
  refine ⟨by simp, hlen, below_only low (Below.refl _ _).drew, ?_, ?_, fun _ _ _ h => absurd h bit_none, fun _ _ h => absurd h bit_none⟩
  · intro i k hk h
    have hi := h.resolve_right bit_none
    have h1 := olds_get hO hlen' (hk' hk hi)
    rw [hv' hi] at h1
    have h2 : k.holds w.heap.size (Array.replicate n false) (vs.getD i undef) W := holds_none h1
    cases k with
    | any R => exact hl i _ hk _ _ _ h2 (Below.refl _ _).drew
    | pure c => exact h2
    | row cs T m => exact h2
    | box g z f T st => exact h2
    | put al => trivial
  · intro i j ki kj hij hi hj oi oj li lj
    have ni := li.resolve_right bit_none
    have nj := lj.resolve_right bit_none
    rcases Nat.lt_or_ge i j with h | h
    · have := olds_ne hO hlen' (show i - n < j - n by omega) (hk' hi ni) (hk' hj nj) oi oj
      rw [hv' ni, hv' nj] at this; exact this
    · have := olds_ne hO hlen' (show j - n < i - n by omega) (hk' hj nj) (hk' hi ni) oj oi
      rw [hv' ni, hv' nj] at this; exact fun e => this e.symm
theorem Fs.unst {nd : Nat → Nat → Bool} {n : Nat} {ks : List RK} {w W : World} {row : Option Nat} {listed : Array Bool} {vs : List Value} (hF : Fs nd n ks w row listed vs W) {st : Nat} (h : n ≤ st) : ¬ listed.getD st false = true := by
  have h1 : ¬ st < listed.size := by rw [hF.lsz]; omega
  simp [h1]
theorem far_of {b c : Nat} {n : Nat} (h : b ≠ c) : blkOf (.pointer (some ⟨b, 0, none⟩)) ≠ blkOf (.pointer (some ⟨c, n, none⟩)) := fun e => h (Option.some.inj e)

/-- the slots laid anew, from what has come up -/
def layT : List (Option Nat) → List Value → Array Value → Array Value
  | some d :: sl, v :: vs, t => layT sl vs (t.setIfInBounds d v)
  | none :: sl, _ :: vs, t => layT sl vs t
  | _, _, t => t
theorem layT_some (d : Nat) (sl : List (Option Nat)) (v : Value) (vs : List Value) (t : Array Value) : layT (some d :: sl) (v :: vs) t = layT sl vs (t.setIfInBounds d v) := rfl
theorem layT_none (sl : List (Option Nat)) (v : Value) (vs : List Value) (t : Array Value) : layT (none :: sl) (v :: vs) t = layT sl vs t := rfl
theorem layT_nil (vs : List Value) (t : Array Value) : layT [] vs t = t := by cases vs <;> rfl
def putO (a : Act) (sl : List (Option Nat)) (vs : List Value) : Act := { a with tmps := layT sl vs a.tmps }

/-- operation i waits for operation j -/
def ndOf (ops : Array Oper) (i j : Nat) : Bool := (needs .any ops i).contains j
theorem wp_region_facts {P : Program} {ops : Array Oper} {Q : Exit → Act → World → Prop} {id : Nat} {a0 : Act} {w W0 : World} {row : Option Nat} (n : Nat) (ks : List RK) (slots : List (Option Nat)) (hm : P.follows .mixedOrders = true) (hb : backB ops = true) (hn : ops.size = n)
    (vs0 : List Value) (h00 : putO a0 slots vs0 = a0) (hF0 : Fs (ndOf ops) n ks w row (Array.replicate n false) vs0 W0.drew)
    (hstep : ∀ listed vs W, Fs (ndOf ops) n ks w row listed vs W → ∀ i, i < n → listed.getD i true = false → (∀ j, ndOf ops i j = true → listed.getD j false = true) → wpOp P ops Q i (fun a' W' => ∃ v, Fs (ndOf ops) n ks w row (listed.setIfInBounds i true) (vs.set i v) W' ∧ a' = putO a0 slots (vs.set i v)) (putO a0 slots vs) W)
    (hdone : ∀ listed vs W, Fs (ndOf ops) n ks w row listed vs W → (∀ j, j < n → listed.getD j false = true) → Q .normal (putO a0 slots vs) W) : (Code.region id ops true).wp P Q a0 W0 := by
  refine wp_region_inv hm (fun listed a W => ∃ vs, Fs (ndOf ops) n ks w row listed vs W ∧ a = putO a0 slots vs) ⟨vs0, by rw [hn]; exact hF0, h00.symm⟩ ?_ ?_
  · rintro listed a W ⟨vs, hF, rfl⟩ i o ho hun hpre
    refine wpOp_mono (fun a' w' h => ?_) (hstep listed vs W hF i (by rw [← hn]; exact (Array.getElem?_eq_some_iff.1 ho).1) hun ?_)
    · obtain ⟨v, hF', rfl⟩ := h
      exact ⟨_, hF', rfl⟩
    · intro j hj
      unfold ndOf needs at hj
      rw [ho] at hj
      simp only [List.contains_iff_mem, List.mem_map, List.mem_filter, Array.mem_toList_iff] at hj
      obtain ⟨e, ⟨he, hbd⟩, rfl⟩ := hj
      exact hpre e he hbd
  · rintro listed a W ⟨vs, hF, rfl⟩ hr
    exact hdone listed vs W hF (by rw [← hn]; exact all_listed (by rw [hF.lsz, hn]) hb hr)

/-- a list of known length, item by item -/
def ExL : Nat → (List Value → Prop) → Prop
  | 0, p => p []
  | n + 1, p => ∃ v, ExL n (fun l => p (v :: l))
theorem exl_of : ∀ (n : Nat) (vs : List Value) (p : List Value → Prop), vs.length = n → p vs → ExL n p
  | 0, [], _, _, h => h
  | n + 1, v :: l, p, h, hp => ⟨v, exl_of n l (fun l => p (v :: l)) (by simpa using h) hp⟩
theorem put2_below {B G : Nat} (h : B ≤ G) (W : World) (x y : Value) : Below B W ((W.setCell ⟨G, 0, none⟩ x).setCell ⟨G, 1, none⟩ y) :=
  ((Below.refl _ _).setCell (p := ⟨G, 0, none⟩) h x).setCell (p := ⟨G, 1, none⟩) h y
theorem put9_below {B G : Nat} (h : B ≤ G) (W : World) (x0 x1 x2 x3 x4 x5 x6 x7 x8 : Value) : Below B W (((((((((W.setCell ⟨G, 0, none⟩ x0).setCell ⟨G, 1, none⟩ x1).setCell ⟨G, 2, none⟩ x2).setCell ⟨G, 3, none⟩ x3).setCell ⟨G, 4, none⟩ x4).setCell ⟨G, 5, none⟩ x5).setCell ⟨G, 6, none⟩ x6).setCell ⟨G, 7, none⟩ x7).setCell ⟨G, 8, none⟩ x8) :=
  ((((((((((Below.refl _ _).setCell (p := ⟨G, 0, none⟩) h x0).setCell (p := ⟨G, 1, none⟩) h x1).setCell (p := ⟨G, 2, none⟩) h x2).setCell (p := ⟨G, 3, none⟩) h x3).setCell (p := ⟨G, 4, none⟩) h x4).setCell (p := ⟨G, 5, none⟩) h x5).setCell (p := ⟨G, 6, none⟩) h x6).setCell (p := ⟨G, 7, none⟩) h x7).setCell (p := ⟨G, 8, none⟩) h x8)
end Go.Proofs.YtcbolipiaflfbaaGreatDoor.Num

/- A region that draws its order: the first operations by what each yields, the last ones in each order that is left to them. Plain: of no program. -/
namespace Go.Proofs.YtcbolipiaflfbaaGreatDoor.Num
open Go.RowKit Go.Lib

/-- what is left, in each order that the edges leave open; f: how many are left -/
def restOps (P : Program) (ops : Array Oper) (Q : Exit → Act → World → Prop) : Nat → List Nat → Act → World → Prop
  | 0, _, a, w => Q .normal a w
  | f + 1, rem, a, w => ∀ i ∈ rem, (∀ j ∈ rem, ndOf ops i j = false) → wpOp P ops Q i (fun a' w' => restOps P ops Q f (rem.erase i) a' w') a w
theorem bit_ne {listed : Array Bool} {i j : Nat} (h : i ≠ j) : (listed.setIfInBounds i true).getD j false = listed.getD j false := by rw [getD_set_ne false h]
theorem bit_in {listed : Array Bool} {i : Nat} (h : i < listed.size) : (listed.setIfInBounds i true).getD i false = true := by simp [h]
theorem range_from {m n i : Nat} : i ∈ (List.range n).drop m ↔ m ≤ i ∧ i < n := by
  rw [List.range_eq_range', List.drop_range', List.mem_range'_1]
  omega

theorem wp_region_rest {P : Program} {ops : Array Oper} {Q : Exit → Act → World → Prop} {id : Nat} {a0 : Act} {w : World} (m : Nat) (J : Array Bool → Act → World → Prop) (hm : P.follows .mixedOrders = true) (hb : backB ops = true) (hmn : m ≤ ops.size)
    (ht : ((List.range ops.size).all fun i => decide (i < m) || (List.range m).all fun j => ndOf ops i j) = true)
    (h0 : J (Array.replicate ops.size false) a0 w.drew)
    (hstep : ∀ listed a W, J listed a W → ∀ i, i < m → listed.getD i true = false → (∀ j, ndOf ops i j = true → listed.getD j false = true) → wpOp P ops Q i (fun a' W' => J (listed.setIfInBounds i true) a' W') a W)
    (hmid : ∀ listed a W, J listed a W → (∀ j, j < m → listed.getD j false = true) → restOps P ops Q (ops.size - m) ((List.range ops.size).drop m) a W) : (Code.region id ops true).wp P Q a0 w := by
  refine wp_region_inv hm (fun listed a W => listed.size = ops.size ∧ ((∀ i, m ≤ i → i < ops.size → listed.getD i false = false) ∧ J listed a W ∨ ∃ rem : List Nat, rem.Nodup ∧ (∀ i, i < ops.size → (listed.getD i false = false ↔ i ∈ rem)) ∧ (∀ i ∈ rem, i < ops.size) ∧ restOps P ops Q rem.length rem a W)) ⟨by simp, .inl ⟨fun i _ _ => by simp [Array.getD, Array.getElem_replicate], h0⟩⟩ ?_ ?_
  · rintro listed a W ⟨hsz, hI⟩ i o ho hun hpre0
    have hi : i < ops.size := (Array.getElem?_eq_some_iff.1 ho).1
    have hil : i < listed.size := by omega
    have hoffi : listed.getD i false = false := by simp [hil] at hun ⊢; exact hun
    have hpre : ∀ j, ndOf ops i j = true → listed.getD j false = true := by
      intro j hj
      unfold ndOf needs at hj
      rw [ho] at hj
      simp only [List.contains_iff_mem, List.mem_map, List.mem_filter, Array.mem_toList_iff] at hj
      obtain ⟨e, ⟨he, hbd⟩, rfl⟩ := hj
      exact hpre0 e he hbd
    have go : ∀ rem : List Nat, rem.Nodup → (∀ k, k < ops.size → (listed.getD k false = false ↔ k ∈ rem)) → (∀ k ∈ rem, k < ops.size) → restOps P ops Q rem.length rem a W → wpOp P ops Q i (fun a' W' => (listed.setIfInBounds i true).size = ops.size ∧ ((∀ j, m ≤ j → j < ops.size → (listed.setIfInBounds i true).getD j false = false) ∧ J (listed.setIfInBounds i true) a' W' ∨ ∃ rem : List Nat, rem.Nodup ∧ (∀ k, k < ops.size → ((listed.setIfInBounds i true).getD k false = false ↔ k ∈ rem)) ∧ (∀ k ∈ rem, k < ops.size) ∧ restOps P ops Q rem.length rem a' W')) a W := by
      intro rem hnd hiff hlt hs
      have him := (hiff i hi).1 hoffi
      obtain ⟨f, hf⟩ : ∃ f, rem.length = f + 1 := ⟨rem.length - 1, by have := List.length_pos_of_mem him; omega⟩
      rw [hf] at hs
      refine wpOp_mono (fun a' W' h => ⟨by simpa using hsz, .inr ⟨rem.erase i, hnd.erase i, fun k hk => ?_, fun k hk => hlt k (List.mem_of_mem_erase hk), ?_⟩⟩) (hs i him fun j hj => ?_)
      · by_cases e : i = k
        · subst e
          rw [bit_in hil]
          exact ⟨fun h => (by cases h), fun h => absurd h (hnd.not_mem_erase)⟩
        · rw [bit_ne e, hiff k hk]
          exact (List.mem_erase_of_ne (fun h => e h.symm)).symm
      · rw [List.length_erase_of_mem him, hf, Nat.add_sub_cancel]; exact h
      · cases hn : ndOf ops i j with
        | false => rfl
        | true =>
          have h1 := hpre j hn
          rw [(hiff j (hlt j hj)).2 hj] at h1
          cases h1
    rcases hI with ⟨hoff, hJ⟩ | ⟨rem, hnd, hiff, hlt, hs⟩
    · rcases Nat.lt_or_ge i m with h | h
      · exact wpOp_mono (fun a' W' hJ' => ⟨by simpa using hsz, .inl ⟨fun j h1 h2 => by rw [bit_ne (by omega)]; exact hoff j h1 h2, hJ'⟩⟩) (hstep listed a W hJ i h hun hpre)
      · have hall : ∀ j, j < m → listed.getD j false = true := fun j hj => hpre j (by
          have h1 := List.all_eq_true.1 ht i (List.mem_range.2 hi)
          rw [Bool.or_eq_true] at h1
          rcases h1 with h1 | h1
          · have := of_decide_eq_true h1; omega
          · exact List.all_eq_true.1 h1 j (List.mem_range.2 hj))
        refine go ((List.range ops.size).drop m) (List.nodup_range.sublist (List.drop_sublist _ _)) (fun k hk => ?_) (fun k hk => (range_from.1 hk).2) ?_
        · constructor
          · intro hk0
            refine range_from.2 ⟨?_, hk⟩
            rcases Nat.lt_or_ge k m with h2 | h2
            · rw [hall k h2] at hk0; cases hk0
            · exact h2
          · intro hk0
            exact hoff k (range_from.1 hk0).1 hk
        · rw [List.length_drop, List.length_range]
          exact hmid listed a W hJ hall
    · exact go rem hnd hiff hlt hs
  · rintro listed a W ⟨hsz, hI⟩ hr
    have hall := all_listed hsz hb hr
    rcases hI with ⟨hoff, hJ⟩ | ⟨rem, hnd, hiff, hlt, hs⟩
    · have e : m = ops.size := by
        rcases Nat.lt_or_ge m ops.size with h | h
        · have := hoff m (Nat.le_refl _) h
          rw [hall m h] at this
          cases this
        · omega
      have := hmid listed a W hJ (fun j hj => hall j (by omega))
      rw [e, Nat.sub_self] at this
      exact this
    · have e : rem = [] := by
        cases rem with
        | nil => rfl
        | cons k r =>
          have h1 := hall k (hlt k List.mem_cons_self)
          rw [(hiff k (hlt k List.mem_cons_self)).2 List.mem_cons_self] at h1
          cases h1
      subst e
      exact hs
theorem wp_region_facts_tail {P : Program} {ops : Array Oper} {Q : Exit → Act → World → Prop} {id : Nat} {a0 : Act} {w W0 : World} {row : Option Nat} (m f n : Nat) (rem : List Nat) (ks : List RK) (slots : List (Option Nat)) (hm : P.follows .mixedOrders = true) (hb : backB ops = true) (ht : ((List.range ops.size).all fun i => decide (i < m) || (List.range m).all fun j => ndOf ops i j) = true) (hn : ops.size = n) (hf : n - m = f) (hmn : m ≤ n) (hrem : (List.range n).drop m = rem)
    (vs0 : List Value) (h00 : putO a0 slots vs0 = a0) (hF0 : Fs (ndOf ops) n ks w row (Array.replicate n false) vs0 W0.drew)
    (hstep : ∀ listed vs W, Fs (ndOf ops) n ks w row listed vs W → ∀ i, i < m → listed.getD i true = false → (∀ j, ndOf ops i j = true → listed.getD j false = true) → wpOp P ops Q i (fun a' W' => ∃ v, Fs (ndOf ops) n ks w row (listed.setIfInBounds i true) (vs.set i v) W' ∧ a' = putO a0 slots (vs.set i v)) (putO a0 slots vs) W)
    (hdone : ∀ listed vs W, Fs (ndOf ops) n ks w row listed vs W → (∀ j, j < m → listed.getD j false = true) → restOps P ops Q f rem (putO a0 slots vs) W) : (Code.region id ops true).wp P Q a0 W0 := by
  refine wp_region_rest m (fun listed a W => ∃ vs, Fs (ndOf ops) n ks w row listed vs W ∧ a = putO a0 slots vs) hm hb (by omega) ht ⟨vs0, by rw [hn]; exact hF0, h00.symm⟩ ?_ ?_
  · rintro listed a W ⟨vs, hF, rfl⟩ i hi hun hpre
    refine wpOp_mono (fun a' w' h => ?_) (hstep listed vs W hF i hi hun hpre)
    obtain ⟨v, hF', rfl⟩ := h
    exact ⟨_, hF', rfl⟩
  · rintro listed a W ⟨vs, hF, rfl⟩ hall
    rw [hn, hf, hrem]
    exact hdone listed vs W hF hall
section
variable {P : Program} {ops : Array Oper} {Q : Exit → Act → World → Prop} {f i j : Nat} {rem remi remj : List Nat} {a : Act} {w : World}
/-- only number i may come next -/
theorem rest_one (i : Nat) (o : Oper) (ho : ops[i]? = some o) (hr : (rem.all fun k => k == i || rem.any fun j => ndOf ops k j) = true) (he : rem.erase i = remi)
    (h : ∀ K' : Act → World → Prop, Shut (∀ a w, restOps P ops Q f remi a w → K' a w) → if Region.wanted o (yielded ops a.tmps) = true then Oper.wp P o a w K' Q else K' (a.put o.dst undef) w) : restOps P ops Q (f + 1) rem a w := by
  subst he
  intro k hk hready
  have h1 := List.all_eq_true.1 hr k hk
  rw [Bool.or_eq_true] at h1
  rcases h1 with h1 | h1
  · rw [beq_iff_eq] at h1
    subst h1
    exact step_of o ho h
  · obtain ⟨j, hj, hn⟩ := List.any_eq_true.1 h1
    rw [hready j hj] at hn
    cases hn
/-- number i or number j may come next -/
theorem rest_two (i j : Nat) (oi oj : Oper) (hoi : ops[i]? = some oi) (hoj : ops[j]? = some oj) (hr : (rem.all fun k => k == i || k == j || rem.any fun j => ndOf ops k j) = true) (hei : rem.erase i = remi) (hej : rem.erase j = remj)
    (hi : ∀ K' : Act → World → Prop, Shut (∀ a w, restOps P ops Q f remi a w → K' a w) → if Region.wanted oi (yielded ops a.tmps) = true then Oper.wp P oi a w K' Q else K' (a.put oi.dst undef) w)
    (hj : ∀ K' : Act → World → Prop, Shut (∀ a w, restOps P ops Q f remj a w → K' a w) → if Region.wanted oj (yielded ops a.tmps) = true then Oper.wp P oj a w K' Q else K' (a.put oj.dst undef) w) : restOps P ops Q (f + 1) rem a w := by
  subst hei
  subst hej
  intro k hk hready
  have h1 := List.all_eq_true.1 hr k hk
  rw [Bool.or_eq_true, Bool.or_eq_true] at h1
  rcases h1 with (h1 | h1) | h1
  · rw [beq_iff_eq] at h1
    subst h1
    exact step_of oi hoi hi
  · rw [beq_iff_eq] at h1
    subst h1
    exact step_of oj hoj hj
  · obtain ⟨j, hj, hn⟩ := List.any_eq_true.1 h1
    rw [hready j hj] at hn
    cases hn
theorem rest_end (h : Q .normal a w) : restOps P ops Q 0 rem a w := h
end
end Go.Proofs.YtcbolipiaflfbaaGreatDoor.Num

/- No body of the program starts a goroutine: what a card asks of it, without the computed closure. No conditions. -/
namespace Go.Proofs.YtcbolipiaflfbaaGreatDoor
open Go

theorem goes_none {P : Program} (h : P.funcs.any Func.goes = false) (f : FuncId) : P.goes f = false := by
  unfold Program.goes
  rw [h, Bool.and_false, Bool.or_false]
  cases hc : ((P.closure f).any fun g => (P.funcs[g]?).any Func.goes) with
  | false => rfl
  | true =>
    exfalso
    rw [List.any_eq_true] at hc
    obtain ⟨g, _, hg⟩ := hc
    cases hf : P.funcs[g]? with
    | none => rw [hf] at hg; simp at hg
    | some fn =>
      rw [hf, Option.any_some] at hg
      have h2 : P.funcs.any Func.goes = true := by
        rw [Array.any_eq_true]
        obtain ⟨hl, e⟩ := Array.getElem?_eq_some_iff.1 hf
        exact ⟨g, hl, by rw [e]; exact hg⟩
      rw [h] at h2
      cases h2
theorem goesBy_none {P : Program} {c : OpenClaim} (h : P.funcs.any Func.goes = false) (hs : c.start = .entering) : false = c.goesBy P := by
  unfold OpenClaim.goesBy Program.goesAt
  rw [hs]
  unfold Program.goesFrom
  cases P.funcNamed c.func with
  | none => rfl
  | some f => simp only [Option.any_some]; rw [goes_none h f]; rfl
theorem none_goes : Tryz.pinned.checked.prog.funcs.any Func.goes = false := by kernel_rfl
end Go.Proofs.YtcbolipiaflfbaaGreatDoor

/- package value: WholeOr over the arguments. Conditions: the argument is a valid number or none; the tables lie as they are laid. -/
namespace Go.Proofs.YtcbolipiaflfbaaGreatDoor.Num
open Go.RowKit Go.Lib

set_option linter.unusedSimpArgs false in
set_option linter.unusedVariables false in
set_option maxHeartbeats 4000000 in
set_option maxRecDepth 100000 in
theorem wholeOr_some (b ab ao L C n : Nat) (q : Rat) (d : Int) (w : World) (h : ArgsAt w b (some ⟨ab, ao, none⟩) L C n) (hn : n < L) (hL : L ≤ 1000000000) (hne : ab ≠ b) (hc : NumCells w ab (ao + n * 9) q) (hq : fits q = true) (h0 : -1000000000 ≤ q.floor) (h1 : q.floor ≤ 1000000000) (hE : Env w) (hP : Past b) :
    Calls Tryz.prog 110 #[.pointer (some ⟨b, 0, none⟩), .int .i64 d] w fun e w' => e = .returned (.int .i64 q.floor) ∧ ArgRet w b (some ⟨ab, ao, none⟩) L C (n + 1) w' := by
  have TM := Lib.hid (fun W g => more_any b (some ⟨ab, ao, none⟩) L C n W g hL)
  have TW := Lib.hid (fun W ga gc ge => argWhole_any b ab ao L C n q W ga hn hL hne gc hq h0 h1 ge hP)
  rw [decide_eq_true hn] at TM
  have hnot : ∀ (x : Bool) (w : World), (Op.unary .not (.bool x)).run Tryz.prog w = .ok (.bool (!x)) w := fun _ _ => rfl
  have HA := Lib.hid h
  have HC := Lib.hid hc
  have HE := Lib.hid hE
  clear h hc hE hn h0 h1 hq
  go_enter Tryz.func110, Tryz.ntmps110
  go_wp2_with fail
  refine (TM.out _ HA.out).mono ?_
  rintro e W1 ⟨rfl, hb⟩
  replace HA := Lib.hid (keep_block HA.out hb)
  replace HC := Lib.hid (NumCells.below HC.out hb)
  replace HE := Lib.hid (HE.out.below hb)
  have HB := Lib.hid (kept_below (b := b) hb)
  clear hb
  go_wp2_with fail
  refine (TW.out _ HA.out HC.out HE.out).mono ?_
  rintro e W2 ⟨rfl, ha, hg⟩
  have HA2 := Lib.hid ha
  have HG := Lib.hid (kept_trans HB.out hg)
  clear ha hg
  go_wp2
  go_ret
  exact ⟨rfl, HA2.out, HG.out⟩

set_option linter.unusedSimpArgs false in
set_option linter.unusedVariables false in
set_option maxHeartbeats 4000000 in
set_option maxRecDepth 100000 in
theorem wholeOr_none (b : Nat) (A : Option Addr) (L C n : Nat) (d : Int) (w : World) (h : ArgsAt w b A L C n) (hn : ¬ n < L) (hL : L ≤ 1000000000) :
    Calls Tryz.prog 110 #[.pointer (some ⟨b, 0, none⟩), .int .i64 d] w fun e w' => e = .returned (.int .i64 d) ∧ ArgsAt w' b A L C n ∧ Below w.heap.size w w' := by
  have TM := Lib.hid (fun W g => more_any b A L C n W g hL)
  rw [decide_eq_false hn] at TM
  have hnot : ∀ (x : Bool) (w : World), (Op.unary .not (.bool x)).run Tryz.prog w = .ok (.bool (!x)) w := fun _ _ => rfl
  have HA := Lib.hid h
  clear h hn
  go_enter Tryz.func110, Tryz.ntmps110
  go_wp2_with fail
  refine (TM.out _ HA.out).mono ?_
  rintro e W1 ⟨rfl, hb⟩
  have HB := Lib.hid hb
  replace HA := Lib.hid (show ArgsAt W1 b A L C n from keep_block HA.out hb)
  clear hb
  go_wp2
  go_ret
  exact ⟨rfl, HA.out, HB.out⟩
end Go.Proofs.YtcbolipiaflfbaaGreatDoor.Num

/- Rounding and powers of fractions: plain laws, no program. No conditions. -/
namespace Go.Proofs.YtcbolipiaflfbaaGreatDoor.Num

/-- the nearest whole number, the greater one of two -/
def roundNum (n d : Nat) : Nat := (n + n + d) / (d + d)
/-- ten to a power, above and below the line -/
def tenUp (p : Int) : Nat := 10 ^ p.toNat
def tenDn (p : Int) : Nat := 10 ^ (-p).toNat
def tenR (p : Int) : Rat := ((tenUp p : Nat) : Rat) / ((tenDn p : Nat) : Rat)
/-- a fraction, rounded to decimal places -/
def roundR (q : Rat) (p : Int) : Rat := ratOf (neg q) (roundNum (up q * tenUp p) (q.den * tenDn p) * tenDn p) (1 * tenUp p)
/-- a fraction to a whole power -/
def powR (q : Rat) (n : Int) : Rat := if n < 0 then (q ^ n.natAbs)⁻¹ else q ^ n.natAbs

theorem tenUp_pos (p : Int) : 0 < tenUp p := Nat.pow_pos (by decide)
theorem tenDn_pos (p : Int) : 0 < tenDn p := Nat.pow_pos (by decide)
theorem nat_pos {n : Nat} (h : 0 < n) : (0 : Rat) < ((n : Nat) : Rat) := by
  have : ((0 : Nat) : Rat) < ((n : Nat) : Rat) := by exact_mod_cast h
  exact this
theorem div_pos {a b : Rat} (ha : 0 < a) (hb : 0 < b) : 0 < a / b := by
  rw [Rat.div_def]; exact Rat.mul_pos ha (Rat.inv_pos.2 hb)
theorem div_nonneg {a b : Rat} (ha : 0 ≤ a) (hb : 0 < b) : 0 ≤ a / b := by
  rw [Rat.div_def]; exact Rat.mul_nonneg ha (Rat.le_of_lt (Rat.inv_pos.2 hb))
theorem tenR_pos (p : Int) : 0 < tenR p := div_pos (nat_pos (tenUp_pos p)) (nat_pos (tenDn_pos p))
theorem rat_ne {a : Rat} (h : 0 < a) : a ≠ 0 := fun e => by rw [e] at h; exact absurd h (by decide)
theorem le_div {a b c : Rat} (hc : 0 < c) (h : a * c ≤ b) : a ≤ b / c := by
  have h5 := Rat.mul_le_mul_of_nonneg_right h (Rat.le_of_lt (Rat.inv_pos.2 hc))
  have hne := rat_ne hc
  have e : a * c * c⁻¹ = a := by grind
  rw [e] at h5
  rw [Rat.div_def]; exact h5
theorem div_le {a b c : Rat} (hc : 0 < c) (h : b ≤ a * c) : b / c ≤ a := by
  have h5 := Rat.mul_le_mul_of_nonneg_right h (Rat.le_of_lt (Rat.inv_pos.2 hc))
  have hne := rat_ne hc
  have e : a * c * c⁻¹ = a := by grind
  rw [e] at h5
  rw [Rat.div_def]; exact h5

/-- powers with a sign -/
theorem sign_pow (m : Bool) (a k : Nat) : (if m then -(a : Int) else a) ^ k = if (m && decide (k % 2 = 1)) then -((a ^ k : Nat) : Int) else ((a ^ k : Nat) : Int) := by
  cases m with
  | false => simp
  | true =>
    simp only [if_true, Bool.true_and, decide_eq_true_eq]
    induction k with
    | zero => simp
    | succ k ih =>
      rw [Int.pow_succ, ih, Nat.pow_succ]
      by_cases h : k % 2 = 1
      · rw [if_pos h, if_neg (by omega)]; simp [Int.neg_mul, Int.mul_neg]
      · rw [if_neg h, if_pos (by omega)]; simp [Int.mul_neg]
theorem ratOf_pow (q : Rat) (k : Nat) : ratOf (neg q && decide (k % 2 = 1)) (up q ^ k) (q.den ^ k) = q ^ k := by
  have h := Rat.mkRat_self (q ^ k)
  rw [Rat.num_pow, Rat.den_pow] at h
  have e : q.num = if neg q then -(up q : Int) else up q := by
    unfold neg up
    by_cases hn : q.num < 0
    · rw [decide_eq_true hn, if_pos rfl]; omega
    · rw [decide_eq_false hn]; simp; omega
  rw [e, sign_pow] at h
  exact h
theorem ratOf_pow_inv (q : Rat) (k : Nat) (h0 : q ≠ 0) : ratOf (neg q && decide (k % 2 = 1)) (q.den ^ k) (up q ^ k) = (q ^ k)⁻¹ := by
  have hu : up q ^ k ≠ 0 := Nat.pos_iff_ne_zero.1 (Nat.pow_pos (Nat.pos_of_ne_zero (fun e => h0 ((up_zero q).1 e))))
  rw [← ratOf_pow q k, ratOf_inv _ _ _ hu (Nat.pos_iff_ne_zero.1 (Nat.pow_pos (Nat.pos_of_ne_zero q.den_nz)))]

theorem ratOf_false (n d : Nat) : ratOf false n d = ((n : Nat) : Rat) / ((d : Nat) : Rat) := by
  unfold ratOf
  rw [Rat.mkRat_eq_div]
  simp [Rat.intCast_natCast]
/-- the absolute value -/
theorem absR_of (q : Rat) : absR q = ((up q : Nat) : Rat) / ((q.den : Nat) : Rat) := by
  rw [← ratOf_false]
  unfold absR
  have h := ratOf_self q
  by_cases hn : q < 0
  · rw [if_pos hn]
    rw [(neg_iff q).2 hn] at h
    conv => lhs; rw [← h, ratOf_negate]
    rfl
  · rw [if_neg hn]
    have : neg q = false := by
      cases hh : neg q
      · rfl
      · exact absurd ((neg_iff q).1 hh) hn
    rw [this] at h
    exact h.symm
theorem absR_nonneg (q : Rat) : 0 ≤ absR q := by
  unfold absR
  split
  · next h => have := Rat.le_of_lt h; grind
  · next h => exact Rat.not_lt.1 h
theorem tenR_pow (p : Int) : powR 10 p = tenR p := by
  unfold powR tenR tenUp tenDn
  have h10 : ((10 ^ p.natAbs : Nat) : Rat) = (10 : Rat) ^ p.natAbs := by rw [Rat.natCast_pow]; rfl
  by_cases h : p < 0
  · rw [if_pos h, ← h10, show p.toNat = 0 by omega, show (-p).toNat = p.natAbs by omega]
    rw [Rat.div_def]
    have : ((10 ^ 0 : Nat) : Rat) = 1 := rfl
    rw [this, Rat.one_mul]
  · rw [if_neg h, ← h10, show p.toNat = p.natAbs by omega, show (-p).toNat = 0 by omega]
    have : ((10 ^ 0 : Nat) : Rat) = 1 := rfl
    rw [this]; grind
/-- what stands to be rounded -/
theorem scaled_of (q : Rat) (p : Int) : absR q * tenR p = (((up q * tenUp p : Nat) : Int) : Rat) / ((q.den * tenDn p : Nat) : Rat) := by
  rw [absR_of]
  unfold tenR
  have h1 := nat_ne q.den_nz
  have h2 := nat_ne (Nat.pos_iff_ne_zero.1 (tenDn_pos p))
  rw [Rat.intCast_natCast, Rat.natCast_mul, Rat.natCast_mul]
  grind
theorem roundNum_floor (n d : Nat) (hd : d ≠ 0) : ((roundNum n d : Nat) : Int) = ((((n : Nat) : Int) : Rat) / ((d : Nat) : Rat) + 1 / 2).floor := by
  have h1 := nat_ne hd
  have e : (((n : Nat) : Int) : Rat) / ((d : Nat) : Rat) + 1 / 2 = (((n + n + d : Nat) : Int) : Rat) / ((d + d : Nat) : Rat) := by
    have h2 : (((d + d : Nat)) : Rat) ≠ 0 := nat_ne (by omega)
    rw [Rat.intCast_natCast, Rat.intCast_natCast, Rat.natCast_add, Rat.natCast_add, Rat.natCast_add]
    rw [Rat.natCast_add] at h2
    grind
  rw [e, floor_ratio _ _ (by omega)]
  unfold roundNum
  omega
/-- rounding, said with fractions -/
theorem roundR_of (q : Rat) (p : Int) : roundR q p = signedR ((((absR q * tenR p + 1 / 2).floor : Int) : Rat) / tenR p) q := by
  have hr := roundNum_floor (up q * tenUp p) (q.den * tenDn p) (Nat.mul_ne_zero q.den_nz (Nat.pos_iff_ne_zero.1 (tenDn_pos p)))
  rw [← scaled_of] at hr
  rw [← hr]
  unfold roundR signedR
  generalize roundNum (up q * tenUp p) (q.den * tenDn p) = m
  have h1 := nat_ne (Nat.pos_iff_ne_zero.1 (tenUp_pos p))
  have h2 := nat_ne (Nat.pos_iff_ne_zero.1 (tenDn_pos p))
  have e : ratOf false (m * tenDn p) (1 * tenUp p) = (((m : Nat) : Int) : Rat) / tenR p := by
    rw [ratOf_false, Nat.one_mul]
    unfold tenR
    rw [Rat.natCast_mul, Rat.intCast_natCast]
    grind
  by_cases hn : q < 0
  · rw [if_pos hn, (neg_iff q).2 hn, ← e, ratOf_negate]; rfl
  · have : neg q = false := by
      cases hh : neg q
      · rfl
      · exact absurd ((neg_iff q).1 hh) hn
    rw [if_neg hn, this, e]
/-- rounding away from zero (up) or towards it, to decimal places -/
def cutR (upw : Bool) (q : Rat) (p : Int) : Rat :=
  signedR ((if upw = true ∧ ((((absR q * tenR p).floor : Int) : Rat) ≠ absR q * tenR p) then (((absR q * tenR p).floor : Int) : Rat) + 1 else (((absR q * tenR p).floor : Int) : Rat)) / tenR p) q

theorem absR_signed {v q : Rat} (hv : 0 ≤ v) : absR (signedR v q) = v := by
  have h0 : ¬ v < 0 := Rat.not_lt.2 hv
  unfold absR signedR
  by_cases h : q < 0
  · rw [if_pos h]
    by_cases h2 : -v < 0
    · rw [if_pos h2, Rat.neg_neg]
    · rw [if_neg h2]
      have h3 : 0 ≤ -v := Rat.not_lt.1 h2
      grind
  · rw [if_neg h, if_neg h0]
theorem floor_nonneg {x : Rat} (h : 0 ≤ x) : (0 : Rat) ≤ ((x.floor : Int) : Rat) := by
  have : (0 : Int) ≤ x.floor := Rat.le_floor_iff.2 h
  exact_mod_cast this
theorem scaled_nonneg (q : Rat) (p : Int) : 0 ≤ absR q * tenR p := Rat.mul_nonneg (absR_nonneg q) (Rat.le_of_lt (tenR_pos p))
theorem abs_down (q : Rat) (p : Int) : absR (cutR false q p) = (((absR q * tenR p).floor : Int) : Rat) / tenR p := by
  unfold cutR
  rw [if_neg (fun h => absurd h.1 (by decide))]
  exact absR_signed (div_nonneg (floor_nonneg (scaled_nonneg q p)) (tenR_pos p))
theorem abs_up (q : Rat) (p : Int) : ∃ z : Int, absR (cutR true q p) = (z : Rat) / tenR p ∧ absR q * tenR p ≤ (z : Rat) ∧ (absR q * tenR p + 1 / 2).floor ≤ z := by
  have h0 := floor_nonneg (scaled_nonneg q p)
  unfold cutR
  generalize hy : absR q * tenR p = y at *
  by_cases h : (((y.floor : Int) : Rat) ≠ y)
  · rw [if_pos ⟨rfl, h⟩]
    refine ⟨y.floor + 1, ?_, ?_, ?_⟩
    · rw [absR_signed (div_nonneg (by grind) (tenR_pos p)), Rat.intCast_add]; rfl
    · exact Rat.le_of_lt (Rat.lt_floor_add_one y)
    · have h1 := Rat.lt_floor_add_one y
      have h2 : (y + 1 / 2).floor < y.floor + 2 := by
        rw [Rat.floor_lt_iff, Rat.intCast_add]
        rw [Rat.intCast_add] at h1
        have e1 : ((1 : Int) : Rat) = 1 := rfl
        have e2 : ((2 : Int) : Rat) = 2 := rfl
        rw [e1] at h1; rw [e2]
        grind
      omega
  · rw [if_neg (fun k => h k.2)]
    have h : ((y.floor : Int) : Rat) = y := Decidable.not_not.1 h
    refine ⟨y.floor, absR_signed (div_nonneg h0 (tenR_pos p)), by rw [h]; exact Rat.le_refl, ?_⟩
    have h2 : (y + 1 / 2).floor < y.floor + 1 := by
      rw [Rat.floor_lt_iff, Rat.intCast_add, h]
      have e1 : ((1 : Int) : Rat) = 1 := rfl
      rw [e1]
      grind
    omega
theorem abs_round (q : Rat) (p : Int) : absR (roundR q p) = (((absR q * tenR p + 1 / 2).floor : Int) : Rat) / tenR p := by
  rw [roundR_of]
  have := scaled_nonneg q p
  exact absR_signed (div_nonneg (floor_nonneg (by grind)) (tenR_pos p))
theorem div_mono {a b c : Rat} (hc : 0 < c) (h : a ≤ b) : a / c ≤ b / c := by
  have h5 := Rat.mul_le_mul_of_nonneg_right h (Rat.le_of_lt (Rat.inv_pos.2 hc))
  rw [Rat.div_def, Rat.div_def]; exact h5
theorem down_le (q : Rat) (p : Int) : absR (cutR false q p) ≤ absR q := by
  rw [abs_down]; exact div_le (tenR_pos p) (Rat.floor_le _)
theorem le_up (q : Rat) (p : Int) : absR q ≤ absR (cutR true q p) := by
  obtain ⟨z, e, h, _⟩ := abs_up q p
  rw [e]; exact le_div (tenR_pos p) h
theorem down_le_round (q : Rat) (p : Int) : absR (cutR false q p) ≤ absR (roundR q p) := by
  rw [abs_down, abs_round]
  refine div_mono (tenR_pos p) ?_
  have : (absR q * tenR p).floor ≤ (absR q * tenR p + 1 / 2).floor := Rat.floor_monotone (by grind)
  exact_mod_cast this
theorem round_le_up (q : Rat) (p : Int) : absR (roundR q p) ≤ absR (cutR true q p) := by
  obtain ⟨z, e, _, h⟩ := abs_up q p
  rw [e, abs_round]
  refine div_mono (tenR_pos p) ?_
  exact_mod_cast h
theorem round_again (q : Rat) (p : Int) : roundR (roundR q p) p = roundR q p := by
  have hp := tenR_pos p
  have hne := rat_ne hp
  have e : absR (roundR q p) * tenR p = (((absR q * tenR p + 1 / 2).floor : Int) : Rat) := by
    rw [abs_round]; grind
  rw [roundR_of (roundR q p) p, e]
  generalize hz : (absR q * tenR p + 1 / 2).floor = z at *
  have hz0 : 0 ≤ z := by
    rw [← hz, Rat.le_floor_iff]
    have := scaled_nonneg q p
    have e0 : ((0 : Int) : Rat) = 0 := rfl
    rw [e0]; grind
  have h1 : (((z : Int) : Rat) + 1 / 2).floor = z := by
    apply Int.le_antisymm
    · have : ((z : Rat) + 1 / 2).floor < z + 1 := by
        rw [Rat.floor_lt_iff, Rat.intCast_add]
        have e1 : ((1 : Int) : Rat) = 1 := rfl
        rw [e1]; grind
      omega
    · rw [Rat.le_floor_iff]; grind
  rw [h1, roundR_of q p, hz]
  by_cases h0 : z = 0
  · subst h0
    have : ((0 : Int) : Rat) / tenR p = 0 := by
      have e0 : ((0 : Int) : Rat) = 0 := rfl
      rw [e0]; grind
    rw [this]
    unfold signedR
    split <;> split <;> grind
  · have hv : 0 < ((z : Int) : Rat) / tenR p := div_pos (by
      have : (0 : Int) < z := by omega
      exact_mod_cast this) hp
    generalize ((z : Int) : Rat) / tenR p = v at hv
    unfold signedR
    by_cases hq : q < 0
    · rw [if_pos hq]
      have : -v < 0 := by grind
      rw [if_pos this]
    · rw [if_neg hq]
      have : ¬ v < 0 := by grind
      rw [if_neg this]
/-- the next multiple below, above -/
theorem limit_down (q y : Rat) (hy : 0 < y) : y * (((q / y).floor : Int) : Rat) ≤ q := by
  have h := Rat.mul_le_mul_of_nonneg_right (Rat.floor_le (q / y)) (Rat.le_of_lt hy)
  have hne := rat_ne hy
  have e : q / y * y = q := by grind
  rw [e] at h
  rw [Rat.mul_comm]; exact h
theorem limit_up (q y : Rat) (hy : 0 < y) : q ≤ -(y * ((((-q) / y).floor : Int) : Rat)) := by
  have h := limit_down (-q) y hy
  grind
end Go.Proofs.YtcbolipiaflfbaaGreatDoor.Num

/- Loans: plain laws, no program. No conditions. -/
namespace Go.Proofs.YtcbolipiaflfbaaGreatDoor.Num

def growR (r : Rat) (n : Nat) : Rat := (1 + r) ^ n
def sumR0 (r : Rat) (n : Nat) : Rat := if r = 0 then (n : Rat) else (growR r n - 1) / r
def sumR (r : Rat) (n : Nat) (e : Bool) : Rat := if e then sumR0 r n * (1 + r) else sumR0 r n
def payR (r : Rat) (n : Nat) (e : Bool) (v w : Rat) : Rat := -((v * growR r n + w) / sumR r n e)
def futR (r : Rat) (n : Nat) (e : Bool) (p v : Rat) : Rat := -(v * growR r n + p * sumR r n e)
def presR (r : Rat) (n : Nat) (e : Bool) (p w : Rat) : Rat := -((w + p * sumR r n e) / growR r n)
/-- the interest of the k-th payment, ahead of the division at the period's beginning -/
def intR0 (r : Rat) (k n : Nat) (e : Bool) (v w : Rat) : Rat := if e = false ∨ 1 < k then futR r (k - 1) e (payR r n e v w) v * r else 0
def intR (r : Rat) (k n : Nat) (e : Bool) (v w : Rat) : Rat := if e then intR0 r k n e v w / (1 + r) else intR0 r k n e v w

theorem fut_pay (r : Rat) (n : Nat) (e : Bool) (v w : Rat) (hs : sumR r n e ≠ 0) : futR r n e (payR r n e v w) v = w := by
  unfold futR payR
  generalize sumR r n e = s at *
  generalize growR r n = g
  grind
theorem pres_pay (r : Rat) (n : Nat) (e : Bool) (v w : Rat) (hs : sumR r n e ≠ 0) (hg : growR r n ≠ 0) : presR r n e (payR r n e v w) w = v := by
  unfold presR payR
  generalize sumR r n e = s at *
  generalize growR r n = g at *
  grind
theorem grow_zero (r : Rat) : growR r 0 = 1 := Rat.pow_zero _
theorem grow_succ (r : Rat) (n : Nat) : growR r (n + 1) = growR r n * (1 + r) := Rat.pow_succ _ _
theorem sum_zero (r : Rat) : sumR0 r 0 = 0 := by
  unfold sumR0
  rw [grow_zero]
  split
  · rfl
  · grind
theorem sum_succ (r : Rat) (n : Nat) : sumR0 r (n + 1) = sumR0 r n * (1 + r) + 1 := by
  unfold sumR0
  by_cases h : r = 0
  · rw [if_pos h, if_pos h, Rat.natCast_add]
    have e1 : ((1 : Nat) : Rat) = 1 := rfl
    rw [e1]; grind
  · rw [if_neg h, if_neg h, grow_succ]
    generalize growR r n = g
    grind
/-- what is owed behind k periods -/
def owedR (r : Rat) (k : Nat) (p v : Rat) : Rat := v * growR r k + p * sumR0 r k
theorem owed_zero (r p v : Rat) : owedR r 0 p v = v := by unfold owedR; rw [grow_zero, sum_zero]; grind
theorem owed_succ (r : Rat) (k : Nat) (p v : Rat) : owedR r (k + 1) p v = owedR r k p v * (1 + r) + p := by
  unfold owedR
  rw [grow_succ, sum_succ]
  grind
theorem owed_end (r : Rat) (n : Nat) (v : Rat) (hs : sumR0 r n ≠ 0) : owedR r n (payR r n false v 0) v = 0 := by
  unfold owedR payR
  show v * growR r n + -((v * growR r n + 0) / sumR0 r n) * sumR0 r n = 0
  generalize sumR0 r n = s at *
  generalize growR r n = g
  grind
theorem intR_owed (r : Rat) (k n : Nat) (v : Rat) : intR r (k + 1) n false v 0 = -(owedR r k (payR r n false v 0) v * r) := by
  unfold intR intR0 futR
  rw [if_neg (by decide), if_pos (Or.inl rfl)]
  show -(v * growR r k + payR r n false v 0 * sumR0 r k) * r = _
  unfold owedR
  grind
theorem prin_owed (r : Rat) (k n : Nat) (v : Rat) : payR r n false v 0 - intR r (k + 1) n false v 0 = owedR r (k + 1) (payR r n false v 0) v - owedR r k (payR r n false v 0) v := by
  rw [intR_owed, owed_succ]
  grind
/-- the sums of interests and of principals up to a payment -/
def intsR (r : Rat) (n : Nat) (v : Rat) : Nat → Rat
  | 0 => 0
  | k + 1 => intsR r n v k + intR r (k + 1) n false v 0
def prinsR (r : Rat) (n : Nat) (v : Rat) : Nat → Rat
  | 0 => 0
  | k + 1 => prinsR r n v k + (payR r n false v 0 - intR r (k + 1) n false v 0)
theorem prins_of (r : Rat) (n : Nat) (v : Rat) (k : Nat) : prinsR r n v k = owedR r k (payR r n false v 0) v - v := by
  induction k with
  | zero => rw [owed_zero]; unfold prinsR; grind
  | succ k ih => unfold prinsR; rw [ih, prin_owed]; grind
theorem ints_of (r : Rat) (n : Nat) (v : Rat) (k : Nat) : intsR r n v k = (k : Rat) * payR r n false v 0 - prinsR r n v k := by
  induction k with
  | zero =>
    unfold intsR prinsR
    have e0 : ((0 : Nat) : Rat) = 0 := rfl
    rw [e0]; grind
  | succ k ih =>
    unfold intsR prinsR
    rw [ih, Rat.natCast_add]
    have e1 : ((1 : Nat) : Rat) = 1 := rfl
    rw [e1]; grind
theorem prins_end (r : Rat) (n : Nat) (v : Rat) (hs : sumR0 r n ≠ 0) : prinsR r n v n + v = 0 := by
  rw [prins_of, owed_end r n v hs]; grind

/-- bounds -/
theorem Sm.pow {q : Rat} {A B : Nat} (h : Sm q A B) (n : Nat) : Sm (q ^ n) (A ^ n) (B ^ n) := by
  induction n with
  | zero =>
    have h1 : Sm ((1 : Int) : Rat) 1 1 := Sm.int 1 (by decide)
    rw [Rat.pow_zero]; exact h1.mono (by simp) (by simp)
  | succ n ih => rw [Rat.pow_succ, Nat.pow_succ, Nat.pow_succ]; exact ih.mul h
end Go.Proofs.YtcbolipiaflfbaaGreatDoor.Num

/- Loans of at most 24 periods: how long the fractions on the way are. Plain: no program. -/
namespace Go.Proofs.YtcbolipiaflfbaaGreatDoor.Num

theorem pow_le24 (b : Nat) (hb : 0 < b) {k : Nat} (h : k ≤ 24) : b ^ k ≤ b ^ 24 := Nat.pow_le_pow_right hb h
/-- the rate: a hundredths -/
def rateR (a : Int) : Rat := (a : Rat) / ((100 : Int) : Rat)
theorem rate_sm {a : Int} (h0 : -9 ≤ a) (h1 : a ≤ 30) : Sm (rateR a) 30 100 := (Sm.ratio a 100 (by decide) (A := 30) (B := 100) (by omega) (by decide)).mono (by decide) (by decide)
theorem one_rate (a : Int) : 1 + rateR a = ((100 + a : Int) : Rat) / ((100 : Int) : Rat) := by
  unfold rateR
  have h : ((100 : Int) : Rat) ≠ 0 := int_ne (by decide)
  rw [Rat.intCast_add]
  grind
theorem one_rate_sm {a : Int} (h0 : -9 ≤ a) (h1 : a ≤ 30) : Sm (1 + rateR a) 130 100 := by
  rw [one_rate]
  exact (Sm.ratio (100 + a) 100 (by decide) (A := 130) (B := 100) (by omega) (by decide)).mono (by decide) (by decide)
theorem one_rate_ne {a : Int} (h0 : -9 ≤ a) : 1 + rateR a ≠ 0 := by
  rw [one_rate]
  have h1 : ((100 + a : Int) : Rat) ≠ 0 := int_ne (by omega)
  have h2 : ((100 : Int) : Rat) ≠ 0 := int_ne (by decide)
  intro h
  grind
theorem rate_zero {a : Int} : rateR a = 0 ↔ a = 0 := by
  unfold rateR
  have h2 : ((100 : Int) : Rat) ≠ 0 := int_ne (by decide)
  constructor
  · intro h
    by_cases ha : a = 0
    · exact ha
    · have := int_ne ha
      exfalso
      grind
  · rintro rfl
    have : ((0 : Int) : Rat) = 0 := rfl
    rw [this]; grind
theorem grow_of (a : Int) (k : Nat) : growR (rateR a) k = (((100 + a) ^ k : Int) : Rat) / (((100 : Int) ^ k : Int) : Rat) := by
  unfold growR
  rw [one_rate]
  have h2 : ((100 : Int) : Rat) ≠ 0 := int_ne (by decide)
  induction k with
  | zero =>
    rw [Rat.pow_zero, Int.pow_zero, Int.pow_zero]
    exact (by decide +kernel : (1 : Rat) = ((1 : Int) : Rat) / ((1 : Int) : Rat))
  | succ k ih =>
    have h3 : (((100 : Int) ^ k : Int) : Rat) ≠ 0 := int_ne (by
      have : (0 : Int) < 100 ^ k := Int.pow_pos (by decide)
      omega)
    rw [Rat.pow_succ, ih, Int.pow_succ, Int.pow_succ, Rat.intCast_mul, Rat.intCast_mul]
    grind
theorem grow_sm {a : Int} (h0 : -9 ≤ a) (h1 : a ≤ 30) {k : Nat} (hk : k ≤ 24) : Sm (growR (rateR a) k) (130 ^ 24) (100 ^ 24) :=
  (Sm.pow (one_rate_sm h0 h1) k).mono (pow_le24 130 (by decide) hk) (pow_le24 100 (by decide) hk)
theorem grow_ne {a : Int} (h0 : -9 ≤ a) (k : Nat) : growR (rateR a) k ≠ 0 := by
  unfold growR
  have h := one_rate_ne h0
  induction k with
  | zero => rw [Rat.pow_zero]; decide
  | succ k ih =>
    rw [Rat.pow_succ]
    intro e
    rcases Rat.mul_eq_zero.1 e with h' | h'
    · exact ih h'
    · exact h h'
/-- powers of different bases differ -/
theorem pow_ne {a : Int} (h0 : -9 ≤ a) (ha : a ≠ 0) {n : Nat} (hn : 1 ≤ n) : (100 + a) ^ n ≠ (100 : Int) ^ n := by
  obtain ⟨b, hb⟩ : ∃ b : Nat, 100 + a = (b : Int) := ⟨(100 + a).toNat, by omega⟩
  rw [hb]
  intro e
  have e' : b ^ n = 100 ^ n := by exact_mod_cast e
  have : b = 100 := by
    rcases Nat.lt_trichotomy b 100 with h | h | h
    · have := Nat.pow_lt_pow_left h (show n ≠ 0 by omega)
      omega
    · exact h
    · have := Nat.pow_lt_pow_left h (show n ≠ 0 by omega)
      omega
  omega
theorem sum0_sm {a : Int} (h0 : -9 ≤ a) (h1 : a ≤ 30) {k : Nat} (hk : k ≤ 24) : Sm (sumR0 (rateR a) k) ((130 ^ 24 + 100 ^ 24) * 100) (100 ^ 24 * 30) := by
  unfold sumR0
  split
  · exact (Sm.int (k : Int) (A := 24) (by omega)).mono (by decide +kernel) (by decide +kernel)
  · next h =>
    have s1 := ((grow_sm h0 h1 hk).sub (Sm.int 1 (A := 1) (by decide))).div (rate_sm h0 h1) h
    exact s1.mono (by decide +kernel) (by decide +kernel)
theorem sum0_ne {a : Int} (h0 : -9 ≤ a) {n : Nat} (hn : 1 ≤ n) : sumR0 (rateR a) n ≠ 0 := by
  unfold sumR0
  split
  · intro e
    have : ((n : Int) : Rat) = ((0 : Int) : Rat) := e
    have : (n : Int) = 0 := by exact_mod_cast this
    omega
  · next h =>
    have ha : a ≠ 0 := fun e => h (rate_zero.2 e)
    have hne := pow_ne h0 ha hn
    rw [grow_of]
    have h3 : (((100 : Int) ^ n : Int) : Rat) ≠ 0 := int_ne (by
      have : (0 : Int) < 100 ^ n := Int.pow_pos (by decide)
      omega)
    have h4 : (((100 + a) ^ n : Int) : Rat) ≠ (((100 : Int) ^ n : Int) : Rat) := fun e => hne (by exact_mod_cast e)
    intro e
    grind
/-- what is owed: hundredths -/
def cents (V : Int) : Rat := (V : Rat) / ((100 : Int) : Rat)
theorem cents_sm {V : Int} (h : V.natAbs ≤ 1000000) : Sm (cents V) 1000000 100 := (Sm.ratio V 100 (by decide) (A := 1000000) (B := 100) h (by decide)).mono (by decide) (by decide)
theorem natAbs_pow_le {a : Int} (h0 : -9 ≤ a) (h1 : a ≤ 30) {n : Nat} (hn : n ≤ 24) : ((100 + a) ^ n).natAbs ≤ 130 ^ 24 := by
  rw [Int.natAbs_pow]
  exact Nat.le_trans (Nat.pow_le_pow_left (show (100 + a).natAbs ≤ 130 by omega) n) (pow_le24 130 (by decide) hn)
/-- the payment where nothing is left in the end: few digits -/
theorem pay_small {a V : Int} (h0 : -9 ≤ a) (h1 : a ≤ 30) {n : Nat} (hn : n ≤ 24) (hn1 : 1 ≤ n) (hV : V.natAbs ≤ 1000000) : Sm (payR (rateR a) n false (cents V) 0) (1000000 * 130 ^ 24 * 30) (10000 * (130 ^ 24 + 100 ^ 24)) := by
  by_cases ha : a = 0
  · have hr : rateR a = 0 := rate_zero.2 ha
    have hs : sumR (rateR a) n false = (n : Rat) := by
      show sumR0 (rateR a) n = _
      unfold sumR0
      rw [if_pos hr]
    have hg : growR (rateR a) n = 1 := by
      unfold growR
      rw [hr, Rat.add_zero]
      induction n with
      | zero => exact Rat.pow_zero _
      | succ n ih => 
        by_cases h : 1 ≤ n
        · rw [Rat.pow_succ, ih (by omega) h (by
            show sumR0 (rateR a) n = _
            unfold sumR0
            rw [if_pos hr]), Rat.mul_one]
        · have : n = 0 := by omega
          subst this
          rw [Rat.pow_succ, Rat.pow_zero, Rat.mul_one]
    have e : payR (rateR a) n false (cents V) 0 = -(cents V / ((n : Int) : Rat)) := by
      unfold payR
      rw [hs, hg, Rat.mul_one, Rat.add_zero]; rfl
    rw [e]
    have hn0 : ((n : Int) : Rat) ≠ 0 := int_ne (by omega)
    exact (((cents_sm hV).div (Sm.int (n : Int) (A := 24) (by omega)) hn0).neg).mono (by decide +kernel) (by decide +kernel)
  · have hne := pow_ne h0 ha hn1
    have h3 : (((100 : Int) ^ n : Int) : Rat) ≠ 0 := int_ne (by
      have : (0 : Int) < 100 ^ n := Int.pow_pos (by decide)
      omega)
    have h4 : (((100 + a) ^ n : Int) : Rat) ≠ (((100 : Int) ^ n : Int) : Rat) := fun e => hne (by exact_mod_cast e)
    have h5 : (a : Rat) ≠ 0 := int_ne ha
    have e : payR (rateR a) n false (cents V) 0 = ((-(V * (100 + a) ^ n * a) : Int) : Rat) / ((10000 * ((100 + a) ^ n - 100 ^ n) : Int) : Rat) := by
      unfold payR sumR sumR0
      rw [if_neg (by decide), if_neg (fun h => ha (rate_zero.1 h)), grow_of]
      unfold rateR cents
      rw [Rat.intCast_neg, Rat.intCast_mul, Rat.intCast_mul, Rat.intCast_mul, Rat.intCast_sub]
      have h2 : ((100 : Int) : Rat) = 100 := rfl
      have h2' : ((10000 : Int) : Rat) = 10000 := rfl
      rw [h2, h2']
      generalize (((100 + a) ^ n : Int) : Rat) = x at *
      generalize (((100 : Int) ^ n : Int) : Rat) = y at *
      have h6 : x - y ≠ 0 := fun e => h4 (by grind)
      have h7 : (x / y - 1) / ((a : Rat) / 100) ≠ 0 := by
        intro e
        grind
      grind
    rw [e]
    have hd : 10000 * ((100 + a) ^ n - 100 ^ n) ≠ (0 : Int) := by
      intro e
      apply hne
      omega
    refine (Sm.ratio _ _ hd (A := 1000000 * 130 ^ 24 * 30) (B := 10000 * (130 ^ 24 + 100 ^ 24)) ?_ ?_).mono (by decide +kernel) (by decide +kernel)
    · rw [Int.natAbs_neg, Int.natAbs_mul, Int.natAbs_mul]
      exact Nat.mul_le_mul (Nat.mul_le_mul hV (natAbs_pow_le h0 h1 hn)) (by omega)
    · rw [Int.natAbs_mul]
      refine Nat.mul_le_mul (Nat.le_refl _) ?_
      refine Nat.le_trans (Int.natAbs_sub_le _ _) ?_
      refine Nat.add_le_add (natAbs_pow_le h0 h1 hn) ?_
      rw [Int.natAbs_pow]
      exact pow_le24 100 (by decide) hn
end Go.Proofs.YtcbolipiaflfbaaGreatDoor.Num

/- Loans of at most 24 periods: everything on the way has fewer than 300 digits. Plain: no program. -/
namespace Go.Proofs.YtcbolipiaflfbaaGreatDoor.Num

/-- at most 10^k over 10^l -/
def SD (q : Rat) (k l : Nat) : Prop := Sm q (10 ^ k) (10 ^ l)
theorem SD.mono {q : Rat} {k l k' l' : Nat} (h : SD q k l) (h1 : k ≤ k') (h2 : l ≤ l') : SD q k' l' :=
  Sm.mono h (Nat.pow_le_pow_right (by decide) h1) (Nat.pow_le_pow_right (by decide) h2)
set_option exponentiation.threshold 400 in
theorem SD.fits {q : Rat} {k l : Nat} (h : SD q k l) (h1 : k < 300) (h2 : l < 300) : fits q = true :=
  Sm.fits h (Nat.pow_lt_pow_right (by decide) h1) (Nat.pow_lt_pow_right (by decide) h2)
theorem SD.neg {q : Rat} {k l : Nat} (h : SD q k l) : SD (-q) k l := Sm.neg h
theorem SD.mul {p q : Rat} {k l m o : Nat} (h : SD p k l) (g : SD q m o) : SD (p * q) (k + m) (l + o) := by
  unfold SD
  rw [Nat.pow_add, Nat.pow_add]
  exact Sm.mul h g
theorem SD.div {p q : Rat} {k l m o : Nat} (h : SD p k l) (g : SD q m o) (h0 : q ≠ 0) : SD (p / q) (k + o) (l + m) := by
  unfold SD
  rw [Nat.pow_add, Nat.pow_add]
  exact Sm.div h g h0
theorem ten_add {a b c : Nat} (h1 : a ≤ c) (h2 : b ≤ c) : 10 ^ a + 10 ^ b ≤ 10 ^ (c + 1) := by
  have e1 : 10 ^ a ≤ 10 ^ c := Nat.pow_le_pow_right (by decide) h1
  have e2 : 10 ^ b ≤ 10 ^ c := Nat.pow_le_pow_right (by decide) h2
  rw [Nat.pow_succ]
  omega
theorem SD.add {p q : Rat} {k l m o c : Nat} (h : SD p k l) (g : SD q m o) (h1 : k + o ≤ c) (h2 : m + l ≤ c) : SD (p + q) (c + 1) (l + o) := by
  refine Sm.mono (Sm.add h g) ?_ ?_
  · rw [← Nat.pow_add, ← Nat.pow_add]
    exact ten_add h1 h2
  · rw [← Nat.pow_add]
    exact Nat.le_refl _
theorem SD.sub {p q : Rat} {k l m o c : Nat} (h : SD p k l) (g : SD q m o) (h1 : k + o ≤ c) (h2 : m + l ≤ c) : SD (p - q) (c + 1) (l + o) := by
  rw [Rat.sub_eq_add_neg]
  exact SD.add h (SD.neg g) h1 h2
theorem sd_of {q : Rat} {A B k l : Nat} (h : Sm q A B) (h1 : A ≤ 10 ^ k) (h2 : B ≤ 10 ^ l) : SD q k l := Sm.mono h h1 h2
theorem Sm.up_den {q : Rat} {A B : Nat} (h : Sm q A B) : up q ≤ A ∧ q.den ≤ B := by
  obtain ⟨a, b, hb, rfl, x, y⟩ := h
  have e := ratio_of a (b : Int) (by omega)
  rw [Rat.intCast_natCast] at e
  rw [← e]
  constructor
  · have hu : up (ratOf (Num.neg (a : Rat) != Num.neg (((b : Nat) : Int) : Rat)) a.natAbs ((b : Nat) : Int).natAbs) ≤ A := by
      rw [ratOf_up _ _ (by omega)]; exact Nat.le_trans (Nat.div_le_self _ _) x
    rw [Rat.intCast_natCast] at hu
    exact hu
  · have hd : (ratOf (Num.neg (a : Rat) != Num.neg (((b : Nat) : Int) : Rat)) a.natAbs ((b : Nat) : Int).natAbs).den ≤ B := by
      rw [ratOf_den _ _ (by omega)]; exact Nat.le_trans (Nat.div_le_self _ _) (by simpa using y)
    rw [Rat.intCast_natCast] at hd
    exact hd
/-- the growth of a loan is short enough for exact.Power -/
theorem grow_limbs {a : Int} (a0 : -9 ≤ a) (a1 : a ≤ 30) {k : Nat} (hk : k ≤ 24) : up (1 + rateR a) ^ k < 10 ^ 300 ∧ (1 + rateR a).den ^ k < 10 ^ 300 := by
  have h := (one_rate_sm a0 a1).up_den
  constructor
  · exact Nat.lt_of_le_of_lt (Nat.le_trans (Nat.pow_le_pow_left h.1 k) (pow_le24 130 (by decide) hk)) (by decide +kernel)
  · exact Nat.lt_of_le_of_lt (Nat.le_trans (Nat.pow_le_pow_left h.2 k) (pow_le24 100 (by decide) hk)) (by decide +kernel)
section
variable {a V U : Int} {n k : Nat} {e : Bool} (a0 : -9 ≤ a) (a1 : a ≤ 30) (hV : V.natAbs ≤ 1000000) (hU : U.natAbs ≤ 1000000)
include a0 a1
theorem rate_sd : SD (rateR a) 2 2 := sd_of (rate_sm a0 a1) (by decide) (by decide)
theorem one_rate_sd : SD (1 + rateR a) 3 2 := sd_of (one_rate_sm a0 a1) (by decide) (by decide)
theorem grow_sd (hk : k ≤ 24) : SD (growR (rateR a) k) 51 48 := sd_of (grow_sm a0 a1 hk) (by decide +kernel) (by decide +kernel)
theorem grow1_sd (hk : k ≤ 24) : SD (growR (rateR a) k - 1) 52 48 :=
  SD.sub (o := 0) (m := 0) (grow_sd a0 a1 hk) (sd_of (Sm.int 1 (A := 1) (by decide)) (by decide) (by decide)) (c := 51) (by decide) (by decide)
theorem sum0_sd (hk : k ≤ 24) : SD (sumR0 (rateR a) k) 53 50 := sd_of (sum0_sm a0 a1 hk) (by decide +kernel) (by decide +kernel)
theorem sum_sd (hk : k ≤ 24) : SD (sumR (rateR a) k e) 56 52 := by
  unfold sumR
  split
  · exact SD.mul (sum0_sd a0 a1 hk) (one_rate_sd a0 a1)
  · exact (sum0_sd a0 a1 hk).mono (by decide) (by decide)
omit a1 in
theorem sum_ne (hn : 1 ≤ n) : sumR (rateR a) n e ≠ 0 := by
  unfold sumR
  split
  · intro h
    rcases Rat.mul_eq_zero.1 h with h | h
    · exact sum0_ne a0 hn h
    · exact one_rate_ne a0 h
  · exact sum0_ne a0 hn
include hV
omit a0 a1 in
theorem cents_sd : SD (cents V) 6 2 := sd_of (cents_sm hV) (by decide) (by decide)
theorem vg_sd (hk : k ≤ 24) : SD (cents V * growR (rateR a) k) 57 50 := SD.mul (cents_sd hV) (grow_sd a0 a1 hk)
include hU
theorem vgw_sd (hk : k ≤ 24) : SD (cents V * growR (rateR a) k + cents U) 60 52 := SD.add (vg_sd a0 a1 hV hk) (cents_sd hU) (by decide) (by decide)
theorem pay_sd (hn : 1 ≤ n) (hk : n ≤ 24) : SD (payR (rateR a) n e (cents V) (cents U)) 112 108 :=
  SD.neg (SD.div (vgw_sd a0 a1 hV hU hk) (sum_sd a0 a1 hk) (sum_ne a0 hn))
theorem paysum_sd (hn : 1 ≤ n) (hk : n ≤ 24) : SD (payR (rateR a) n e (cents V) (cents U) * sumR (rateR a) n e) 168 160 :=
  SD.mul (pay_sd a0 a1 hV hU hn hk) (sum_sd a0 a1 hk)
theorem fut_sd (hn : 1 ≤ n) (hk : n ≤ 24) : SD (cents V * growR (rateR a) n + payR (rateR a) n e (cents V) (cents U) * sumR (rateR a) n e) 219 210 :=
  SD.add (vg_sd a0 a1 hV hk) (paysum_sd a0 a1 hV hU hn hk) (by decide) (by decide)
theorem presum_sd (hn : 1 ≤ n) (hk : n ≤ 24) : SD (cents U + payR (rateR a) n e (cents V) (cents U) * sumR (rateR a) n e) 171 162 :=
  SD.add (cents_sd hU) (paysum_sd a0 a1 hV hU hn hk) (by decide) (by decide)
theorem pres_sd (hn : 1 ≤ n) (hk : n ≤ 24) : SD ((cents U + payR (rateR a) n e (cents V) (cents U) * sumR (rateR a) n e) / growR (rateR a) n) 219 213 :=
  SD.div (presum_sd a0 a1 hV hU hn hk) (grow_sd a0 a1 hk) (grow_ne a0 n)
omit hU
/-- the parts of a payment where nothing is left in the end -/
theorem pays_sd (hn : 1 ≤ n) (hk : n ≤ 24) : SD (payR (rateR a) n false (cents V) 0) 59 55 := sd_of (pay_small a0 a1 hk hn hV) (by decide +kernel) (by decide +kernel)
theorem paysk_sd (hn : 1 ≤ n) (hk : n ≤ 24) (hkn : k ≤ 24) : SD (payR (rateR a) n false (cents V) 0 * sumR0 (rateR a) k) 112 105 :=
  SD.mul (pays_sd a0 a1 hV hn hk) (sum0_sd a0 a1 hkn)
theorem owed_sd (hn : 1 ≤ n) (hk : n ≤ 24) (hkn : k ≤ 24) : SD (owedR (rateR a) k (payR (rateR a) n false (cents V) 0) (cents V)) 163 155 :=
  SD.add (vg_sd a0 a1 hV hkn) (paysk_sd a0 a1 hV hn hk hkn) (by decide) (by decide)
theorem inte_sd (hn : 1 ≤ n) (hk : n ≤ 24) (hkn : k + 1 ≤ 24) : SD (intR (rateR a) (k + 1) n false (cents V) 0) 165 157 := by
  rw [intR_owed]
  exact SD.neg (SD.mul (owed_sd a0 a1 hV hn hk (by omega)) (rate_sd a0 a1))
theorem prin_sd (hn : 1 ≤ n) (hk : n ≤ 24) (hkn : k + 1 ≤ 24) : SD (payR (rateR a) n false (cents V) 0 - intR (rateR a) (k + 1) n false (cents V) 0) 221 212 :=
  SD.sub (pays_sd a0 a1 hV hn hk) (inte_sd a0 a1 hV hn hk hkn) (by decide) (by decide)
theorem prins_sd (hn : 1 ≤ n) (hk : n ≤ 24) (hkn : k ≤ 24) : SD (prinsR (rateR a) n (cents V) k) 166 157 := by
  rw [prins_of]
  exact SD.sub (owed_sd a0 a1 hV hn hk hkn) (cents_sd hV) (by decide) (by decide)
theorem ints_sd (hn : 1 ≤ n) (hk : n ≤ 24) (hkn : k ≤ 24) : SD (intsR (rateR a) n (cents V) k) 222 212 := by
  rw [ints_of]
  have hK : SD (k : Rat) 2 0 := sd_of (Sm.int (k : Int) (A := 24) (by omega)) (by decide) (by decide)
  exact SD.sub (SD.mul hK (pays_sd a0 a1 hV hn hk)) (prins_sd a0 a1 hV hn hk hkn) (by decide) (by decide)
end
end Go.Proofs.YtcbolipiaflfbaaGreatDoor.Num

/- package fmoney's variable one, beside the tables. No conditions. -/
namespace Go.Proofs.YtcbolipiaflfbaaGreatDoor.Num.Fy
open Go.RowKit Go.Lib Num

/-- the tables lie as they are laid, and one is 1 -/
structure EnvY (w : World) : Prop where
  e : Env w
  one : ∀ i, i < 2 → w.cell? ⟨0, i, none⟩ = some (.string { data := #[49] })
theorem past_one {b : Nat} (h : Past b) : 0 < b := Nat.lt_of_le_of_lt (by decide) h.1
theorem EnvY.below {w w' : World} (h : EnvY w) (hb : Below w.heap.size w w') : EnvY w' :=
  ⟨h.e.below hb, fun i hi => (hb.cell (p := ⟨0, i, none⟩) (past_one h.e.room)).trans (h.one i hi)⟩
theorem EnvY.kept {w w' : World} {b : Nat} (h : EnvY w) (hg : w.grownBy w' (some b)) (hb : Past b) : EnvY w' :=
  ⟨h.e.kept hg hb, fun i hi => kept_cell (h.one i hi) hg (Nat.ne_of_lt (past_one hb))⟩
theorem EnvY.of {w w' : World} (h : EnvY w) (hb : Below w.heap.size w w') (g : Env w') : EnvY w' := ⟨g, (h.below hb).one⟩
theorem numS_one : numS 1 = { data := #[49] } := by decide +kernel
theorem denS_one : denS 1 = { data := #[49] } := by decide +kernel
theorem one_is : fracV 1 = .agg #[.string { data := #[49] }, .string { data := #[49] }] := by rw [fracV_is, numS_one, denS_one]
end Go.Proofs.YtcbolipiaflfbaaGreatDoor.Num.Fy
