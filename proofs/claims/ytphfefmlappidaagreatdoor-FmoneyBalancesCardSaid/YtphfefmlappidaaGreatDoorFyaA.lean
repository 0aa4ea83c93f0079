/- Numbers as texts of digits, fractions, values and the functions of fmath: contracts of the program's functions, joined from smaller texts. Conditions stand at each theorem. -/
import Derived.OrdersHeld
import Derived.Deep.RegionHeld3
import Derived.Test.YtphfefmlappidaaGreatDoorNumH
import Derived.Test.YtphfefmlappidaaGreatDoorNumG
import Derived.Test.YtphfefmlappidaaGreatDoorRows
import Derived.ProofKit
import Derived.SevenTiedAt

/- A region that draws its order, by one condition on what has come up, the frame and the world: each operation is walked once. Plain: of no program. -/
namespace Go.Proofs.YtphfefmlappidaaGreatDoor.Num

section
variable {P : Program} {ops : Array Oper} {Q : Exit → Act → World → Prop} {md : Region.Mode}

def unl (ops : Array Oper) (listed : Array Bool) : List Nat := (List.range ops.size).filter fun j => !(listed.getD j true)
theorem unl_set {listed : Array Bool} {i : Nat} (hi : i < ops.size) (hun : listed.getD i true = false) : (unl ops (listed.setIfInBounds i true)).length < (unl ops listed).length := by
  have hsz : i < listed.size := by
    rcases Nat.lt_or_ge i listed.size with h | h
    · exact h
    · simp [Array.getElem?_eq_none h] at hun
  have e : unl ops (listed.setIfInBounds i true) = (unl ops listed).filter fun j => !(j == i) := by
    unfold unl
    rw [List.filter_filter]
    apply List.filter_congr
    intro j hj
    by_cases hji : i = j
    · subst hji; simp [hsz]
    · have : (j == i) = false := by simp; omega
      rw [getD_set_ne true hji, this]; simp
  rw [e, List.length_filter_lt_length_iff_exists]
  refine ⟨i, ?_, by simp⟩
  unfold unl
  rw [List.mem_filter, List.mem_range]
  exact ⟨hi, by rw [hun]; rfl⟩
theorem unl_ready {listed : Array Bool} {i : Nat} (h : i ∈ Region.ready md ops listed) : 0 < (unl ops listed).length := by
  obtain ⟨h0, o, ho, _⟩ := mem_ready.1 h
  have hi : i < ops.size := (Array.getElem?_eq_some_iff.1 ho).1
  refine List.length_pos_of_mem (a := i) ?_
  unfold unl
  rw [List.mem_filter, List.mem_range]
  exact ⟨hi, by rw [h0]; rfl⟩

theorem wpAny_inv (I : Array Bool → Act → World → Prop)
    (hstep : ∀ listed a w, I listed a w → ∀ i o, ops[i]? = some o → listed.getD i true = false → (∀ e ∈ o.after, Region.binds md e = true → listed.getD e.on false = true) → wpOp P ops Q i (fun a' w' => I (listed.setIfInBounds i true) a' w') a w)
    (hdone : ∀ listed a w, I listed a w → Region.ready md ops listed = [] → Q .normal a w) :
    ∀ fuel listed a w, (unl ops listed).length ≤ fuel → I listed a w → wpAny P md ops Q fuel listed a w := by
  intro fuel
  induction fuel with
  | zero =>
    intro listed a w hu hI
    have hr : Region.ready md ops listed = [] := by
      cases hr : Region.ready md ops listed with
      | nil => rfl
      | cons i r => have := unl_ready (md := md) (ops := ops) (listed := listed) (i := i) (by rw [hr]; simp); omega
    exact ⟨hr, hdone listed a w hI hr⟩
  | succ n ih =>
    intro listed a w hu hI
    refine ⟨fun hr => hdone listed a w hI hr, fun i hi => ?_⟩
    obtain ⟨h0, o, ho, hall⟩ := mem_ready.1 hi
    refine wpOp_mono (fun a' w' h => ih _ a' w' ?_ h) (hstep listed a w hI i o ho h0 hall)
    have := unl_set (ops := ops) (Array.getElem?_eq_some_iff.1 ho).1 h0
    omega

theorem wp_region_inv {id : Nat} {a : Act} {w : World} (hm : P.follows .mixedOrders = true) (I : Array Bool → Act → World → Prop)
    (h0 : I (Array.replicate ops.size false) a w.drew)
    (hstep : ∀ listed a w, I listed a w → ∀ i o, ops[i]? = some o → listed.getD i true = false → (∀ e ∈ o.after, Region.binds .any e = true → listed.getD e.on false = true) → wpOp P ops Q i (fun a' w' => I (listed.setIfInBounds i true) a' w') a w)
    (hdone : ∀ listed a w, I listed a w → Region.ready .any ops listed = [] → Q .normal a w) : (Code.region id ops true).wp P Q a w :=
  wp_region_any hm (wpAny_inv I hstep hdone _ _ _ _ (by
    unfold unl
    refine Nat.le_trans (List.length_filter_le _ _) ?_
    rw [List.length_range]; exact Nat.le_refl _) h0)

/-- the operations that number i waits for -/
def needs (md : Region.Mode) (ops : Array Oper) (i : Nat) : List Nat :=
  match ops[i]? with
  | some o => (o.after.toList.filter fun e => Region.binds md e).map (·.on)
  | none => []
/-- every edge leads back -/
def backB (ops : Array Oper) : Bool := (List.range ops.size).all fun i => match ops[i]? with
  | some o => o.after.toList.all fun e => !Region.binds .any e || decide (e.on < i)
  | none => true
theorem all_listed {listed : Array Bool} (hsz : listed.size = ops.size) (hb : backB ops = true) (hr : Region.ready .any ops listed = []) : ∀ j, j < ops.size → listed.getD j false = true := by
  intro j
  induction j using Nat.strongRecOn with
  | ind j ih =>
    intro hj
    cases hl : listed.getD j false with
    | true => rfl
    | false =>
      have hun : listed.getD j true = false := by
        have hj' : j < listed.size := by omega
        simp [hj'] at hl ⊢
        exact hl
      have ho : ops[j]? = some ops[j] := Array.getElem?_eq_getElem hj
      have hbj := List.all_eq_true.1 hb j (List.mem_range.2 hj)
      rw [ho] at hbj
      have : j ∈ Region.ready .any ops listed := mem_ready.2 ⟨hun, ops[j], ho, fun e he hbd => by
        have h1 := List.all_eq_true.1 hbj e (Array.mem_toList_iff.2 he)
        rw [hbd] at h1
        have := of_decide_eq_true h1
        exact ih e.on this (by omega)⟩
      rw [hr] at this
      cases this

/-- the frame with some slots laid anew -/
def putAll (a : Act) (slots : List Nat) (vs : List Value) : Act := { a with tmps := (slots.zip vs).foldl (fun t x => t.setIfInBounds x.1 x.2) a.tmps }
theorem wp_region_by {id : Nat} {a0 : Act} {w : World} (slots : List Nat) (J : Array Bool → List Value → World → Prop) (hm : P.follows .mixedOrders = true) (hb : backB ops = true)
    (vs0 : List Value) (h00 : putAll a0 slots vs0 = a0) (h0 : J (Array.replicate ops.size false) vs0 w.drew)
    (hstep : ∀ listed vs w, J listed vs w → ∀ i, i < ops.size → listed.getD i true = false → (∀ j, (needs .any ops i).contains j = true → listed.getD j false = true) → wpOp P ops Q i (fun a' w' => ∃ vs', J (listed.setIfInBounds i true) vs' w' ∧ a' = putAll a0 slots vs') (putAll a0 slots vs) w)
    (hdone : ∀ listed vs w, J listed vs w → (∀ j, j < ops.size → listed.getD j false = true) → Q .normal (putAll a0 slots vs) w) : (Code.region id ops true).wp P Q a0 w := by
  refine wp_region_inv hm (fun listed a w => listed.size = ops.size ∧ ∃ vs, J listed vs w ∧ a = putAll a0 slots vs) ⟨by simp, vs0, h0, h00.symm⟩ ?_ ?_
  · rintro listed a w ⟨hsz, vs, hJ, rfl⟩ i o ho hun hpre
    refine wpOp_mono (fun a' w' h => ⟨by simpa using hsz, h⟩) (hstep listed vs w hJ i (Array.getElem?_eq_some_iff.1 ho).1 hun ?_)
    intro j hj
    unfold needs at hj
    rw [ho] at hj
    simp only [List.contains_iff_mem, List.mem_map, List.mem_filter, Array.mem_toList_iff] at hj
    obtain ⟨e, ⟨he, hbd⟩, rfl⟩ := hj
    exact hpre e he hbd
  · rintro listed a w ⟨hsz, vs, hJ, rfl⟩ hr
    exact hdone listed vs w hJ (all_listed hsz hb hr)
theorem step_of {i : Nat} {K : Act → World → Prop} {a : Act} {w : World} (o : Oper) (ho : ops[i]? = some o)
    (h : ∀ K' : Act → World → Prop, Shut (∀ a w, K a w → K' a w) → if Region.wanted o (yielded ops a.tmps) = true then Oper.wp P o a w K' Q else K' (a.put o.dst undef) w) : wpOp P ops Q i K a w :=
  wpOp_step ho (fun K' hK => h K' hK)

theorem bit_mono {listed : Array Bool} {i j : Nat} (h : listed.getD j false = true) : (listed.setIfInBounds i true).getD j false = true := by
  by_cases e : i = j
  · subst e
    have hsz : i < listed.size := by
      rcases Nat.lt_or_ge i listed.size with h' | h'
      · exact h'
      · simp [Array.getElem?_eq_none h'] at h
    simp [hsz]
  · rwa [getD_set_ne false e]
theorem bit_off {listed : Array Bool} {i : Nat} (h : listed.getD i true = false) : ¬ listed.getD i false = true := by
  have hsz : i < listed.size := by
    rcases Nat.lt_or_ge i listed.size with h' | h'
    · exact h'
    · simp [Array.getElem?_eq_none h'] at h
  simp [hsz] at h ⊢
  exact h
theorem bit_none {n i : Nat} : ¬ (Array.replicate n false).getD i false = true := by
  simp [Array.getElem?_replicate]
  split <;> simp
theorem bit_if {listed : Array Bool} {i j : Nat} {α : Type} {x y : α} (h : i ≠ j) : (if (listed.setIfInBounds i true).getD j false then x else y) = if listed.getD j false then x else y := by
  rw [getD_set_ne false h]
theorem bit_set {listed : Array Bool} {i j : Nat} (h : (listed.setIfInBounds i true).getD j false = true) : j = i ∨ listed.getD j false = true := by
  by_cases e : i = j
  · exact .inl e.symm
  · exact .inr (by rwa [getD_set_ne false e] at h)
theorem bit_self {listed : Array Bool} {i : Nat} (h : listed.getD i true = false) : (listed.setIfInBounds i true).getD i false = true := by
  have hsz : i < listed.size := by
    rcases Nat.lt_or_ge i listed.size with h' | h'
    · exact h'
    · simp [Array.getElem?_eq_none h'] at h
  simp [hsz]
end
end Go.Proofs.YtphfefmlappidaaGreatDoor.Num

/- A region that draws its order: what each operation yields is said once, each operation is walked once. Plain: of no program. -/
namespace Go.Proofs.YtphfefmlappidaaGreatDoor.Num
open Go.RowKit Go.Lib

/-- what an operation yields: a known value; a row of its own; a variable of its own (zero, then what store number st writes); a store; anything that lasts -/
inductive RK where
  | pure (v : Value)
  | row (cs : Array Value) (T : TypeId) (n : Nat)
  | box (g : Option Nat) (z f : Array Value) (T : TypeId) (st : Nat)
  | put (al : Nat)
  | any (R : Value → World → Prop)
def RK.owns : RK → Bool
  | .row .. => true
  | .box .. => true
  | _ => false
def RK.isAny : RK → Bool
  | .any _ => true
  | _ => false
def blkOf : Value → Option Nat
  | .pointer (some p) => some p.block
  | .slice (some p) _ _ => some p.block
  | _ => none
def RK.holds (B : Nat) (listed : Array Bool) (v : Value) (W : World) : RK → Prop
  | .pure c => v = c
  | .row cs T n => ∃ G, v = .slice (some ⟨G, 0, none⟩) n n ∧ B ≤ G ∧ W.heap[G]? = some (.cells cs T (0, 0))
  | .box g z f T st => ∃ G, v = .pointer (some ⟨G, 0, none⟩) ∧ (∀ k, g = some k → G = k) ∧ B ≤ G ∧ W.heap[G]? = some (.cells (if listed.getD st false = true then f else z) T (0, 0))
  | .put _ => True
  | .any R => R v W
def RK.putsB : RK → Nat → Bool
  | .put al, j => al == j
  | _, _ => false
def RK.boxB (n : Nat) (ks : List RK) (j : Nat) : RK → Bool
  | .box _ _ _ _ st => decide (n ≤ st) || match ks[st]? with
    | some k => k.putsB j
    | none => false
  | .put _ => decide (j < n)
  | _ => true
/-- each variable's store is its own; what stands behind the first n are blocks from before -/
def okB (n : Nat) (ks : List RK) : Bool := (List.range ks.length).all fun j => match ks[j]? with
  | some k => k.boxB n ks j
  | none => true
def RK.lasts : RK → Prop
  | .any R => ∀ v W W', R v W → Below W.heap.size W W' → R v W'
  | _ => True

theorem noAny_of {ks : List RK} (h : (ks.all fun k => !k.isAny) = true) : ∀ (i : Nat) (R : Value → World → Prop), ks[i]? ≠ some (.any R) := by
  intro i R hi
  have := List.all_eq_true.1 h _ (List.mem_of_getElem? hi)
  cases this
theorem lasts_of {ks : List RK} (h : ∀ (i : Nat) (R : Value → World → Prop), ks[i]? ≠ some (.any R)) : ∀ (i : Nat) (k : RK), ks[i]? = some k → k.lasts := by
  intro i k hi
  cases k with
  | any R => exact absurd hi (h i R)
  | pure v => trivial
  | row cs T n => trivial
  | box g z f T st => trivial
  | put al => trivial
theorem okB_box {n : Nat} {ks : List RK} (h : okB n ks = true) {j : Nat} {z f : Array Value} {T : TypeId} {st : Nat} {g : Option Nat} (hj : ks[j]? = some (.box g z f T st)) : n ≤ st ∨ ks[st]? = some (.put j) := by
  have hlt := (List.getElem?_eq_some_iff.1 hj).1
  have := List.all_eq_true.1 h j (List.mem_range.2 hlt)
  rw [hj] at this
  have this : (decide (n ≤ st) || match ks[st]? with | some k => k.putsB j | none => false) = true := this
  rw [Bool.or_eq_true] at this
  rcases this with h | this
  · exact .inl (of_decide_eq_true h)
  right
  cases hs : ks[st]? with
  | none => rw [hs] at this; cases this
  | some k =>
    rw [hs] at this
    cases k with
    | put al =>
      have e : (al == j) = true := this
      rw [beq_iff_eq.1 e]
    | pure v => cases this
    | row cs T n => cases this
    | box g z f T st => cases this
    | any R => cases this
theorem okB_put {n : Nat} {ks : List RK} (h : okB n ks = true) {j al : Nat} (hj : ks[j]? = some (.put al)) : j < n := by
  have hlt := (List.getElem?_eq_some_iff.1 hj).1
  have := List.all_eq_true.1 h j (List.mem_range.2 hlt)
  rw [hj] at this
  exact of_decide_eq_true this

/-- it has come up, or it was there before -/
def On (n : Nat) (listed : Array Bool) (i : Nat) : Prop := n ≤ i ∨ listed.getD i false = true
structure Fs (nd : Nat → Nat → Bool) (n : Nat) (ks : List RK) (w : World) (row : Option Nat) (listed : Array Bool) (vs : List Value) (W : World) : Prop where
  lsz : listed.size = n
  len : vs.length = ks.length
  low : w.grownBy W row
  get : ∀ i k, ks[i]? = some k → On n listed i → k.holds w.heap.size listed (vs.getD i undef) W
  ne : ∀ i j ki kj, i ≠ j → ks[i]? = some ki → ks[j]? = some kj → ki.owns = true → kj.owns = true → On n listed i → On n listed j → blkOf (vs.getD i undef) ≠ blkOf (vs.getD j undef)
  puts : ∀ i al, ks[i]? = some (.put al) → listed.getD i false = true → On n listed al
  back : ∀ i j, listed.getD i false = true → nd i j = true → listed.getD j false = true
theorem On.mono {n : Nat} {listed : Array Bool} {i j : Nat} (h : On n listed j) : On n (listed.setIfInBounds i true) j := h.imp id bit_mono
theorem On.of_set {n : Nat} {listed : Array Bool} {i j : Nat} (h : On n (listed.setIfInBounds i true) j) (hne : i ≠ j) : On n listed j := h.imp id fun h => by rwa [getD_set_ne false hne] at h

theorem getD_vset (vs : List Value) (i : Nat) (v d : Value) (hi : i < vs.length) : (vs.set i v).getD i d = v := by
  simp [List.getD, hi]
theorem getD_vset_ne {vs : List Value} {i j : Nat} {v d : Value} (h : i ≠ j) : (vs.set i v).getD j d = vs.getD j d := by
  simp [List.getD, List.getElem?_set_ne h]
theorem RK.blk {k : RK} {B : Nat} {listed : Array Bool} {v : Value} {W : World} (h : k.holds B listed v W) (ho : k.owns = true) : ∃ G, blkOf v = some G ∧ B ≤ G ∧ G < W.heap.size := by
  cases k with
  | row cs T n => obtain ⟨G, rfl, hB, hG⟩ := h; exact ⟨G, rfl, hB, heap_lt hG⟩
  | box g z f T st => obtain ⟨G, rfl, _, hB, hG⟩ := h; exact ⟨G, rfl, hB, heap_lt hG⟩
  | pure v => cases ho
  | put al => cases ho
  | any R => cases ho

theorem back_set {nd : Nat → Nat → Bool} {listed : Array Bool} {i : Nat} (h : ∀ i j, listed.getD i false = true → nd i j = true → listed.getD j false = true) (hpre : ∀ j, nd i j = true → listed.getD j false = true) :
    ∀ a b, (listed.setIfInBounds i true).getD a false = true → nd a b = true → (listed.setIfInBounds i true).getD b false = true := by
  intro a b ha hn
  by_cases e : i = a
  · subst e; exact bit_mono (hpre b hn)
  · rw [getD_set_ne false e] at ha
    exact bit_mono (h a b ha hn)
theorem below_only {w W W' : World} {row : Option Nat} (h : w.grownBy W row) (hb : Below w.heap.size W W') : w.grownBy W' row :=
  ⟨hb.os.trans h.os, hb.tape.trans h.tape, hb.output.trans h.output, Nat.le_trans h.size hb.size, fun k hk hr => (hb.block k hk).trans (h.block k hk hr)⟩
/-- an operation that writes nothing that stood -/
theorem Fs.grow {nd : Nat → Nat → Bool} {n : Nat} {ks : List RK} {w : World} {row : Option Nat} {listed : Array Bool} {vs : List Value} {W W' : World} (hF : Fs nd n ks w row listed vs W) (hok : okB n ks = true) (hl : ∀ (i : Nat) (k : RK), ks[i]? = some k → k.lasts)
    {i : Nat} {k : RK} {v : Value} (hpre : ∀ j, nd i j = true → listed.getD j false = true) (hk : ks[i]? = some k) (hnp : ∀ al, k ≠ .put al) (hb : Below W.heap.size W W') (hv : k.holds w.heap.size (listed.setIfInBounds i true) v W')
    (hfresh : k.owns = true → ∃ G, blkOf v = some G ∧ W.heap.size ≤ G) : Fs nd n ks w row (listed.setIfInBounds i true) (vs.set i v) W' := by
  have hi : i < vs.length := by rw [hF.len]; exact (List.getElem?_eq_some_iff.1 hk).1
  refine ⟨by simpa using hF.lsz, by rw [List.length_set]; exact hF.len, only_trans hF.low (only_of_below hb row), ?_, ?_, ?_, back_set hF.back hpre⟩
  · intro j kj hj hlj
    by_cases e : i = j
    · subst e
      rw [hk] at hj
      cases hj
      rw [getD_vset _ _ _ _ hi]; exact hv
    · have hlj' := hlj.of_set e
      rw [getD_vset_ne e]
      have h := hF.get j kj hj hlj'
      cases kj with
      | pure c => exact h
      | row cs T n => obtain ⟨G, hG, hB, hh⟩ := h; exact ⟨G, hG, hB, keep_block hh hb⟩
      | box g z f T st =>
        obtain ⟨G, hG, hgg, hB, hh⟩ := h
        have hne : listed.getD st false = (listed.setIfInBounds i true).getD st false := by
          rcases okB_box hok hj with hst | hst
          · have h1 : ¬ st < listed.size := by rw [hF.lsz]; omega
            simp [h1]
          · have hne : i ≠ st := by
              rintro rfl
              rw [hk] at hst
              exact hnp j (Option.some.inj hst)
            rw [getD_set_ne false hne]
        refine ⟨G, hG, hgg, hB, ?_⟩
        rw [← hne]
        exact keep_block hh hb
      | put al => trivial
      | any R => exact hl j _ hj _ _ _ h hb
  · intro a b ka kb hab ha hb' oa ob la lb
    by_cases ea : i = a
    · subst ea
      rw [hk] at ha
      cases ha
      have lb' := lb.of_set hab
      rw [getD_vset _ _ _ _ hi, getD_vset_ne hab]
      obtain ⟨G, hG, hge⟩ := hfresh oa
      obtain ⟨G', hG', _, hlt⟩ := RK.blk (hF.get b kb hb' lb') ob
      rw [hG, hG']
      intro h
      have := Option.some.inj h
      omega
    · have la' := la.of_set ea
      rw [getD_vset_ne ea]
      by_cases eb : i = b
      · subst eb
        rw [hk] at hb'
        cases hb'
        rw [getD_vset _ _ _ _ hi]
        obtain ⟨G, hG, hge⟩ := hfresh ob
        obtain ⟨G', hG', _, hlt⟩ := RK.blk (hF.get a ka ha la') oa
        rw [hG, hG']
        intro h
        have := Option.some.inj h
        omega
      · rw [getD_vset_ne eb]
        exact hF.ne a b ka kb hab ha hb' oa ob la' (lb.of_set eb)
  · intro a al ha la
    by_cases ea : i = a
    · subst ea
      rw [hk] at ha
      exact absurd (Option.some.inj ha) (hnp al)
    · rw [getD_set_ne false ea] at la
      exact (hF.puts a al ha la).mono
section
variable {nd : Nat → Nat → Bool} {n : Nat} {ks : List RK} {w : World} {rr : Option Nat} {listed : Array Bool} {vs : List Value} {W W' : World} {i : Nat}
theorem Fs.pure (hF : Fs nd n ks w rr listed vs W) (hok : okB n ks = true) (hl : ∀ (i : Nat) (k : RK), ks[i]? = some k → k.lasts) (hpre : ∀ j, nd i j = true → listed.getD j false = true) {c : Value} (hk : ks[i]? = some (.pure c)) (hb : Below W.heap.size W W') : Fs nd n ks w rr (listed.setIfInBounds i true) (vs.set i c) W' :=
  hF.grow hok hl hpre hk (fun _ h => by cases h) hb rfl (fun h => by cases h)
theorem Fs.any (hF : Fs nd n ks w rr listed vs W) (hok : okB n ks = true) (hl : ∀ (i : Nat) (k : RK), ks[i]? = some k → k.lasts) (hpre : ∀ j, nd i j = true → listed.getD j false = true) {R : Value → World → Prop} (hk : ks[i]? = some (.any R)) {v : Value} (hb : Below W.heap.size W W') (hv : R v W') : Fs nd n ks w rr (listed.setIfInBounds i true) (vs.set i v) W' :=
  hF.grow hok hl hpre hk (fun _ h => by cases h) hb hv (fun h => by cases h)
theorem Fs.row (hF : Fs nd n ks w rr listed vs W) (hok : okB n ks = true) (hl : ∀ (i : Nat) (k : RK), ks[i]? = some k → k.lasts) (hpre : ∀ j, nd i j = true → listed.getD j false = true) {cs : Array Value} {T : TypeId} {m : Nat} (hk : ks[i]? = some (.row cs T m)) : Fs nd n ks w rr (listed.setIfInBounds i true) (vs.set i (.slice (some ⟨W.heap.size, 0, none⟩) m m)) (W.alloc (.cells cs T)) :=
  hF.grow hok hl hpre hk (fun _ h => by cases h) ((Below.refl _ _).alloc (Nat.le_refl _) _) ⟨_, rfl, hF.low.size, heap_alloc_new W _⟩ (fun _ => ⟨_, rfl, Nat.le_refl _⟩)
theorem Fs.box (hF : Fs nd n ks w rr listed vs W) (hok : okB n ks = true) (hl : ∀ (i : Nat) (k : RK), ks[i]? = some k → k.lasts) (hpre : ∀ j, nd i j = true → listed.getD j false = true) (hun : listed.getD i true = false) {z f : Array Value} {T : TypeId} {st : Nat} (hk : ks[i]? = some (.box none z f T st)) : Fs nd n ks w rr (listed.setIfInBounds i true) (vs.set i (.pointer (some ⟨W.heap.size, 0, none⟩))) (W.alloc (.cells z T)) := by
  have hin : i < listed.size := by
    rcases Nat.lt_or_ge i listed.size with h | h
    · exact h
    · simp [Array.getElem?_eq_none h] at hun
  have hoff : ¬ (listed.setIfInBounds i true).getD st false = true := by
    rcases okB_box hok hk with hst | hst
    · have h1 : ¬ st < listed.size := by rw [hF.lsz]; omega
      simp [h1]
    · have hne : i ≠ st := by
        rintro rfl
        rw [hk] at hst
        cases hst
      rw [getD_set_ne false hne]
      intro h
      rcases hF.puts st i hst h with h | h
      · have := hF.lsz; omega
      · exact bit_off hun h
  refine hF.grow hok hl hpre hk (fun _ h => by cases h) ((Below.refl _ _).alloc (Nat.le_refl _) _) ⟨_, rfl, fun _ h => (by cases h), hF.low.size, ?_⟩ (fun _ => ⟨_, rfl, Nat.le_refl _⟩)
  rw [if_neg hoff]
  exact heap_alloc_new W _
theorem Fs.put (hF : Fs nd n ks w rr listed vs W) (hok : okB n ks = true) (hna : ∀ (i : Nat) (R : Value → World → Prop), ks[i]? ≠ some (.any R)) (hpre : ∀ j, nd i j = true → listed.getD j false = true) (hun : listed.getD i true = false) {al : Nat} (hk : ks[i]? = some (.put al)) {z f : Array Value} {T : TypeId} {G : Nat} {g : Option Nat} (v : Value)
    (hbox : ks[al]? = some (.box g z f T i)) (hal : On n listed al) (hG : vs.getD al undef = .pointer (some ⟨G, 0, none⟩)) (hnew : W'.heap[G]? = some (.cells f T (0, 0))) (hoth : ∀ k, k ≠ G → W'.heap[k]? = W.heap[k]?) (hb : Below w.heap.size W W') : Fs nd n ks w rr (listed.setIfInBounds i true) (vs.set i v) W' := by
  have hi : i < vs.length := by rw [hF.len]; exact (List.getElem?_eq_some_iff.1 hk).1
  have hin := okB_put hok hk
  have hia : i ≠ al := by
    rintro rfl
    rw [hk] at hbox
    cases hbox
  refine ⟨by simpa using hF.lsz, by rw [List.length_set]; exact hF.len, below_only hF.low hb, ?_, ?_, ?_, back_set hF.back hpre⟩
  · intro j kj hj hlj
    by_cases e : i = j
    · subst e
      rw [hk] at hj
      cases hj
      trivial
    · have hlj' := hlj.of_set e
      rw [getD_vset_ne e]
      have h := hF.get j kj hj hlj'
      have far : kj.owns = true → j ≠ al → ∀ G', blkOf (vs.getD j undef) = some G' → G' ≠ G := by
        intro o hja G' hG' e'
        have := hF.ne j al kj _ hja hj hbox o rfl hlj' hal
        rw [hG', hG, e'] at this
        exact this rfl
      cases kj with
      | pure c => exact h
      | row cs T' m =>
        obtain ⟨G', hG', hB, hh⟩ := h
        have hja : j ≠ al := by rintro rfl; rw [hj] at hbox; cases hbox
        have hne := far rfl hja G' (by rw [hG']; rfl)
        exact ⟨G', hG', hB, (hoth _ hne).trans hh⟩
      | box g' z' f' T' st =>
        obtain ⟨G', hG', hgg, hB, hh⟩ := h
        by_cases hja : j = al
        · subst hja
          rw [hbox] at hj
          cases hj
          rw [hG] at hG'
          have : G = G' := by
            have := congrArg blkOf hG'
            exact Option.some.inj this
          subst this
          refine ⟨G, hG, hgg, hB, ?_⟩
          rw [if_pos (bit_self hun)]
          exact hnew
        · have hne := far rfl hja G' (by rw [hG']; rfl)
          have hns : i ≠ st := by
            rintro rfl
            rcases okB_box hok hj with hst | hst
            · omega
            · rw [hk] at hst
              have := Option.some.inj hst
              injection this with this
              exact hja this.symm
          refine ⟨G', hG', hgg, hB, ?_⟩
          rw [getD_set_ne false hns]
          exact (hoth _ hne).trans hh
      | put _ => trivial
      | any R => exact absurd hj (hna j R)
  · intro a b ka kb hab ha hb' oa ob la lb
    have ea : i ≠ a := by rintro rfl; rw [hk] at ha; cases ha; cases oa
    have eb : i ≠ b := by rintro rfl; rw [hk] at hb'; cases hb'; cases ob
    rw [getD_vset_ne ea, getD_vset_ne eb]
    exact hF.ne a b ka kb hab ha hb' oa ob (la.of_set ea) (lb.of_set eb)
  · intro a al' ha la
    by_cases ea : i = a
    · subst ea
      rw [hk] at ha
      have := Option.some.inj ha
      injection this with this
      subst this
      exact hal.mono
    · rw [getD_set_ne false ea] at la
      exact (hF.puts a al' ha la).mono
/-- nothing has come up yet -/
theorem Fs.start (hlen : vs.length = ks.length) (hn : ks.length = n) : Fs nd n ks w rr (Array.replicate n false) vs w.drew :=
  ⟨by simp, hlen, only_of_below (Below.refl _ _).drew rr, fun i k hk h => absurd (h.resolve_left (by have := (List.getElem?_eq_some_iff.1 hk).1; omega)) bit_none, fun i _ k _ _ hk _ _ _ h => absurd (h.resolve_left (by have := (List.getElem?_eq_some_iff.1 hk).1; omega)) bit_none, fun _ _ _ h => absurd h bit_none, fun _ _ h => absurd h bit_none⟩
end

/-- the blocks from before hold what they hold, and are not one another -/
def Far (v : Value) : List RK → List Value → Prop
  | k :: ks, u :: vs => (k.owns = true → blkOf v ≠ blkOf u) ∧ Far v ks vs
  | _, _ => True
def Olds (B : Nat) (W : World) : List RK → List Value → Prop
  | k :: ks, v :: vs => k.holds B #[] v W ∧ (k.owns = true → Far v ks vs) ∧ Olds B W ks vs
  | _, _ => True
theorem far_get {v : Value} : ∀ {ks : List RK} {vs : List Value}, Far v ks vs → vs.length = ks.length → ∀ {i : Nat} {k : RK}, ks[i]? = some k → k.owns = true → blkOf v ≠ blkOf (vs.getD i undef)
  | k :: ks, u :: vs, h, hl, 0, k', hk, ho => by
    cases hk
    exact h.1 ho
  | k :: ks, u :: vs, h, hl, i + 1, k', hk, ho => by
    have := far_get (i := i) h.2 (by simpa using hl) (by simpa using hk) ho
    simpa using this
  | [], _, _, _, i, k', hk, _ => by simp at hk
theorem olds_get {B : Nat} {W : World} : ∀ {ks : List RK} {vs : List Value}, Olds B W ks vs → vs.length = ks.length → ∀ {i : Nat} {k : RK}, ks[i]? = some k → k.holds B #[] (vs.getD i undef) W
  | k :: ks, u :: vs, h, hl, 0, k', hk => by
    cases hk
    exact h.1
  | k :: ks, u :: vs, h, hl, i + 1, k', hk => by
    have := olds_get (i := i) h.2.2 (by simpa using hl) (by simpa using hk)
    simpa using this
  | [], _, _, _, i, k', hk => by simp at hk
theorem olds_ne {B : Nat} {W : World} : ∀ {ks : List RK} {vs : List Value}, Olds B W ks vs → vs.length = ks.length → ∀ {i j : Nat} {ki kj : RK}, i < j → ks[i]? = some ki → ks[j]? = some kj → ki.owns = true → kj.owns = true → blkOf (vs.getD i undef) ≠ blkOf (vs.getD j undef)
  | k :: ks, u :: vs, h, hl, 0, j + 1, ki, kj, hij, hi, hj, oi, oj => by
    cases hi
    have := far_get (h.2.1 oi) (by simpa using hl) (i := j) (by simpa using hj) oj
    simpa using this
  | k :: ks, u :: vs, h, hl, i + 1, j + 1, ki, kj, hij, hi, hj, oi, oj => by
    have := olds_ne (i := i) (j := j) h.2.2 (by simpa using hl) (by omega) (by simpa using hi) (by simpa using hj) oi oj
    simpa using this
  | [], _, _, _, i, j, ki, kj, _, hi, _, _, _ => by simp at hi
theorem holds_none {B n : Nat} {v : Value} {W : World} {k : RK} (h : k.holds B #[] v W) : k.holds B (Array.replicate n false) v W := by
  cases k with
  | box g z f T st =>
    obtain ⟨G, hG, hgg, hB, hh⟩ := h
    refine ⟨G, hG, hgg, hB, ?_⟩
    rw [if_neg bit_none]
    simpa using hh
  | pure c => exact h
  | row cs T m => exact h
  | put al => trivial
  | any R => exact h
theorem Fs.start_olds {nd : Nat → Nat → Bool} {n : Nat} {ks : List RK} {w W : World} {row : Option Nat} {vs : List Value} (hl : ∀ (i : Nat) (k : RK), ks[i]? = some k → k.lasts) (hlen : vs.length = ks.length) (low : w.grownBy W row) (hO : Olds w.heap.size W (ks.drop n) (vs.drop n)) :
    Fs nd n ks w row (Array.replicate n false) vs W.drew := by
  have hlen' : (vs.drop n).length = (ks.drop n).length := by simp [hlen]
  have hk' : ∀ {i : Nat} {k : RK}, ks[i]? = some k → n ≤ i → (ks.drop n)[i - n]? = some k := by
    intro i k hk hi
    rw [List.getElem?_drop, show n + (i - n) = i by omega]; exact hk
  have hv' : ∀ {i : Nat}, n ≤ i → (vs.drop n).getD (i - n) undef = vs.getD i undef := by
    intro i hi
    simp only [List.getD, List.getElem?_drop]
    rw [show n + (i - n) = i by omega]
  refine ⟨by simp, hlen, below_only low (Below.refl _ _).drew, ?_, ?_, fun _ _ _ h => absurd h bit_none, fun _ _ h => absurd h bit_none⟩
  · intro i k hk h
    have hi := h.resolve_right bit_none
    have h1 := olds_get hO hlen' (hk' hk hi)
    rw [hv' hi] at h1
    have h2 : k.holds w.heap.size (Array.replicate n false) (vs.getD i undef) W := holds_none h1
    cases k with
    | any R => exact hl i _ hk _ _ _ h2 (Below.refl _ _).drew
    | pure c => exact h2
    | row cs T m => exact h2
    | box g z f T st => exact h2
    | put al => trivial
  · intro i j ki kj hij hi hj oi oj li lj
    have ni := li.resolve_right bit_none
    have nj := lj.resolve_right bit_none
    rcases Nat.lt_or_ge i j with h | h
    · have := olds_ne hO hlen' (show i - n < j - n by omega) (hk' hi ni) (hk' hj nj) oi oj
      rw [hv' ni, hv' nj] at this; exact this
    · have := olds_ne hO hlen' (show j - n < i - n by omega) (hk' hj nj) (hk' hi ni) oj oi
      rw [hv' ni, hv' nj] at this; exact fun e => this e.symm
theorem Fs.unst {nd : Nat → Nat → Bool} {n : Nat} {ks : List RK} {w W : World} {row : Option Nat} {listed : Array Bool} {vs : List Value} (hF : Fs nd n ks w row listed vs W) {st : Nat} (h : n ≤ st) : ¬ listed.getD st false = true := by
  have h1 : ¬ st < listed.size := by rw [hF.lsz]; omega
  simp [h1]
theorem far_of {b c : Nat} {n : Nat} (h : b ≠ c) : blkOf (.pointer (some ⟨b, 0, none⟩)) ≠ blkOf (.pointer (some ⟨c, n, none⟩)) := fun e => h (Option.some.inj e)

/-- the slots laid anew, from what has come up -/
def layT : List (Option Nat) → List Value → Array Value → Array Value
  | some d :: sl, v :: vs, t => layT sl vs (t.setIfInBounds d v)
  | none :: sl, _ :: vs, t => layT sl vs t
  | _, _, t => t
theorem layT_some (d : Nat) (sl : List (Option Nat)) (v : Value) (vs : List Value) (t : Array Value) : layT (some d :: sl) (v :: vs) t = layT sl vs (t.setIfInBounds d v) := rfl
theorem layT_none (sl : List (Option Nat)) (v : Value) (vs : List Value) (t : Array Value) : layT (none :: sl) (v :: vs) t = layT sl vs t := rfl
theorem layT_nil (vs : List Value) (t : Array Value) : layT [] vs t = t := by cases vs <;> rfl
def putO (a : Act) (sl : List (Option Nat)) (vs : List Value) : Act := { a with tmps := layT sl vs a.tmps }

/-- operation i waits for operation j -/
def ndOf (ops : Array Oper) (i j : Nat) : Bool := (needs .any ops i).contains j
theorem wp_region_facts {P : Program} {ops : Array Oper} {Q : Exit → Act → World → Prop} {id : Nat} {a0 : Act} {w W0 : World} {row : Option Nat} (n : Nat) (ks : List RK) (slots : List (Option Nat)) (hm : P.follows .mixedOrders = true) (hb : backB ops = true) (hn : ops.size = n)
    (vs0 : List Value) (h00 : putO a0 slots vs0 = a0) (hF0 : Fs (ndOf ops) n ks w row (Array.replicate n false) vs0 W0.drew)
    (hstep : ∀ listed vs W, Fs (ndOf ops) n ks w row listed vs W → ∀ i, i < n → listed.getD i true = false → (∀ j, ndOf ops i j = true → listed.getD j false = true) → wpOp P ops Q i (fun a' W' => ∃ v, Fs (ndOf ops) n ks w row (listed.setIfInBounds i true) (vs.set i v) W' ∧ a' = putO a0 slots (vs.set i v)) (putO a0 slots vs) W)
    (hdone : ∀ listed vs W, Fs (ndOf ops) n ks w row listed vs W → (∀ j, j < n → listed.getD j false = true) → Q .normal (putO a0 slots vs) W) : (Code.region id ops true).wp P Q a0 W0 := by
  refine wp_region_inv hm (fun listed a W => ∃ vs, Fs (ndOf ops) n ks w row listed vs W ∧ a = putO a0 slots vs) ⟨vs0, by rw [hn]; exact hF0, h00.symm⟩ ?_ ?_
  · rintro listed a W ⟨vs, hF, rfl⟩ i o ho hun hpre
    refine wpOp_mono (fun a' w' h => ?_) (hstep listed vs W hF i (by rw [← hn]; exact (Array.getElem?_eq_some_iff.1 ho).1) hun ?_)
    · obtain ⟨v, hF', rfl⟩ := h
      exact ⟨_, hF', rfl⟩
    · intro j hj
      unfold ndOf needs at hj
      rw [ho] at hj
      simp only [List.contains_iff_mem, List.mem_map, List.mem_filter, Array.mem_toList_iff] at hj
      obtain ⟨e, ⟨he, hbd⟩, rfl⟩ := hj
      exact hpre e he hbd
  · rintro listed a W ⟨vs, hF, rfl⟩ hr
    exact hdone listed vs W hF (by rw [← hn]; exact all_listed (by rw [hF.lsz, hn]) hb hr)

/-- a list of known length, item by item -/
def ExL : Nat → (List Value → Prop) → Prop
  | 0, p => p []
  | n + 1, p => ∃ v, ExL n (fun l => p (v :: l))
theorem exl_of : ∀ (n : Nat) (vs : List Value) (p : List Value → Prop), vs.length = n → p vs → ExL n p
  | 0, [], _, _, h => h
  | n + 1, v :: l, p, h, hp => ⟨v, exl_of n l (fun l => p (v :: l)) (by simpa using h) hp⟩
theorem put2_below {B G : Nat} (h : B ≤ G) (W : World) (x y : Value) : Below B W ((W.setCell ⟨G, 0, none⟩ x).setCell ⟨G, 1, none⟩ y) :=
  ((Below.refl _ _).setCell (p := ⟨G, 0, none⟩) h x).setCell (p := ⟨G, 1, none⟩) h y
theorem put9_below {B G : Nat} (h : B ≤ G) (W : World) (x0 x1 x2 x3 x4 x5 x6 x7 x8 : Value) : Below B W (((((((((W.setCell ⟨G, 0, none⟩ x0).setCell ⟨G, 1, none⟩ x1).setCell ⟨G, 2, none⟩ x2).setCell ⟨G, 3, none⟩ x3).setCell ⟨G, 4, none⟩ x4).setCell ⟨G, 5, none⟩ x5).setCell ⟨G, 6, none⟩ x6).setCell ⟨G, 7, none⟩ x7).setCell ⟨G, 8, none⟩ x8) :=
  ((((((((((Below.refl _ _).setCell (p := ⟨G, 0, none⟩) h x0).setCell (p := ⟨G, 1, none⟩) h x1).setCell (p := ⟨G, 2, none⟩) h x2).setCell (p := ⟨G, 3, none⟩) h x3).setCell (p := ⟨G, 4, none⟩) h x4).setCell (p := ⟨G, 5, none⟩) h x5).setCell (p := ⟨G, 6, none⟩) h x6).setCell (p := ⟨G, 7, none⟩) h x7).setCell (p := ⟨G, 8, none⟩) h x8)
end Go.Proofs.YtphfefmlappidaaGreatDoor.Num

/- package value: WholeOr over the arguments. Conditions: the argument is a valid number or none; the tables lie as they are laid. -/
namespace Go.Proofs.YtphfefmlappidaaGreatDoor.Num
open Go.RowKit Go.Lib

set_option linter.unusedSimpArgs false in
set_option linter.unusedVariables false in
set_option maxHeartbeats 4000000 in
set_option maxRecDepth 100000 in
theorem wholeOr_some (b ab ao L C n : Nat) (q : Rat) (d : Int) (w : World) (h : ArgsAt w b (some ⟨ab, ao, none⟩) L C n) (hn : n < L) (hL : L ≤ 1000000000) (hne : ab ≠ b) (hc : NumCells w ab (ao + n * 9) q) (hq : fits q = true) (h0 : -1000000000 ≤ q.floor) (h1 : q.floor ≤ 1000000000) (hE : Env w) (hP : Past b) :
    Calls Tryz.prog 86 #[.pointer (some ⟨b, 0, none⟩), .int .i64 d] w fun e w' => e = .returned (.int .i64 q.floor) ∧ ArgRet w b (some ⟨ab, ao, none⟩) L C (n + 1) w' := by
  have TM := Lib.hid (fun W g => more_any b (some ⟨ab, ao, none⟩) L C n W g hL)
  have TW := Lib.hid (fun W ga gc ge => argWhole_any b ab ao L C n q W ga hn hL hne gc hq h0 h1 ge hP)
  rw [decide_eq_true hn] at TM
  have hnot : ∀ (x : Bool) (w : World), (Op.unary .not (.bool x)).run Tryz.prog w = .ok (.bool (!x)) w := fun _ _ => rfl
  have HA := Lib.hid h
  have HC := Lib.hid hc
  have HE := Lib.hid hE
  clear h hc hE hn h0 h1 hq
  go_enter Tryz.func86, Tryz.ntmps86
  go_wp2_with fail
  refine (TM.out _ HA.out).mono ?_
  rintro e W1 ⟨rfl, hb⟩
  replace HA := Lib.hid (keep_block HA.out hb)
  replace HC := Lib.hid (NumCells.below HC.out hb)
  replace HE := Lib.hid (HE.out.below hb)
  have HB := Lib.hid (kept_below (b := b) hb)
  clear hb
  go_wp2_with fail
  refine (TW.out _ HA.out HC.out HE.out).mono ?_
  rintro e W2 ⟨rfl, ha, hg⟩
  have HA2 := Lib.hid ha
  have HG := Lib.hid (kept_trans HB.out hg)
  clear ha hg
  go_wp2
  go_ret
  exact ⟨rfl, HA2.out, HG.out⟩

set_option linter.unusedSimpArgs false in
set_option linter.unusedVariables false in
set_option maxHeartbeats 4000000 in
set_option maxRecDepth 100000 in
theorem wholeOr_none (b : Nat) (A : Option Addr) (L C n : Nat) (d : Int) (w : World) (h : ArgsAt w b A L C n) (hn : ¬ n < L) (hL : L ≤ 1000000000) :
    Calls Tryz.prog 86 #[.pointer (some ⟨b, 0, none⟩), .int .i64 d] w fun e w' => e = .returned (.int .i64 d) ∧ ArgsAt w' b A L C n ∧ Below w.heap.size w w' := by
  have TM := Lib.hid (fun W g => more_any b A L C n W g hL)
  rw [decide_eq_false hn] at TM
  have hnot : ∀ (x : Bool) (w : World), (Op.unary .not (.bool x)).run Tryz.prog w = .ok (.bool (!x)) w := fun _ _ => rfl
  have HA := Lib.hid h
  clear h hn
  go_enter Tryz.func86, Tryz.ntmps86
  go_wp2_with fail
  refine (TM.out _ HA.out).mono ?_
  rintro e W1 ⟨rfl, hb⟩
  have HB := Lib.hid hb
  replace HA := Lib.hid (show ArgsAt W1 b A L C n from keep_block HA.out hb)
  clear hb
  go_wp2
  go_ret
  exact ⟨rfl, HA.out, HB.out⟩
end Go.Proofs.YtphfefmlappidaaGreatDoor.Num

/- No body of the program starts a goroutine: what a card asks of it, without the computed closure. No conditions. -/
namespace Go.Proofs.YtphfefmlappidaaGreatDoor
open Go

theorem goes_none {P : Program} (h : P.funcs.any Func.goes = false) (f : FuncId) : P.goes f = false := by
  unfold Program.goes
  rw [h, Bool.and_false, Bool.or_false]
  cases hc : ((P.closure f).any fun g => (P.funcs[g]?).any Func.goes) with
  | false => rfl
  | true =>
    exfalso
    rw [List.any_eq_true] at hc
    obtain ⟨g, _, hg⟩ := hc
    cases hf : P.funcs[g]? with
    | none => rw [hf] at hg; simp at hg
    | some fn =>
      rw [hf, Option.any_some] at hg
      have h2 : P.funcs.any Func.goes = true := by
        rw [Array.any_eq_true]
        obtain ⟨hl, e⟩ := Array.getElem?_eq_some_iff.1 hf
        exact ⟨g, hl, by rw [e]; exact hg⟩
      rw [h] at h2
      cases h2
theorem goesBy_none {P : Program} {c : OpenClaim} (h : P.funcs.any Func.goes = false) (hs : c.start = .entering) : false = c.goesBy P := by
  unfold OpenClaim.goesBy Program.goesAt
  rw [hs]
  unfold Program.goesFrom
  cases P.funcNamed c.func with
  | none => rfl
  | some f => simp only [Option.any_some]; rw [goes_none h f]; rfl
theorem none_goes : Tryz.pinned.checked.prog.funcs.any Func.goes = false := by kernel_rfl
end Go.Proofs.YtphfefmlappidaaGreatDoor

/- package value: Args.NumOr where the argument is given. Conditions: the tables lie as they are laid. -/
namespace Go.Proofs.YtphfefmlappidaaGreatDoor.Num
open Go.RowKit Go.Lib

set_option linter.unusedSimpArgs false in
set_option linter.unusedVariables false in
set_option maxHeartbeats 4000000 in
set_option maxRecDepth 100000 in
theorem numOr_some (b ab ao L C n : Nat) (q : Rat) (d : Int) (w : World) (h : ArgsAt w b (some ⟨ab, ao, none⟩) L C n) (hn : n < L) (hL : L ≤ 1000000000) (hne : ab ≠ b) (hc : NumCells w ab (ao + n * 9) q) (hq : fits q = true) (hE : Env w) (hP : Past b) :
    Calls Tryz.prog 85 #[.pointer (some ⟨b, 0, none⟩), .int .i64 d] w fun e w' => e = .returned (fracV q) ∧ ArgRet w b (some ⟨ab, ao, none⟩) L C (n + 1) w' := by
  have TM := Lib.hid (fun W g => more_any b (some ⟨ab, ao, none⟩) L C n W g hL)
  have TN := Lib.hid (fun W ga gc ge => argNum_any b ab ao L C n q W ga hn hL hne gc hq ge hP)
  rw [decide_eq_true hn] at TM
  rw [fracV_is q] at TN ⊢
  have hnot : ∀ (x : Bool) (w : World), (Op.unary .not (.bool x)).run Tryz.prog w = .ok (.bool (!x)) w := fun _ _ => rfl
  have hb : Below w.heap.size w (w.alloc (.cells #[.string { data := #[] }, .string { data := #[] }] 23)) := (Below.refl _ _).alloc (Nat.le_refl _) _
  have NE := Lib.hid (show w.heap.size ≠ b from Nat.ne_of_gt (heap_lt h))
  have HA := Lib.hid (show ArgsAt (w.alloc (.cells #[.string { data := #[] }, .string { data := #[] }] 23)) b (some ⟨ab, ao, none⟩) L C n from keep_block h hb)
  have HC := Lib.hid (NumCells.below hc hb)
  have HE := Lib.hid (hE.below hb)
  have HR := Lib.hid (heap_alloc_new w (.cells #[.string { data := #[] }, .string { data := #[] }] 23))
  have HG := Lib.hid (kept_below (b := b) hb)
  clear h hc hE hn hq hb
  go_enter Tryz.func85, Tryz.ntmps85
  go_wp2_with fail
  refine (TM.out _ HA.out).mono ?_
  rintro e W1 ⟨rfl, hb⟩
  replace HA := Lib.hid (show ArgsAt W1 b (some ⟨ab, ao, none⟩) L C n from keep_block HA.out hb)
  replace HC := Lib.hid (NumCells.below HC.out hb)
  replace HE := Lib.hid (HE.out.below hb)
  replace HR := Lib.hid (keep_block HR.out hb)
  replace HG := Lib.hid (kept_trans HG.out (kept_below hb))
  clear hb
  go_wp2_with fail
  refine (TN.out _ HA.out HC.out HE.out).mono ?_
  rintro e W2 ⟨rfl, ha, hg⟩
  replace HR := Lib.hid (kept_block HR.out hg NE.out)
  replace HG := Lib.hid (kept_trans HG.out hg)
  obtain ⟨⟨r0, r1⟩, g0, g1⟩ := two_at HR.out
  have HF := Lib.hid (set2_at HR.out (.string (numS q)) (.string (denS q)))
  have HG2 := Lib.hid (kept2 HG.out (Nat.le_refl _) (.string (numS q)) (.string (denS q)))
  have HA2 := Lib.hid (show ArgsAt ((W2.setCell ⟨w.heap.size, 0, none⟩ (.string (numS q))).setCell ⟨w.heap.size, 1, none⟩ (.string (denS q))) b (some ⟨ab, ao, none⟩) L C (n + 1) from (set2_other W2 w.heap.size (.string (numS q)) (.string (denS q)) (k := b) (fun e => NE.out e.symm)).trans ha)
  obtain ⟨⟨z0, z1⟩, _⟩ := two_at HF.out
  clear ha hg
  go_wp2
  refine bodyPost_ret (v := .agg #[.string (numS q), .string (denS q)]) (by simp [results, Tryz.results85, go_sem, z0, z1]) rfl ⟨rfl, HA2.out, HG2.out⟩
end Go.Proofs.YtphfefmlappidaaGreatDoor.Num

/- Rounding and powers of fractions: plain laws, no program. No conditions. -/
namespace Go.Proofs.YtphfefmlappidaaGreatDoor.Num

/-- the nearest whole number, the greater one of two -/
def roundNum (n d : Nat) : Nat := (n + n + d) / (d + d)
/-- ten to a power, above and below the line -/
def tenUp (p : Int) : Nat := 10 ^ p.toNat
def tenDn (p : Int) : Nat := 10 ^ (-p).toNat
def tenR (p : Int) : Rat := ((tenUp p : Nat) : Rat) / ((tenDn p : Nat) : Rat)
/-- a fraction, rounded to decimal places -/
def roundR (q : Rat) (p : Int) : Rat := ratOf (neg q) (roundNum (up q * tenUp p) (q.den * tenDn p) * tenDn p) (1 * tenUp p)
/-- a fraction to a whole power -/
def powR (q : Rat) (n : Int) : Rat := if n < 0 then (q ^ n.natAbs)⁻¹ else q ^ n.natAbs

theorem tenUp_pos (p : Int) : 0 < tenUp p := Nat.pow_pos (by decide)
theorem tenDn_pos (p : Int) : 0 < tenDn p := Nat.pow_pos (by decide)
theorem nat_pos {n : Nat} (h : 0 < n) : (0 : Rat) < ((n : Nat) : Rat) := by
  have : ((0 : Nat) : Rat) < ((n : Nat) : Rat) := by exact_mod_cast h
  exact this
theorem div_pos {a b : Rat} (ha : 0 < a) (hb : 0 < b) : 0 < a / b := by
  rw [Rat.div_def]; exact Rat.mul_pos ha (Rat.inv_pos.2 hb)
theorem div_nonneg {a b : Rat} (ha : 0 ≤ a) (hb : 0 < b) : 0 ≤ a / b := by
  rw [Rat.div_def]; exact Rat.mul_nonneg ha (Rat.le_of_lt (Rat.inv_pos.2 hb))
theorem tenR_pos (p : Int) : 0 < tenR p := div_pos (nat_pos (tenUp_pos p)) (nat_pos (tenDn_pos p))
theorem rat_ne {a : Rat} (h : 0 < a) : a ≠ 0 := fun e => by rw [e] at h; exact absurd h (by decide)
theorem le_div {a b c : Rat} (hc : 0 < c) (h : a * c ≤ b) : a ≤ b / c := by
  have h5 := Rat.mul_le_mul_of_nonneg_right h (Rat.le_of_lt (Rat.inv_pos.2 hc))
  have hne := rat_ne hc
  have e : a * c * c⁻¹ = a := by grind
  rw [e] at h5
  rw [Rat.div_def]; exact h5
theorem div_le {a b c : Rat} (hc : 0 < c) (h : b ≤ a * c) : b / c ≤ a := by
  have h5 := Rat.mul_le_mul_of_nonneg_right h (Rat.le_of_lt (Rat.inv_pos.2 hc))
  have hne := rat_ne hc
  have e : a * c * c⁻¹ = a := by grind
  rw [e] at h5
  rw [Rat.div_def]; exact h5

/-- powers with a sign -/
theorem sign_pow (m : Bool) (a k : Nat) : (if m then -(a : Int) else a) ^ k = if (m && decide (k % 2 = 1)) then -((a ^ k : Nat) : Int) else ((a ^ k : Nat) : Int) := by
  cases m with
  | false => simp
  | true =>
    simp only [if_true, Bool.true_and, decide_eq_true_eq]
    induction k with
    | zero => simp
    | succ k ih =>
      rw [Int.pow_succ, ih, Nat.pow_succ]
      by_cases h : k % 2 = 1
      · rw [if_pos h, if_neg (by omega)]; simp [Int.neg_mul, Int.mul_neg]
      · rw [if_neg h, if_pos (by omega)]; simp [Int.mul_neg]
theorem ratOf_pow (q : Rat) (k : Nat) : ratOf (neg q && decide (k % 2 = 1)) (up q ^ k) (q.den ^ k) = q ^ k := by
  have h := Rat.mkRat_self (q ^ k)
  rw [Rat.num_pow, Rat.den_pow] at h
  have e : q.num = if neg q then -(up q : Int) else up q := by
    unfold neg up
    by_cases hn : q.num < 0
    · rw [decide_eq_true hn, if_pos rfl]; omega
    · rw [decide_eq_false hn]; simp; omega
  rw [e, sign_pow] at h
  exact h
theorem ratOf_pow_inv (q : Rat) (k : Nat) (h0 : q ≠ 0) : ratOf (neg q && decide (k % 2 = 1)) (q.den ^ k) (up q ^ k) = (q ^ k)⁻¹ := by
  have hu : up q ^ k ≠ 0 := Nat.pos_iff_ne_zero.1 (Nat.pow_pos (Nat.pos_of_ne_zero (fun e => h0 ((up_zero q).1 e))))
  rw [← ratOf_pow q k, ratOf_inv _ _ _ hu (Nat.pos_iff_ne_zero.1 (Nat.pow_pos (Nat.pos_of_ne_zero q.den_nz)))]

theorem ratOf_false (n d : Nat) : ratOf false n d = ((n : Nat) : Rat) / ((d : Nat) : Rat) := by
  unfold ratOf
  rw [Rat.mkRat_eq_div]
  simp [Rat.intCast_natCast]
/-- the absolute value -/
theorem absR_of (q : Rat) : absR q = ((up q : Nat) : Rat) / ((q.den : Nat) : Rat) := by
  rw [← ratOf_false]
  unfold absR
  have h := ratOf_self q
  by_cases hn : q < 0
  · rw [if_pos hn]
    rw [(neg_iff q).2 hn] at h
    conv => lhs; rw [← h, ratOf_negate]
    rfl
  · rw [if_neg hn]
    have : neg q = false := by
      cases hh : neg q
      · rfl
      · exact absurd ((neg_iff q).1 hh) hn
    rw [this] at h
    exact h.symm
theorem absR_nonneg (q : Rat) : 0 ≤ absR q := by
  unfold absR
  split
  · next h => have := Rat.le_of_lt h; grind
  · next h => exact Rat.not_lt.1 h
theorem tenR_pow (p : Int) : powR 10 p = tenR p := by
  unfold powR tenR tenUp tenDn
  have h10 : ((10 ^ p.natAbs : Nat) : Rat) = (10 : Rat) ^ p.natAbs := by rw [Rat.natCast_pow]; rfl
  by_cases h : p < 0
  · rw [if_pos h, ← h10, show p.toNat = 0 by omega, show (-p).toNat = p.natAbs by omega]
    rw [Rat.div_def]
    have : ((10 ^ 0 : Nat) : Rat) = 1 := rfl
    rw [this, Rat.one_mul]
  · rw [if_neg h, ← h10, show p.toNat = p.natAbs by omega, show (-p).toNat = 0 by omega]
    have : ((10 ^ 0 : Nat) : Rat) = 1 := rfl
    rw [this]; grind
/-- what stands to be rounded -/
theorem scaled_of (q : Rat) (p : Int) : absR q * tenR p = (((up q * tenUp p : Nat) : Int) : Rat) / ((q.den * tenDn p : Nat) : Rat) := by
  rw [absR_of]
  unfold tenR
  have h1 := nat_ne q.den_nz
  have h2 := nat_ne (Nat.pos_iff_ne_zero.1 (tenDn_pos p))
  rw [Rat.intCast_natCast, Rat.natCast_mul, Rat.natCast_mul]
  grind
theorem roundNum_floor (n d : Nat) (hd : d ≠ 0) : ((roundNum n d : Nat) : Int) = ((((n : Nat) : Int) : Rat) / ((d : Nat) : Rat) + 1 / 2).floor := by
  have h1 := nat_ne hd
  have e : (((n : Nat) : Int) : Rat) / ((d : Nat) : Rat) + 1 / 2 = (((n + n + d : Nat) : Int) : Rat) / ((d + d : Nat) : Rat) := by
    have h2 : (((d + d : Nat)) : Rat) ≠ 0 := nat_ne (by omega)
    rw [Rat.intCast_natCast, Rat.intCast_natCast, Rat.natCast_add, Rat.natCast_add, Rat.natCast_add]
    rw [Rat.natCast_add] at h2
    grind
  rw [e, floor_ratio _ _ (by omega)]
  unfold roundNum
  omega
/-- rounding, said with fractions -/
theorem roundR_of (q : Rat) (p : Int) : roundR q p = signedR ((((absR q * tenR p + 1 / 2).floor : Int) : Rat) / tenR p) q := by
  have hr := roundNum_floor (up q * tenUp p) (q.den * tenDn p) (Nat.mul_ne_zero q.den_nz (Nat.pos_iff_ne_zero.1 (tenDn_pos p)))
  rw [← scaled_of] at hr
  rw [← hr]
  unfold roundR signedR
  generalize roundNum (up q * tenUp p) (q.den * tenDn p) = m
  have h1 := nat_ne (Nat.pos_iff_ne_zero.1 (tenUp_pos p))
  have h2 := nat_ne (Nat.pos_iff_ne_zero.1 (tenDn_pos p))
  have e : ratOf false (m * tenDn p) (1 * tenUp p) = (((m : Nat) : Int) : Rat) / tenR p := by
    rw [ratOf_false, Nat.one_mul]
    unfold tenR
    rw [Rat.natCast_mul, Rat.intCast_natCast]
    grind
  by_cases hn : q < 0
  · rw [if_pos hn, (neg_iff q).2 hn, ← e, ratOf_negate]; rfl
  · have : neg q = false := by
      cases hh : neg q
      · rfl
      · exact absurd ((neg_iff q).1 hh) hn
    rw [if_neg hn, this, e]
/-- rounding away from zero (up) or towards it, to decimal places -/
def cutR (upw : Bool) (q : Rat) (p : Int) : Rat :=
  signedR ((if upw = true ∧ ((((absR q * tenR p).floor : Int) : Rat) ≠ absR q * tenR p) then (((absR q * tenR p).floor : Int) : Rat) + 1 else (((absR q * tenR p).floor : Int) : Rat)) / tenR p) q

theorem absR_signed {v q : Rat} (hv : 0 ≤ v) : absR (signedR v q) = v := by
  have h0 : ¬ v < 0 := Rat.not_lt.2 hv
  unfold absR signedR
  by_cases h : q < 0
  · rw [if_pos h]
    by_cases h2 : -v < 0
    · rw [if_pos h2, Rat.neg_neg]
    · rw [if_neg h2]
      have h3 : 0 ≤ -v := Rat.not_lt.1 h2
      grind
  · rw [if_neg h, if_neg h0]
theorem floor_nonneg {x : Rat} (h : 0 ≤ x) : (0 : Rat) ≤ ((x.floor : Int) : Rat) := by
  have : (0 : Int) ≤ x.floor := Rat.le_floor_iff.2 h
  exact_mod_cast this
theorem scaled_nonneg (q : Rat) (p : Int) : 0 ≤ absR q * tenR p := Rat.mul_nonneg (absR_nonneg q) (Rat.le_of_lt (tenR_pos p))
theorem abs_down (q : Rat) (p : Int) : absR (cutR false q p) = (((absR q * tenR p).floor : Int) : Rat) / tenR p := by
  unfold cutR
  rw [if_neg (fun h => absurd h.1 (by decide))]
  exact absR_signed (div_nonneg (floor_nonneg (scaled_nonneg q p)) (tenR_pos p))
theorem abs_up (q : Rat) (p : Int) : ∃ z : Int, absR (cutR true q p) = (z : Rat) / tenR p ∧ absR q * tenR p ≤ (z : Rat) ∧ (absR q * tenR p + 1 / 2).floor ≤ z := by
  have h0 := floor_nonneg (scaled_nonneg q p)
  unfold cutR
  generalize hy : absR q * tenR p = y at *
  by_cases h : (((y.floor : Int) : Rat) ≠ y)
  · rw [if_pos ⟨rfl, h⟩]
    refine ⟨y.floor + 1, ?_, ?_, ?_⟩
    · rw [absR_signed (div_nonneg (by grind) (tenR_pos p)), Rat.intCast_add]; rfl
    · exact Rat.le_of_lt (Rat.lt_floor_add_one y)
    · have h1 := Rat.lt_floor_add_one y
      have h2 : (y + 1 / 2).floor < y.floor + 2 := by
        rw [Rat.floor_lt_iff, Rat.intCast_add]
        rw [Rat.intCast_add] at h1
        have e1 : ((1 : Int) : Rat) = 1 := rfl
        have e2 : ((2 : Int) : Rat) = 2 := rfl
        rw [e1] at h1; rw [e2]
        grind
      omega
  · rw [if_neg (fun k => h k.2)]
    have h : ((y.floor : Int) : Rat) = y := Decidable.not_not.1 h
    refine ⟨y.floor, absR_signed (div_nonneg h0 (tenR_pos p)), by rw [h]; exact Rat.le_refl, ?_⟩
    have h2 : (y + 1 / 2).floor < y.floor + 1 := by
      rw [Rat.floor_lt_iff, Rat.intCast_add, h]
      have e1 : ((1 : Int) : Rat) = 1 := rfl
      rw [e1]
      grind
    omega
theorem abs_round (q : Rat) (p : Int) : absR (roundR q p) = (((absR q * tenR p + 1 / 2).floor : Int) : Rat) / tenR p := by
  rw [roundR_of]
  have := scaled_nonneg q p
  exact absR_signed (div_nonneg (floor_nonneg (by grind)) (tenR_pos p))
theorem div_mono {a b c : Rat} (hc : 0 < c) (h : a ≤ b) : a / c ≤ b / c := by
  have h5 := Rat.mul_le_mul_of_nonneg_right h (Rat.le_of_lt (Rat.inv_pos.2 hc))
  rw [Rat.div_def, Rat.div_def]; exact h5
theorem down_le (q : Rat) (p : Int) : absR (cutR false q p) ≤ absR q := by
  rw [abs_down]; exact div_le (tenR_pos p) (Rat.floor_le _)
theorem le_up (q : Rat) (p : Int) : absR q ≤ absR (cutR true q p) := by
  obtain ⟨z, e, h, _⟩ := abs_up q p
  rw [e]; exact le_div (tenR_pos p) h
theorem down_le_round (q : Rat) (p : Int) : absR (cutR false q p) ≤ absR (roundR q p) := by
  rw [abs_down, abs_round]
  refine div_mono (tenR_pos p) ?_
  have : (absR q * tenR p).floor ≤ (absR q * tenR p + 1 / 2).floor := Rat.floor_monotone (by grind)
  exact_mod_cast this
theorem round_le_up (q : Rat) (p : Int) : absR (roundR q p) ≤ absR (cutR true q p) := by
  obtain ⟨z, e, _, h⟩ := abs_up q p
  rw [e, abs_round]
  refine div_mono (tenR_pos p) ?_
  exact_mod_cast h
theorem round_again (q : Rat) (p : Int) : roundR (roundR q p) p = roundR q p := by
  have hp := tenR_pos p
  have hne := rat_ne hp
  have e : absR (roundR q p) * tenR p = (((absR q * tenR p + 1 / 2).floor : Int) : Rat) := by
    rw [abs_round]; grind
  rw [roundR_of (roundR q p) p, e]
  generalize hz : (absR q * tenR p + 1 / 2).floor = z at *
  have hz0 : 0 ≤ z := by
    rw [← hz, Rat.le_floor_iff]
    have := scaled_nonneg q p
    have e0 : ((0 : Int) : Rat) = 0 := rfl
    rw [e0]; grind
  have h1 : (((z : Int) : Rat) + 1 / 2).floor = z := by
    apply Int.le_antisymm
    · have : ((z : Rat) + 1 / 2).floor < z + 1 := by
        rw [Rat.floor_lt_iff, Rat.intCast_add]
        have e1 : ((1 : Int) : Rat) = 1 := rfl
        rw [e1]; grind
      omega
    · rw [Rat.le_floor_iff]; grind
  rw [h1, roundR_of q p, hz]
  by_cases h0 : z = 0
  · subst h0
    have : ((0 : Int) : Rat) / tenR p = 0 := by
      have e0 : ((0 : Int) : Rat) = 0 := rfl
      rw [e0]; grind
    rw [this]
    unfold signedR
    split <;> split <;> grind
  · have hv : 0 < ((z : Int) : Rat) / tenR p := div_pos (by
      have : (0 : Int) < z := by omega
      exact_mod_cast this) hp
    generalize ((z : Int) : Rat) / tenR p = v at hv
    unfold signedR
    by_cases hq : q < 0
    · rw [if_pos hq]
      have : -v < 0 := by grind
      rw [if_pos this]
    · rw [if_neg hq]
      have : ¬ v < 0 := by grind
      rw [if_neg this]
/-- the next multiple below, above -/
theorem limit_down (q y : Rat) (hy : 0 < y) : y * (((q / y).floor : Int) : Rat) ≤ q := by
  have h := Rat.mul_le_mul_of_nonneg_right (Rat.floor_le (q / y)) (Rat.le_of_lt hy)
  have hne := rat_ne hy
  have e : q / y * y = q := by grind
  rw [e] at h
  rw [Rat.mul_comm]; exact h
theorem limit_up (q y : Rat) (hy : 0 < y) : q ≤ -(y * ((((-q) / y).floor : Int) : Rat)) := by
  have h := limit_down (-q) y hy
  grind
end Go.Proofs.YtphfefmlappidaaGreatDoor.Num

/- package exact's powers of natural numbers. Conditions: the results have at most 34 limbs. -/
namespace Go.Proofs.YtphfefmlappidaaGreatDoor.Num
open Go.RowKit Go.Lib

theorem half_abs (m : Int) : (m.tdiv 2).natAbs = m.natAbs / 2 := by rw [Int.natAbs_tdiv]; rfl
theorem rest_abs (m : Int) : (m.tmod 2).natAbs = m.natAbs % 2 := by rw [Int.natAbs_tmod]; rfl
theorem pow_half (a o : Nat) (m : Int) : o * a ^ m.natAbs = (if m.tmod 2 = 0 then o else o * a) * (if m.tdiv 2 = 0 then a else a * a) ^ (m.tdiv 2).natAbs := by
  have h1 : m.natAbs = 2 * (m.tdiv 2).natAbs + (m.tmod 2).natAbs := by
    rw [half_abs, rest_abs]; omega
  have hr : (m.tmod 2).natAbs = if m.tmod 2 = 0 then 0 else 1 := by
    rw [rest_abs]
    have e : m.tmod 2 = 0 ↔ m.natAbs % 2 = 0 := by
      rw [← Int.natAbs_eq_zero, rest_abs]
    by_cases h : m.tmod 2 = 0
    · rw [if_pos h]; exact e.1 h
    · rw [if_neg h]
      have : ¬ m.natAbs % 2 = 0 := fun h' => h (e.2 h')
      omega
  rw [h1, hr]
  by_cases hq : m.tdiv 2 = 0
  · have hq' : (m.tdiv 2).natAbs = 0 := by rw [hq]; rfl
    rw [hq']
    by_cases h : m.tmod 2 = 0
    · rw [if_pos h, if_pos h]; simp
    · rw [if_neg h, if_neg h]; simp
  · rw [if_neg hq, Nat.pow_add, Nat.pow_mul, Nat.pow_two]
    by_cases h : m.tmod 2 = 0
    · rw [if_pos h, if_pos h, Nat.pow_zero, Nat.mul_one]
    · rw [if_neg h, if_neg h, Nat.pow_one, Nat.mul_comm ((a * a) ^ _) a, Nat.mul_assoc]
theorem le_of_prod {o x R : Nat} (h : o * x = R) (hx : x ≠ 0) : o ≤ R := by
  rw [← h]; exact Nat.le_mul_of_pos_right o (Nat.pos_of_ne_zero hx)
/-- the state of a power in the making: o times a to the n is R -/
structure PowI (R : Nat) (a o : Nat) (m : Int) : Prop where
  prod : o * a ^ m.natAbs = R
  two : m ≠ 0 → 2 ≤ a
  pos : o ≠ 0
theorem PowI.step {R a o : Nat} {m : Int} (h : PowI R a o m) (h0 : m ≠ 0) : PowI R (if m.tdiv 2 = 0 then a else a * a) (if m.tmod 2 = 0 then o else o * a) (m.tdiv 2) := by
  have h2 := h.two h0
  refine ⟨by rw [← pow_half]; exact h.prod, fun hq => ?_, ?_⟩
  · rw [if_neg hq]; exact Nat.le_trans h2 (Nat.le_mul_of_pos_left _ (by omega))
  · split
    · exact h.pos
    · exact Nat.mul_ne_zero h.pos (by omega)
theorem PowI.le {R a o : Nat} {m : Int} (h : PowI R a o m) (h2 : 2 ≤ a) : o ≤ R := le_of_prod h.prod (Nat.pos_iff_ne_zero.1 (Nat.pow_pos (by omega)))
theorem PowI.base_le {R a o : Nat} {m : Int} (h : PowI R a o m) (h0 : m ≠ 0) : a ≤ R := by
  rw [← h.prod]
  refine Nat.le_trans ?_ (Nat.le_mul_of_pos_left _ (Nat.pos_of_ne_zero h.pos))
  exact Nat.le_self_pow (by omega) a
theorem NatAt.len {W : World} {A : Option Addr} {L C x : Nat} (h : NatAt W (.slice A L C) x) : L = (digs LB x).length := by
  obtain ⟨A', C', e, _⟩ := LimbsAt.form h
  injection e

set_option maxHeartbeats 4000000 in
set_option maxRecDepth 100000 in
theorem power_any (v1 : Value) (a0 : Nat) (n : Int) (w : World) (h1 : NatAt w v1 a0) (hn0 : -1000000 ≤ n) (hn1 : n ≤ 1000000) (hl : (digs LB (a0 ^ n.natAbs)).length ≤ 34) :
    Calls Tryz.prog 314 #[v1, .int .i64 n] w fun e w' => ∃ v', e = .returned (.tuple #[v', .bool true]) ∧ NatAt w' v' (a0 ^ n.natAbs) ∧ Below w.heap.size w w' := by
  have H1 := Lib.hid h1
  have Z := Lib.hid (fun W => zero_any v1 a0 W)
  have O := Lib.hid (fun W => one_any v1 a0 W)
  clear h1
  by_cases hz : a0 = 0 ∧ n ≠ 0
  · have hR : a0 ^ n.natAbs = a0 := by
      rw [hz.1, Nat.zero_pow (by have := hz.2; omega)]
    rw [hR]
    rw [decide_eq_true hz.1] at Z
    have hn : (n != 0) = true := by rw [bne_iff_ne]; exact hz.2
    clear hl hR hz
    go_enter Tryz.func314, Tryz.ntmps314
    go_wp2_with fail
    refine (Z.out _ H1.out).mono ?_
    rintro e w ⟨rfl, rfl⟩
    go_wp2
    go_ret2
    exact ⟨_, rfl, H1.out, Below.refl _ _⟩
  by_cases ho : a0 = 1
  · have hR : a0 ^ n.natAbs = a0 := by rw [ho, Nat.one_pow]
    rw [hR]
    rw [decide_eq_false (show ¬ a0 = 0 by omega)] at Z
    rw [decide_eq_true ho] at O
    clear hl hR hz
    go_enter Tryz.func314, Tryz.ntmps314
    go_wp2_with fail
    refine (Z.out _ H1.out).mono ?_
    rintro e w ⟨rfl, rfl⟩
    go_wp2_with fail
    refine (O.out _ H1.out).mono ?_
    rintro e w ⟨rfl, rfl⟩
    go_wp2
    go_ret2
    exact ⟨_, rfl, H1.out, Below.refl _ _⟩
  rw [decide_eq_false ho] at O
  obtain ⟨R, hR⟩ : ∃ R, a0 ^ n.natAbs = R := ⟨_, rfl⟩
  rw [hR] at hl ⊢
  have HR := Lib.hid hl
  have HI : Hid (PowI R a0 1 n) := Lib.hid ⟨by rw [Nat.one_mul]; exact hR, fun h => by
    have : a0 ≠ 0 := fun h' => hz ⟨h', h⟩
    omega, by decide⟩
  have hb : Below w.heap.size w (w.alloc (.cells #[.int .u32 1] 69)) := (Below.refl _ _).alloc (Nat.le_refl _) _
  have HB0 := Lib.hid hb
  have HA0 := Lib.hid (H1.out.below hb)
  have HO0 := Lib.hid (one_new w 69)
  obtain ⟨W0, hW0⟩ : ∃ Z, w.alloc (.cells #[.int .u32 1] 69) = Z := ⟨_, rfl⟩
  rw [hW0] at HB0 HA0 HO0
  have EW0 := Lib.hid hW0
  clear hl hR ho hb hW0
  go_enter Tryz.func314, Tryz.ntmps314
  go_wp2_with fail
  refine (Z.out _ H1.out).mono ?_
  rintro e w ⟨rfl, rfl⟩
  by_cases hz0 : a0 = 0
  · have hn : n = 0 := Decidable.byContradiction fun h => hz ⟨hz0, h⟩
    have hn2 : (n != 0) = false := by rw [bne_eq_false_iff_eq]; exact hn
    have hd : decide (a0 = 0) = true := decide_eq_true hz0
    clear hn
    clear hz hz0
    rw [hd]
    go_wp2_with fail
    refine (O.out _ H1.out).mono ?_
    rintro e w ⟨rfl, rfl⟩
    go_wp2
    rw [EW0.out]
    go_loopg [0, 1, 6] n.natAbs (fun gh v0 v1 v6 wx => ∃ (a o : Nat) (m : Int), m.natAbs ≤ gh ∧ v1 = .int .i64 m ∧ NatAt wx v0 a ∧ NatAt wx v6 o ∧ PowI R a o m ∧ -1000000 ≤ m ∧ m ≤ 1000000 ∧ Below w.heap.size w wx)
    case atStart => exact ⟨a0, 1, n, Nat.le_refl _, rfl, HA0.out, HO0.out, HI.out, hn0, hn1, HB0.out⟩
    case round =>
      obtain ⟨a, o, m, hm, rfl, ha, ho, hi, hm0, hm1, hbel⟩ := hrel
      obtain ⟨A1, L1, C1, rfl⟩ := ha.shape
      obtain ⟨A6, L6, C6, rfl⟩ := ho.shape
      have HA := Lib.hid ha
      have HO := Lib.hid ho
      have HI2 := Lib.hid hi
      have HBL := Lib.hid hbel
      clear ha ho hi hbel
      by_cases h0 : m = 0
      · subst h0
        have hv := HI2.out.prod
        rw [show (0 : Int).natAbs = 0 from rfl, Nat.pow_zero, Nat.mul_one] at hv
        rw [hv] at HO
        clear hv
        go_wp2
        go_ret2
        exact ⟨_, rfl, HO.out, HBL.out⟩
      have hne : (m != 0) = true := by rw [bne_iff_ne]; exact h0
      have hl1 := HA.out.len
      have hl2 : L1 ≤ 34 := by
        rw [hl1]; exact Nat.le_trans (digs_len_mono LB_two (HI2.out.base_le h0)) HR.out
      have hl3 := HO.out.len
      have hl4 : L6 ≤ 34 := by
        rw [hl3]; exact Nat.le_trans (digs_len_mono LB_two (HI2.out.le (HI2.out.two h0))) HR.out
      have TT := Lib.hid (fun W b h => calls_shaped (times_any (.slice A6 L6 C6) (.slice A1 L1 C1) o a W b h (by omega) (by omega)))
      have TA := Lib.hid (fun W h => calls_shaped (times_any (.slice A1 L1 C1) (.slice A1 L1 C1) a a W h h (by omega) (by omega)))
      have d1 : decide (34 < (L1 : Int)) = false := decide_eq_false (by omega)
      have hq3 : -1000000 ≤ m.tdiv 2 ∧ m.tdiv 2 ≤ 1000000 := by have := half_abs m; omega
      clear hl1 hl2 hl3 hl4
      by_cases ho : m.tmod 2 = 0
      · by_cases hh : m.tdiv 2 = 0
        · exfalso
          have := half_abs m
          have := rest_abs m
          omega
        · have q1 : (m.tmod 2 != 0) = false := by rw [bne_eq_false_iff_eq]; exact ho
          have q2 : (m.tdiv 2 != 0) = true := by rw [bne_iff_ne]; exact hh
          have HST := Lib.hid (HI2.out.step h0)
          rw [if_neg hh, if_pos ho] at HST
          have hl6 := HO.out.len
          have hl7 : L6 ≤ 34 := by
            rw [hl6]
            have := HST.out.le (by have h2 := HI2.out.two h0; first | exact h2 | exact Nat.le_trans h2 (Nat.le_mul_of_pos_left _ (by omega)))
            exact Nat.le_trans (digs_len_mono LB_two this) HR.out
          have d6 : decide (34 < (L6 : Int)) = false := decide_eq_false (by omega)
          clear hl6
          go_wp2_with fail
          refine (TA.out _ HA.out).mono ?_
          rintro e w3 ⟨A7, L7, C7, rfl, ha2, hb⟩
          replace HO := Lib.hid (HO.out.below hb)
          replace HBL := Lib.hid (HBL.out.trans (hb.mono HBL.out.size))
          have HA := Lib.hid ha2
          clear ha2 hb
          go_wp2
          go_roundg (gk - 1)
          case measure => omega
          case rel => exact ⟨_, _, m.tdiv 2, by have := half_abs m; omega, by go_num, HA.out, HO.out, HST.out, hq3.1, hq3.2, HBL.out⟩
      · by_cases hh : m.tdiv 2 = 0
        · have q1 : (m.tmod 2 != 0) = true := by rw [bne_iff_ne]; exact ho
          have q2 : (m.tdiv 2 != 0) = false := by rw [bne_eq_false_iff_eq]; exact hh
          have HST := Lib.hid (HI2.out.step h0)
          rw [if_pos hh, if_neg ho] at HST
          go_wp2_with fail
          refine (TT.out _ HO.out HA.out).mono ?_
          rintro e w2 ⟨A6, L6, C6, rfl, ho2, hb⟩
          replace HA := Lib.hid (HA.out.below hb)
          replace HBL := Lib.hid (HBL.out.trans (hb.mono HBL.out.size))
          have HO := Lib.hid ho2
          clear ho2 hb
          have hl6 := HO.out.len
          have hl7 : L6 ≤ 34 := by
            rw [hl6]
            have := HST.out.le (by have h2 := HI2.out.two h0; first | exact h2 | exact Nat.le_trans h2 (Nat.le_mul_of_pos_left _ (by omega)))
            exact Nat.le_trans (digs_len_mono LB_two this) HR.out
          have d6 : decide (34 < (L6 : Int)) = false := decide_eq_false (by omega)
          clear hl6
          go_wp2
          go_roundg (gk - 1)
          case measure => omega
          case rel => exact ⟨_, _, m.tdiv 2, by have := half_abs m; omega, by go_num, HA.out, HO.out, HST.out, hq3.1, hq3.2, HBL.out⟩
        · have q1 : (m.tmod 2 != 0) = true := by rw [bne_iff_ne]; exact ho
          have q2 : (m.tdiv 2 != 0) = true := by rw [bne_iff_ne]; exact hh
          have HST := Lib.hid (HI2.out.step h0)
          rw [if_neg hh, if_neg ho] at HST
          go_wp2_with fail
          refine (TT.out _ HO.out HA.out).mono ?_
          rintro e w2 ⟨A6, L6, C6, rfl, ho2, hb⟩
          replace HA := Lib.hid (HA.out.below hb)
          replace HBL := Lib.hid (HBL.out.trans (hb.mono HBL.out.size))
          have HO := Lib.hid ho2
          clear ho2 hb
          have hl6 := HO.out.len
          have hl7 : L6 ≤ 34 := by
            rw [hl6]
            have := HST.out.le (by have h2 := HI2.out.two h0; first | exact h2 | exact Nat.le_trans h2 (Nat.le_mul_of_pos_left _ (by omega)))
            exact Nat.le_trans (digs_len_mono LB_two this) HR.out
          have d6 : decide (34 < (L6 : Int)) = false := decide_eq_false (by omega)
          clear hl6
          go_wp2_with fail
          refine (TA.out _ HA.out).mono ?_
          rintro e w3 ⟨A7, L7, C7, rfl, ha2, hb⟩
          replace HO := Lib.hid (HO.out.below hb)
          replace HBL := Lib.hid (HBL.out.trans (hb.mono HBL.out.size))
          have HA := Lib.hid ha2
          clear ha2 hb
          go_wp2
          go_roundg (gk - 1)
          case measure => omega
          case rel => exact ⟨_, _, m.tdiv 2, by have := half_abs m; omega, by go_num, HA.out, HO.out, HST.out, hq3.1, hq3.2, HBL.out⟩
  · have hd : decide (a0 = 0) = false := decide_eq_false hz0
    clear hz hz0
    rw [hd]
    go_wp2_with fail
    refine (O.out _ H1.out).mono ?_
    rintro e w ⟨rfl, rfl⟩
    go_wp2
    rw [EW0.out]
    go_loopg [0, 1, 6] n.natAbs (fun gh v0 v1 v6 wx => ∃ (a o : Nat) (m : Int), m.natAbs ≤ gh ∧ v1 = .int .i64 m ∧ NatAt wx v0 a ∧ NatAt wx v6 o ∧ PowI R a o m ∧ -1000000 ≤ m ∧ m ≤ 1000000 ∧ Below w.heap.size w wx)
    case atStart => exact ⟨a0, 1, n, Nat.le_refl _, rfl, HA0.out, HO0.out, HI.out, hn0, hn1, HB0.out⟩
    case round =>
      obtain ⟨a, o, m, hm, rfl, ha, ho, hi, hm0, hm1, hbel⟩ := hrel
      obtain ⟨A1, L1, C1, rfl⟩ := ha.shape
      obtain ⟨A6, L6, C6, rfl⟩ := ho.shape
      have HA := Lib.hid ha
      have HO := Lib.hid ho
      have HI2 := Lib.hid hi
      have HBL := Lib.hid hbel
      clear ha ho hi hbel
      by_cases h0 : m = 0
      · subst h0
        have hv := HI2.out.prod
        rw [show (0 : Int).natAbs = 0 from rfl, Nat.pow_zero, Nat.mul_one] at hv
        rw [hv] at HO
        clear hv
        go_wp2
        go_ret2
        exact ⟨_, rfl, HO.out, HBL.out⟩
      have hne : (m != 0) = true := by rw [bne_iff_ne]; exact h0
      have hl1 := HA.out.len
      have hl2 : L1 ≤ 34 := by
        rw [hl1]; exact Nat.le_trans (digs_len_mono LB_two (HI2.out.base_le h0)) HR.out
      have hl3 := HO.out.len
      have hl4 : L6 ≤ 34 := by
        rw [hl3]; exact Nat.le_trans (digs_len_mono LB_two (HI2.out.le (HI2.out.two h0))) HR.out
      have TT := Lib.hid (fun W b h => calls_shaped (times_any (.slice A6 L6 C6) (.slice A1 L1 C1) o a W b h (by omega) (by omega)))
      have TA := Lib.hid (fun W h => calls_shaped (times_any (.slice A1 L1 C1) (.slice A1 L1 C1) a a W h h (by omega) (by omega)))
      have d1 : decide (34 < (L1 : Int)) = false := decide_eq_false (by omega)
      have hq3 : -1000000 ≤ m.tdiv 2 ∧ m.tdiv 2 ≤ 1000000 := by have := half_abs m; omega
      clear hl1 hl2 hl3 hl4
      by_cases ho : m.tmod 2 = 0
      · by_cases hh : m.tdiv 2 = 0
        · exfalso
          have := half_abs m
          have := rest_abs m
          omega
        · have q1 : (m.tmod 2 != 0) = false := by rw [bne_eq_false_iff_eq]; exact ho
          have q2 : (m.tdiv 2 != 0) = true := by rw [bne_iff_ne]; exact hh
          have HST := Lib.hid (HI2.out.step h0)
          rw [if_neg hh, if_pos ho] at HST
          have hl6 := HO.out.len
          have hl7 : L6 ≤ 34 := by
            rw [hl6]
            have := HST.out.le (by have h2 := HI2.out.two h0; first | exact h2 | exact Nat.le_trans h2 (Nat.le_mul_of_pos_left _ (by omega)))
            exact Nat.le_trans (digs_len_mono LB_two this) HR.out
          have d6 : decide (34 < (L6 : Int)) = false := decide_eq_false (by omega)
          clear hl6
          go_wp2_with fail
          refine (TA.out _ HA.out).mono ?_
          rintro e w3 ⟨A7, L7, C7, rfl, ha2, hb⟩
          replace HO := Lib.hid (HO.out.below hb)
          replace HBL := Lib.hid (HBL.out.trans (hb.mono HBL.out.size))
          have HA := Lib.hid ha2
          clear ha2 hb
          go_wp2
          go_roundg (gk - 1)
          case measure => omega
          case rel => exact ⟨_, _, m.tdiv 2, by have := half_abs m; omega, by go_num, HA.out, HO.out, HST.out, hq3.1, hq3.2, HBL.out⟩
      · by_cases hh : m.tdiv 2 = 0
        · have q1 : (m.tmod 2 != 0) = true := by rw [bne_iff_ne]; exact ho
          have q2 : (m.tdiv 2 != 0) = false := by rw [bne_eq_false_iff_eq]; exact hh
          have HST := Lib.hid (HI2.out.step h0)
          rw [if_pos hh, if_neg ho] at HST
          go_wp2_with fail
          refine (TT.out _ HO.out HA.out).mono ?_
          rintro e w2 ⟨A6, L6, C6, rfl, ho2, hb⟩
          replace HA := Lib.hid (HA.out.below hb)
          replace HBL := Lib.hid (HBL.out.trans (hb.mono HBL.out.size))
          have HO := Lib.hid ho2
          clear ho2 hb
          have hl6 := HO.out.len
          have hl7 : L6 ≤ 34 := by
            rw [hl6]
            have := HST.out.le (by have h2 := HI2.out.two h0; first | exact h2 | exact Nat.le_trans h2 (Nat.le_mul_of_pos_left _ (by omega)))
            exact Nat.le_trans (digs_len_mono LB_two this) HR.out
          have d6 : decide (34 < (L6 : Int)) = false := decide_eq_false (by omega)
          clear hl6
          go_wp2
          go_roundg (gk - 1)
          case measure => omega
          case rel => exact ⟨_, _, m.tdiv 2, by have := half_abs m; omega, by go_num, HA.out, HO.out, HST.out, hq3.1, hq3.2, HBL.out⟩
        · have q1 : (m.tmod 2 != 0) = true := by rw [bne_iff_ne]; exact ho
          have q2 : (m.tdiv 2 != 0) = true := by rw [bne_iff_ne]; exact hh
          have HST := Lib.hid (HI2.out.step h0)
          rw [if_neg hh, if_neg ho] at HST
          go_wp2_with fail
          refine (TT.out _ HO.out HA.out).mono ?_
          rintro e w2 ⟨A6, L6, C6, rfl, ho2, hb⟩
          replace HA := Lib.hid (HA.out.below hb)
          replace HBL := Lib.hid (HBL.out.trans (hb.mono HBL.out.size))
          have HO := Lib.hid ho2
          clear ho2 hb
          have hl6 := HO.out.len
          have hl7 : L6 ≤ 34 := by
            rw [hl6]
            have := HST.out.le (by have h2 := HI2.out.two h0; first | exact h2 | exact Nat.le_trans h2 (Nat.le_mul_of_pos_left _ (by omega)))
            exact Nat.le_trans (digs_len_mono LB_two this) HR.out
          have d6 : decide (34 < (L6 : Int)) = false := decide_eq_false (by omega)
          clear hl6
          go_wp2_with fail
          refine (TA.out _ HA.out).mono ?_
          rintro e w3 ⟨A7, L7, C7, rfl, ha2, hb⟩
          replace HO := Lib.hid (HO.out.below hb)
          replace HBL := Lib.hid (HBL.out.trans (hb.mono HBL.out.size))
          have HA := Lib.hid ha2
          clear ha2 hb
          go_wp2
          go_roundg (gk - 1)
          case measure => omega
          case rel => exact ⟨_, _, m.tdiv 2, by have := half_abs m; omega, by go_num, HA.out, HO.out, HST.out, hq3.1, hq3.2, HBL.out⟩
end Go.Proofs.YtphfefmlappidaaGreatDoor.Num
