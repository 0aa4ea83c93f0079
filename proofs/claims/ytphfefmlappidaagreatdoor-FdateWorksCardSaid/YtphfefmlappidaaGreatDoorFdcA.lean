/- Numbers as texts of digits, fractions, values and the functions of fmath: contracts of the program's functions, joined from smaller texts. Conditions stand at each theorem. -/
import Derived.OrdersHeld
import Derived.Deep.RegionHeld3
import Derived.Test.YtphfefmlappidaaGreatDoorNumH
import Derived.Lib.MinMax
import Derived.Test.YtphfefmlappidaaGreatDoorNumG
import Derived.Test.YtphfefmlappidaaGreatDoorRows
import Derived.ProofKit
import Derived.SevenTiedAt

/- A region that draws its order, by one condition on what has come up, the frame and the world: each operation is walked once. Plain: of no program. -/
namespace Go.Proofs.YtphfefmlappidaaGreatDoor.Num

section
variable {P : Program} {ops : Array Oper} {Q : Exit → Act → World → Prop} {md : Region.Mode}

def unl (ops : Array Oper) (listed : Array Bool) : List Nat := (List.range ops.size).filter fun j => !(listed.getD j true)
theorem unl_set {listed : Array Bool} {i : Nat} (hi : i < ops.size) (hun : listed.getD i true = false) : (unl ops (listed.setIfInBounds i true)).length < (unl ops listed).length := by
  have hsz : i < listed.size := by
    rcases Nat.lt_or_ge i listed.size with h | h
    · exact h
    · simp [Array.getElem?_eq_none h] at hun
  have e : unl ops (listed.setIfInBounds i true) = (unl ops listed).filter fun j => !(j == i) := by
    unfold unl
    rw [List.filter_filter]
    apply List.filter_congr
    intro j hj
    by_cases hji : i = j
    · subst hji; simp [hsz]
    · have : (j == i) = false := by simp; omega
      rw [getD_set_ne true hji, this]; simp
  rw [e, List.length_filter_lt_length_iff_exists]
  refine ⟨i, ?_, by simp⟩
  unfold unl
  rw [List.mem_filter, List.mem_range]
  exact ⟨hi, by rw [hun]; rfl⟩
theorem unl_ready {listed : Array Bool} {i : Nat} (h : i ∈ Region.ready md ops listed) : 0 < (unl ops listed).length := by
  obtain ⟨h0, o, ho, _⟩ := mem_ready.1 h
  have hi : i < ops.size := (Array.getElem?_eq_some_iff.1 ho).1
  refine List.length_pos_of_mem (a := i) ?_
  unfold unl
  rw [List.mem_filter, List.mem_range]
  exact ⟨hi, by rw [h0]; rfl⟩

theorem wpAny_inv (I : Array Bool → Act → World → Prop)
    (hstep : ∀ listed a w, I listed a w → ∀ i o, ops[i]? = some o → listed.getD i true = false → (∀ e ∈ o.after, Region.binds md e = true → listed.getD e.on false = true) → wpOp P ops Q i (fun a' w' => I (listed.setIfInBounds i true) a' w') a w)
    (hdone : ∀ listed a w, I listed a w → Region.ready md ops listed = [] → Q .normal a w) :
    ∀ fuel listed a w, (unl ops listed).length ≤ fuel → I listed a w → wpAny P md ops Q fuel listed a w := by
  intro fuel
  induction fuel with
  | zero =>
    intro listed a w hu hI
    have hr : Region.ready md ops listed = [] := by
      cases hr : Region.ready md ops listed with
      | nil => rfl
      | cons i r => have := unl_ready (md := md) (ops := ops) (listed := listed) (i := i) (by rw [hr]; simp); omega
    exact ⟨hr, hdone listed a w hI hr⟩
  | succ n ih =>
    intro listed a w hu hI
    refine ⟨fun hr => hdone listed a w hI hr, fun i hi => ?_⟩
    obtain ⟨h0, o, ho, hall⟩ := mem_ready.1 hi
    refine wpOp_mono (fun a' w' h => ih _ a' w' ?_ h) (hstep listed a w hI i o ho h0 hall)
    have := unl_set (ops := ops) (Array.getElem?_eq_some_iff.1 ho).1 h0
    omega

theorem wp_region_inv {id : Nat} {a : Act} {w : World} (hm : P.follows .mixedOrders = true) (I : Array Bool → Act → World → Prop)
    (h0 : I (Array.replicate ops.size false) a w.drew)
    (hstep : ∀ listed a w, I listed a w → ∀ i o, ops[i]? = some o → listed.getD i true = false → (∀ e ∈ o.after, Region.binds .any e = true → listed.getD e.on false = true) → wpOp P ops Q i (fun a' w' => I (listed.setIfInBounds i true) a' w') a w)
    (hdone : ∀ listed a w, I listed a w → Region.ready .any ops listed = [] → Q .normal a w) : (Code.region id ops true).wp P Q a w :=
  wp_region_any hm (wpAny_inv I hstep hdone _ _ _ _ (by
    unfold unl
    refine Nat.le_trans (List.length_filter_le _ _) ?_
    rw [List.length_range]; exact Nat.le_refl _) h0)

/-- the operations that number i waits for -/
def needs (md : Region.Mode) (ops : Array Oper) (i : Nat) : List Nat :=
  match ops[i]? with
  | some o => (o.after.toList.filter fun e => Region.binds md e).map (·.on)
  | none => []
/-- every edge leads back -/
def backB (ops : Array Oper) : Bool := (List.range ops.size).all fun i => match ops[i]? with
  | some o => o.after.toList.all fun e => !Region.binds .any e || decide (e.on < i)
  | none => true
theorem all_listed {listed : Array Bool} (hsz : listed.size = ops.size) (hb : backB ops = true) (hr : Region.ready .any ops listed = []) : ∀ j, j < ops.size → listed.getD j false = true := by
  intro j
  induction j using Nat.strongRecOn with
  | ind j ih =>
    intro hj
    cases hl : listed.getD j false with
    | true => rfl
    | false =>
      have hun : listed.getD j true = false := by
        have hj' : j < listed.size := by omega
        simp [hj'] at hl ⊢
        exact hl
      have ho : ops[j]? = some ops[j] := Array.getElem?_eq_getElem hj
      have hbj := List.all_eq_true.1 hb j (List.mem_range.2 hj)
      rw [ho] at hbj
      have : j ∈ Region.ready .any ops listed := mem_ready.2 ⟨hun, ops[j], ho, fun e he hbd => by
        have h1 := List.all_eq_true.1 hbj e (Array.mem_toList_iff.2 he)
        rw [hbd] at h1
        have := of_decide_eq_true h1
        exact ih e.on this (by omega)⟩
      rw [hr] at this
      cases this

/-- the frame with some slots laid anew -/
def putAll (a : Act) (slots : List Nat) (vs : List Value) : Act := { a with tmps := (slots.zip vs).foldl (fun t x => t.setIfInBounds x.1 x.2) a.tmps }
theorem wp_region_by {id : Nat} {a0 : Act} {w : World} (slots : List Nat) (J : Array Bool → List Value → World → Prop) (hm : P.follows .mixedOrders = true) (hb : backB ops = true)
    (vs0 : List Value) (h00 : putAll a0 slots vs0 = a0) (h0 : J (Array.replicate ops.size false) vs0 w.drew)
    (hstep : ∀ listed vs w, J listed vs w → ∀ i, i < ops.size → listed.getD i true = false → (∀ j, (needs .any ops i).contains j = true → listed.getD j false = true) → wpOp P ops Q i (fun a' w' => ∃ vs', J (listed.setIfInBounds i true) vs' w' ∧ a' = putAll a0 slots vs') (putAll a0 slots vs) w)
    (hdone : ∀ listed vs w, J listed vs w → (∀ j, j < ops.size → listed.getD j false = true) → Q .normal (putAll a0 slots vs) w) : (Code.region id ops true).wp P Q a0 w := by
  refine wp_region_inv hm (fun listed a w => listed.size = ops.size ∧ ∃ vs, J listed vs w ∧ a = putAll a0 slots vs) ⟨by simp, vs0, h0, h00.symm⟩ ?_ ?_
  · rintro listed a w ⟨hsz, vs, hJ, rfl⟩ i o ho hun hpre
    refine wpOp_mono (fun a' w' h => ⟨by simpa using hsz, h⟩) (hstep listed vs w hJ i (Array.getElem?_eq_some_iff.1 ho).1 hun ?_)
    intro j hj
    unfold needs at hj
    rw [ho] at hj
    simp only [List.contains_iff_mem, List.mem_map, List.mem_filter, Array.mem_toList_iff] at hj
    obtain ⟨e, ⟨he, hbd⟩, rfl⟩ := hj
    exact hpre e he hbd
  · rintro listed a w ⟨hsz, vs, hJ, rfl⟩ hr
    exact hdone listed vs w hJ (all_listed hsz hb hr)
theorem step_of {i : Nat} {K : Act → World → Prop} {a : Act} {w : World} (o : Oper) (ho : ops[i]? = some o)
    (h : ∀ K' : Act → World → Prop, Shut (∀ a w, K a w → K' a w) → if Region.wanted o (yielded ops a.tmps) = true then Oper.wp P o a w K' Q else K' (a.put o.dst undef) w) : wpOp P ops Q i K a w :=
  wpOp_step ho (fun K' hK => h K' hK)

theorem bit_mono {listed : Array Bool} {i j : Nat} (h : listed.getD j false = true) : (listed.setIfInBounds i true).getD j false = true := by
  by_cases e : i = j
  · subst e
    have hsz : i < listed.size := by
      rcases Nat.lt_or_ge i listed.size with h' | h'
      · exact h'
      · simp [Array.getElem?_eq_none h'] at h
    simp [hsz]
  · rwa [getD_set_ne false e]
theorem bit_off {listed : Array Bool} {i : Nat} (h : listed.getD i true = false) : ¬ listed.getD i false = true := by
  have hsz : i < listed.size := by
    rcases Nat.lt_or_ge i listed.size with h' | h'
    · exact h'
    · simp [Array.getElem?_eq_none h'] at h
  simp [hsz] at h ⊢
  exact h
theorem bit_none {n i : Nat} : ¬ (Array.replicate n false).getD i false = true := by
  simp [Array.getElem?_replicate]
  split <;> simp
theorem bit_if {listed : Array Bool} {i j : Nat} {α : Type} {x y : α} (h : i ≠ j) : (if (listed.setIfInBounds i true).getD j false then x else y) = if listed.getD j false then x else y := by
  rw [getD_set_ne false h]
theorem bit_set {listed : Array Bool} {i j : Nat} (h : (listed.setIfInBounds i true).getD j false = true) : j = i ∨ listed.getD j false = true := by
  by_cases e : i = j
  · exact .inl e.symm
  · exact .inr (by rwa [getD_set_ne false e] at h)
theorem bit_self {listed : Array Bool} {i : Nat} (h : listed.getD i true = false) : (listed.setIfInBounds i true).getD i false = true := by
  have hsz : i < listed.size := by
    rcases Nat.lt_or_ge i listed.size with h' | h'
    · exact h'
    · simp [Array.getElem?_eq_none h'] at h
  simp [hsz]
end
end Go.Proofs.YtphfefmlappidaaGreatDoor.Num

/- A region that draws its order: what each operation yields is said once, each operation is walked once. Plain: of no program. -/
namespace Go.Proofs.YtphfefmlappidaaGreatDoor.Num
open Go.RowKit Go.Lib

/-- what an operation yields: a known value; a row of its own; a variable of its own (zero, then what store number st writes); a store; anything that lasts -/
inductive RK where
  | pure (v : Value)
  | row (cs : Array Value) (T : TypeId) (n : Nat)
  | box (g : Option Nat) (z f : Array Value) (T : TypeId) (st : Nat)
  | put (al : Nat)
  | any (R : Value → World → Prop)
def RK.owns : RK → Bool
  | .row .. => true
  | .box .. => true
  | _ => false
def RK.isAny : RK → Bool
  | .any _ => true
  | _ => false
def blkOf : Value → Option Nat
  | .pointer (some p) => some p.block
  | .slice (some p) _ _ => some p.block
  | _ => none
def RK.holds (B : Nat) (listed : Array Bool) (v : Value) (W : World) : RK → Prop
  | .pure c => v = c
  | .row cs T n => ∃ G, v = .slice (some ⟨G, 0, none⟩) n n ∧ B ≤ G ∧ W.heap[G]? = some (.cells cs T (0, 0))
  | .box g z f T st => ∃ G, v = .pointer (some ⟨G, 0, none⟩) ∧ (∀ k, g = some k → G = k) ∧ B ≤ G ∧ W.heap[G]? = some (.cells (if listed.getD st false = true then f else z) T (0, 0))
  | .put _ => True
  | .any R => R v W
def RK.putsB : RK → Nat → Bool
  | .put al, j => al == j
  | _, _ => false
def RK.boxB (n : Nat) (ks : List RK) (j : Nat) : RK → Bool
  | .box _ _ _ _ st => decide (n ≤ st) || match ks[st]? with
    | some k => k.putsB j
    | none => false
  | .put _ => decide (j < n)
  | _ => true
/-- each variable's store is its own; what stands behind the first n are blocks from before -/
def okB (n : Nat) (ks : List RK) : Bool := (List.range ks.length).all fun j => match ks[j]? with
  | some k => k.boxB n ks j
  | none => true
def RK.lasts : RK → Prop
  | .any R => ∀ v W W', R v W → Below W.heap.size W W' → R v W'
  | _ => True

theorem noAny_of {ks : List RK} (h : (ks.all fun k => !k.isAny) = true) : ∀ (i : Nat) (R : Value → World → Prop), ks[i]? ≠ some (.any R) := by
  intro i R hi
  have := List.all_eq_true.1 h _ (List.mem_of_getElem? hi)
  cases this
theorem lasts_of {ks : List RK} (h : ∀ (i : Nat) (R : Value → World → Prop), ks[i]? ≠ some (.any R)) : ∀ (i : Nat) (k : RK), ks[i]? = some k → k.lasts := by
  intro i k hi
  cases k with
  | any R => exact absurd hi (h i R)
  | pure v => trivial
  | row cs T n => trivial
  | box g z f T st => trivial
  | put al => trivial
theorem okB_box {n : Nat} {ks : List RK} (h : okB n ks = true) {j : Nat} {z f : Array Value} {T : TypeId} {st : Nat} {g : Option Nat} (hj : ks[j]? = some (.box g z f T st)) : n ≤ st ∨ ks[st]? = some (.put j) := by
  have hlt := (List.getElem?_eq_some_iff.1 hj).1
  have := List.all_eq_true.1 h j (List.mem_range.2 hlt)
  rw [hj] at this
  have this : (decide (n ≤ st) || match ks[st]? with | some k => k.putsB j | none => false) = true := this
  rw [Bool.or_eq_true] at this
  rcases this with h | this
  · exact .inl (of_decide_eq_true h)
  right
  cases hs : ks[st]? with
  | none => rw [hs] at this; cases this
  | some k =>
    rw [hs] at this
    cases k with
    | put al =>
      have e : (al == j) = true := this
      rw [beq_iff_eq.1 e]
    | pure v => cases this
    | row cs T n => cases this
    | box g z f T st => cases this
    | any R => cases this
theorem okB_put {n : Nat} {ks : List RK} (h : okB n ks = true) {j al : Nat} (hj : ks[j]? = some (.put al)) : j < n := by
  have hlt := (List.getElem?_eq_some_iff.1 hj).1
  have := List.all_eq_true.1 h j (List.mem_range.2 hlt)
  rw [hj] at this
  exact of_decide_eq_true this

/-- it has come up, or it was there before -/
def On (n : Nat) (listed : Array Bool) (i : Nat) : Prop := n ≤ i ∨ listed.getD i false = true
structure Fs (nd : Nat → Nat → Bool) (n : Nat) (ks : List RK) (w : World) (row : Option Nat) (listed : Array Bool) (vs : List Value) (W : World) : Prop where
  lsz : listed.size = n
  len : vs.length = ks.length
  low : w.grownBy W row
  get : ∀ i k, ks[i]? = some k → On n listed i → k.holds w.heap.size listed (vs.getD i undef) W
  ne : ∀ i j ki kj, i ≠ j → ks[i]? = some ki → ks[j]? = some kj → ki.owns = true → kj.owns = true → On n listed i → On n listed j → blkOf (vs.getD i undef) ≠ blkOf (vs.getD j undef)
  puts : ∀ i al, ks[i]? = some (.put al) → listed.getD i false = true → On n listed al
  back : ∀ i j, listed.getD i false = true → nd i j = true → listed.getD j false = true
theorem On.mono {n : Nat} {listed : Array Bool} {i j : Nat} (h : On n listed j) : On n (listed.setIfInBounds i true) j := h.imp id bit_mono
theorem On.of_set {n : Nat} {listed : Array Bool} {i j : Nat} (h : On n (listed.setIfInBounds i true) j) (hne : i ≠ j) : On n listed j := h.imp id fun h => by rwa [getD_set_ne false hne] at h

theorem getD_vset (vs : List Value) (i : Nat) (v d : Value) (hi : i < vs.length) : (vs.set i v).getD i d = v := by
  simp [List.getD, hi]
theorem getD_vset_ne {vs : List Value} {i j : Nat} {v d : Value} (h : i ≠ j) : (vs.set i v).getD j d = vs.getD j d := by
  simp [List.getD, List.getElem?_set_ne h]
theorem RK.blk {k : RK} {B : Nat} {listed : Array Bool} {v : Value} {W : World} (h : k.holds B listed v W) (ho : k.owns = true) : ∃ G, blkOf v = some G ∧ B ≤ G ∧ G < W.heap.size := by
  cases k with
  | row cs T n => obtain ⟨G, rfl, hB, hG⟩ := h; exact ⟨G, rfl, hB, heap_lt hG⟩
  | box g z f T st => obtain ⟨G, rfl, _, hB, hG⟩ := h; exact ⟨G, rfl, hB, heap_lt hG⟩
  | pure v => cases ho
  | put al => cases ho
  | any R => cases ho

theorem back_set {nd : Nat → Nat → Bool} {listed : Array Bool} {i : Nat} (h : ∀ i j, listed.getD i false = true → nd i j = true → listed.getD j false = true) (hpre : ∀ j, nd i j = true → listed.getD j false = true) :
    ∀ a b, (listed.setIfInBounds i true).getD a false = true → nd a b = true → (listed.setIfInBounds i true).getD b false = true := by
  intro a b ha hn
  by_cases e : i = a
  · subst e; exact bit_mono (hpre b hn)
  · rw [getD_set_ne false e] at ha
    exact bit_mono (h a b ha hn)
theorem below_only {w W W' : World} {row : Option Nat} (h : w.grownBy W row) (hb : Below w.heap.size W W') : w.grownBy W' row :=
  ⟨hb.os.trans h.os, hb.tape.trans h.tape, hb.output.trans h.output, Nat.le_trans h.size hb.size, fun k hk hr => (hb.block k hk).trans (h.block k hk hr)⟩
/-- an operation that writes nothing that stood -/
theorem Fs.grow {nd : Nat → Nat → Bool} {n : Nat} {ks : List RK} {w : World} {row : Option Nat} {listed : Array Bool} {vs : List Value} {W W' : World} (hF : Fs nd n ks w row listed vs W) (hok : okB n ks = true) (hl : ∀ (i : Nat) (k : RK), ks[i]? = some k → k.lasts)
    {i : Nat} {k : RK} {v : Value} (hpre : ∀ j, nd i j = true → listed.getD j false = true) (hk : ks[i]? = some k) (hnp : ∀ al, k ≠ .put al) (hb : Below W.heap.size W W') (hv : k.holds w.heap.size (listed.setIfInBounds i true) v W')
    (hfresh : k.owns = true → ∃ G, blkOf v = some G ∧ W.heap.size ≤ G) : Fs nd n ks w row (listed.setIfInBounds i true) (vs.set i v) W' := by
  have hi : i < vs.length := by rw [hF.len]; exact (List.getElem?_eq_some_iff.1 hk).1
  refine ⟨by simpa using hF.lsz, by rw [List.length_set]; exact hF.len, only_trans hF.low (only_of_below hb row), ?_, ?_, ?_, back_set hF.back hpre⟩
  · intro j kj hj hlj
    by_cases e : i = j
    · subst e
      rw [hk] at hj
      cases hj
      rw [getD_vset _ _ _ _ hi]; exact hv
    · have hlj' := hlj.of_set e
      rw [getD_vset_ne e]
      have h := hF.get j kj hj hlj'
      cases kj with
      | pure c => exact h
      | row cs T n => obtain ⟨G, hG, hB, hh⟩ := h; exact ⟨G, hG, hB, keep_block hh hb⟩
      | box g z f T st =>
        obtain ⟨G, hG, hgg, hB, hh⟩ := h
        have hne : listed.getD st false = (listed.setIfInBounds i true).getD st false := by
          rcases okB_box hok hj with hst | hst
          · have h1 : ¬ st < listed.size := by rw [hF.lsz]; omega
            simp [h1]
          · have hne : i ≠ st := by
              rintro rfl
              rw [hk] at hst
              exact hnp j (Option.some.inj hst)
            rw [getD_set_ne false hne]
        refine ⟨G, hG, hgg, hB, ?_⟩
        rw [← hne]
        exact keep_block hh hb
      | put al => trivial
      | any R => exact hl j _ hj _ _ _ h hb
  · intro a b ka kb hab ha hb' oa ob la lb
    by_cases ea : i = a
    · subst ea
      rw [hk] at ha
      cases ha
      have lb' := lb.of_set hab
      rw [getD_vset _ _ _ _ hi, getD_vset_ne hab]
      obtain ⟨G, hG, hge⟩ := hfresh oa
      obtain ⟨G', hG', _, hlt⟩ := RK.blk (hF.get b kb hb' lb') ob
      rw [hG, hG']
      intro h
      have := Option.some.inj h
      omega
    · have la' := la.of_set ea
      rw [getD_vset_ne ea]
      by_cases eb : i = b
      · subst eb
        rw [hk] at hb'
        cases hb'
        rw [getD_vset _ _ _ _ hi]
        obtain ⟨G, hG, hge⟩ := hfresh ob
        obtain ⟨G', hG', _, hlt⟩ := RK.blk (hF.get a ka ha la') oa
        rw [hG, hG']
        intro h
        have := Option.some.inj h
        omega
      · rw [getD_vset_ne eb]
        exact hF.ne a b ka kb hab ha hb' oa ob la' (lb.of_set eb)
  · intro a al ha la
    by_cases ea : i = a
    · subst ea
      rw [hk] at ha
      exact absurd (Option.some.inj ha) (hnp al)
    · rw [getD_set_ne false ea] at la
      exact (hF.puts a al ha la).mono
section
variable {nd : Nat → Nat → Bool} {n : Nat} {ks : List RK} {w : World} {rr : Option Nat} {listed : Array Bool} {vs : List Value} {W W' : World} {i : Nat}
theorem Fs.pure (hF : Fs nd n ks w rr listed vs W) (hok : okB n ks = true) (hl : ∀ (i : Nat) (k : RK), ks[i]? = some k → k.lasts) (hpre : ∀ j, nd i j = true → listed.getD j false = true) {c : Value} (hk : ks[i]? = some (.pure c)) (hb : Below W.heap.size W W') : Fs nd n ks w rr (listed.setIfInBounds i true) (vs.set i c) W' :=
  hF.grow hok hl hpre hk (fun _ h => by cases h) hb rfl (fun h => by cases h)
theorem Fs.any (hF : Fs nd n ks w rr listed vs W) (hok : okB n ks = true) (hl : ∀ (i : Nat) (k : RK), ks[i]? = some k → k.lasts) (hpre : ∀ j, nd i j = true → listed.getD j false = true) {R : Value → World → Prop} (hk : ks[i]? = some (.any R)) {v : Value} (hb : Below W.heap.size W W') (hv : R v W') : Fs nd n ks w rr (listed.setIfInBounds i true) (vs.set i v) W' :=
  hF.grow hok hl hpre hk (fun _ h => by cases h) hb hv (fun h => by cases h)
theorem Fs.row (hF : Fs nd n ks w rr listed vs W) (hok : okB n ks = true) (hl : ∀ (i : Nat) (k : RK), ks[i]? = some k → k.lasts) (hpre : ∀ j, nd i j = true → listed.getD j false = true) {cs : Array Value} {T : TypeId} {m : Nat} (hk : ks[i]? = some (.row cs T m)) : Fs nd n ks w rr (listed.setIfInBounds i true) (vs.set i (.slice (some ⟨W.heap.size, 0, none⟩) m m)) (W.alloc (.cells cs T)) :=
  hF.grow hok hl hpre hk (fun _ h => by cases h) ((Below.refl _ _).alloc (Nat.le_refl _) _) ⟨_, rfl, hF.low.size, heap_alloc_new W _⟩ (fun _ => ⟨_, rfl, Nat.le_refl _⟩)
theorem Fs.box (hF : Fs nd n ks w rr listed vs W) (hok : okB n ks = true) (hl : ∀ (i : Nat) (k : RK), ks[i]? = some k → k.lasts) (hpre : ∀ j, nd i j = true → listed.getD j false = true) (hun : listed.getD i true = false) {z f : Array Value} {T : TypeId} {st : Nat} (hk : ks[i]? = some (.box none z f T st)) : Fs nd n ks w rr (listed.setIfInBounds i true) (vs.set i (.pointer (some ⟨W.heap.size, 0, none⟩))) (W.alloc (.cells z T)) := by
  have hin : i < listed.size := by
    rcases Nat.lt_or_ge i listed.size with h | h
    · exact h
    · simp [Array.getElem?_eq_none h] at hun
  have hoff : ¬ (listed.setIfInBounds i true).getD st false = true := by
    rcases okB_box hok hk with hst | hst
    · have h1 : ¬ st < listed.size := by rw [hF.lsz]; omega
      simp [h1]
    · have hne : i ≠ st := by
        rintro rfl
        rw [hk] at hst
        cases hst
      rw [getD_set_ne false hne]
      intro h
      rcases hF.puts st i hst h with h | h
      · have := hF.lsz; omega
      · exact bit_off hun h
  refine hF.grow hok hl hpre hk (fun _ h => by cases h) ((Below.refl _ _).alloc (Nat.le_refl _) _) ⟨_, rfl, fun _ h => (by cases h), hF.low.size, ?_⟩ (fun _ => ⟨_, rfl, Nat.le_refl _⟩)
  rw [if_neg hoff]
  exact heap_alloc_new W _
theorem Fs.put (hF : Fs nd n ks w rr listed vs W) (hok : okB n ks = true) (hna : ∀ (i : Nat) (R : Value → World → Prop), ks[i]? ≠ some (.any R)) (hpre : ∀ j, nd i j = true → listed.getD j false = true) (hun : listed.getD i true = false) {al : Nat} (hk : ks[i]? = some (.put al)) {z f : Array Value} {T : TypeId} {G : Nat} {g : Option Nat} (v : Value)
    (hbox : ks[al]? = some (.box g z f T i)) (hal : On n listed al) (hG : vs.getD al undef = .pointer (some ⟨G, 0, none⟩)) (hnew : W'.heap[G]? = some (.cells f T (0, 0))) (hoth : ∀ k, k ≠ G → W'.heap[k]? = W.heap[k]?) (hb : Below w.heap.size W W') : Fs nd n ks w rr (listed.setIfInBounds i true) (vs.set i v) W' := by
  have hi : i < vs.length := by rw [hF.len]; exact (List.getElem?_eq_some_iff.1 hk).1
  have hin := okB_put hok hk
  have hia : i ≠ al := by
    rintro rfl
    rw [hk] at hbox
    cases hbox
  refine ⟨by simpa using hF.lsz, by rw [List.length_set]; exact hF.len, below_only hF.low hb, ?_, ?_, ?_, back_set hF.back hpre⟩
  · intro j kj hj hlj
    by_cases e : i = j
    · subst e
      rw [hk] at hj
      cases hj
      trivial
    · have hlj' := hlj.of_set e
      rw [getD_vset_ne e]
      have h := hF.get j kj hj hlj'
      have far : kj.owns = true → j ≠ al → ∀ G', blkOf (vs.getD j undef) = some G' → G' ≠ G := by
        intro o hja G' hG' e'
        have := hF.ne j al kj _ hja hj hbox o rfl hlj' hal
        rw [hG', hG, e'] at this
        exact this rfl
      cases kj with
      | pure c => exact h
      | row cs T' m =>
        obtain ⟨G', hG', hB, hh⟩ := h
        have hja : j ≠ al := by rintro rfl; rw [hj] at hbox; cases hbox
        have hne := far rfl hja G' (by rw [hG']; rfl)
        exact ⟨G', hG', hB, (hoth _ hne).trans hh⟩
      | box g' z' f' T' st =>
        obtain ⟨G', hG', hgg, hB, hh⟩ := h
        by_cases hja : j = al
        · subst hja
          rw [hbox] at hj
          cases hj
          rw [hG] at hG'
          have : G = G' := by
            have := congrArg blkOf hG'
            exact Option.some.inj this
          subst this
          refine ⟨G, hG, hgg, hB, ?_⟩
          rw [if_pos (bit_self hun)]
          exact hnew
        · have hne := far rfl hja G' (by rw [hG']; rfl)
          have hns : i ≠ st := by
            rintro rfl
            rcases okB_box hok hj with hst | hst
            · omega
            · rw [hk] at hst
              have := Option.some.inj hst
              injection this with this
              exact hja this.symm
          refine ⟨G', hG', hgg, hB, ?_⟩
          rw [getD_set_ne false hns]
          exact (hoth _ hne).trans hh
      | put _ => trivial
      | any R => exact absurd hj (hna j R)
  · intro a b ka kb hab ha hb' oa ob la lb
    have ea : i ≠ a := by rintro rfl; rw [hk] at ha; cases ha; cases oa
    have eb : i ≠ b := by rintro rfl; rw [hk] at hb'; cases hb'; cases ob
    rw [getD_vset_ne ea, getD_vset_ne eb]
    exact hF.ne a b ka kb hab ha hb' oa ob (la.of_set ea) (lb.of_set eb)
  · intro a al' ha la
    by_cases ea : i = a
    · subst ea
      rw [hk] at ha
      have := Option.some.inj ha
      injection this with this
      subst this
      exact hal.mono
    · rw [getD_set_ne false ea] at la
      exact (hF.puts a al' ha la).mono
/-- nothing has come up yet -/
theorem Fs.start (hlen : vs.length = ks.length) (hn : ks.length = n) : Fs nd n ks w rr (Array.replicate n false) vs w.drew :=
  ⟨by simp, hlen, only_of_below (Below.refl _ _).drew rr, fun i k hk h => absurd (h.resolve_left (by have := (List.getElem?_eq_some_iff.1 hk).1; omega)) bit_none, fun i _ k _ _ hk _ _ _ h => absurd (h.resolve_left (by have := (List.getElem?_eq_some_iff.1 hk).1; omega)) bit_none, fun _ _ _ h => absurd h bit_none, fun _ _ h => absurd h bit_none⟩
end

/-- the blocks from before hold what they hold, and are not one another -/
def Far (v : Value) : List RK → List Value → Prop
  | k :: ks, u :: vs => (k.owns = true → blkOf v ≠ blkOf u) ∧ Far v ks vs
  | _, _ => True
def Olds (B : Nat) (W : World) : List RK → List Value → Prop
  | k :: ks, v :: vs => k.holds B #[] v W ∧ (k.owns = true → Far v ks vs) ∧ Olds B W ks vs
  | _, _ => True
theorem far_get {v : Value} : ∀ {ks : List RK} {vs : List Value}, Far v ks vs → vs.length = ks.length → ∀ {i : Nat} {k : RK}, ks[i]? = some k → k.owns = true → blkOf v ≠ blkOf (vs.getD i undef)
  | k :: ks, u :: vs, h, hl, 0, k', hk, ho => by
    cases hk
    exact h.1 ho
  | k :: ks, u :: vs, h, hl, i + 1, k', hk, ho => by
    have := far_get (i := i) h.2 (by simpa using hl) (by simpa using hk) ho
    simpa using this
  | [], _, _, _, i, k', hk, _ => by simp at hk
theorem olds_get {B : Nat} {W : World} : ∀ {ks : List RK} {vs : List Value}, Olds B W ks vs → vs.length = ks.length → ∀ {i : Nat} {k : RK}, ks[i]? = some k → k.holds B #[] (vs.getD i undef) W
  | k :: ks, u :: vs, h, hl, 0, k', hk => by
    cases hk
    exact h.1
  | k :: ks, u :: vs, h, hl, i + 1, k', hk => by
    have := olds_get (i := i) h.2.2 (by simpa using hl) (by simpa using hk)
    simpa using this
  | [], _, _, _, i, k', hk => by simp at hk
theorem olds_ne {B : Nat} {W : World} : ∀ {ks : List RK} {vs : List Value}, Olds B W ks vs → vs.length = ks.length → ∀ {i j : Nat} {ki kj : RK}, i < j → ks[i]? = some ki → ks[j]? = some kj → ki.owns = true → kj.owns = true → blkOf (vs.getD i undef) ≠ blkOf (vs.getD j undef)
  | k :: ks, u :: vs, h, hl, 0, j + 1, ki, kj, hij, hi, hj, oi, oj => by
    cases hi
    have := far_get (h.2.1 oi) (by simpa using hl) (i := j) (by simpa using hj) oj
    simpa using this
  | k :: ks, u :: vs, h, hl, i + 1, j + 1, ki, kj, hij, hi, hj, oi, oj => by
    have := olds_ne (i := i) (j := j) h.2.2 (by simpa using hl) (by omega) (by simpa using hi) (by simpa using hj) oi oj
    simpa using this
  | [], _, _, _, i, j, ki, kj, _, hi, _, _, _ => by simp at hi
theorem holds_none {B n : Nat} {v : Value} {W : World} {k : RK} (h : k.holds B #[] v W) : k.holds B (Array.replicate n false) v W := by
  cases k with
  | box g z f T st =>
    obtain ⟨G, hG, hgg, hB, hh⟩ := h
    refine ⟨G, hG, hgg, hB, ?_⟩
    rw [if_neg bit_none]
    simpa using hh
  | pure c => exact h
  | row cs T m => exact h
  | put al => trivial
  | any R => exact h
theorem Fs.start_olds {nd : Nat → Nat → Bool} {n : Nat} {ks : List RK} {w W : World} {row : Option Nat} {vs : List Value} (hl : ∀ (i : Nat) (k : RK), ks[i]? = some k → k.lasts) (hlen : vs.length = ks.length) (low : w.grownBy W row) (hO : Olds w.heap.size W (ks.drop n) (vs.drop n)) :
    Fs nd n ks w row (Array.replicate n false) vs W.drew := by
  have hlen' : (vs.drop n).length = (ks.drop n).length := by simp [hlen]
  have hk' : ∀ {i : Nat} {k : RK}, ks[i]? = some k → n ≤ i → (ks.drop n)[i - n]? = some k := by
    intro i k hk hi
    rw [List.getElem?_drop, show n + (i - n) = i by omega]; exact hk
  have hv' : ∀ {i : Nat}, n ≤ i → (vs.drop n).getD (i - n) undef = vs.getD i undef := by
    intro i hi
    simp only [List.getD, List.getElem?_drop]
    rw [show n + (i - n) = i by omega]
  refine ⟨by simp, hlen, below_only low (Below.refl _ _).drew, ?_, ?_, fun _ _ _ h => absurd h bit_none, fun _ _ h => absurd h bit_none⟩
  · intro i k hk h
    have hi := h.resolve_right bit_none
    have h1 := olds_get hO hlen' (hk' hk hi)
    rw [hv' hi] at h1
    have h2 : k.holds w.heap.size (Array.replicate n false) (vs.getD i undef) W := holds_none h1
    cases k with
    | any R => exact hl i _ hk _ _ _ h2 (Below.refl _ _).drew
    | pure c => exact h2
    | row cs T m => exact h2
    | box g z f T st => exact h2
    | put al => trivial
  · intro i j ki kj hij hi hj oi oj li lj
    have ni := li.resolve_right bit_none
    have nj := lj.resolve_right bit_none
    rcases Nat.lt_or_ge i j with h | h
    · have := olds_ne hO hlen' (show i - n < j - n by omega) (hk' hi ni) (hk' hj nj) oi oj
      rw [hv' ni, hv' nj] at this; exact this
    · have := olds_ne hO hlen' (show j - n < i - n by omega) (hk' hj nj) (hk' hi ni) oj oi
      rw [hv' ni, hv' nj] at this; exact fun e => this e.symm
theorem Fs.unst {nd : Nat → Nat → Bool} {n : Nat} {ks : List RK} {w W : World} {row : Option Nat} {listed : Array Bool} {vs : List Value} (hF : Fs nd n ks w row listed vs W) {st : Nat} (h : n ≤ st) : ¬ listed.getD st false = true := by
  have h1 : ¬ st < listed.size := by rw [hF.lsz]; omega
  simp [h1]
theorem far_of {b c : Nat} {n : Nat} (h : b ≠ c) : blkOf (.pointer (some ⟨b, 0, none⟩)) ≠ blkOf (.pointer (some ⟨c, n, none⟩)) := fun e => h (Option.some.inj e)

/-- the slots laid anew, from what has come up -/
def layT : List (Option Nat) → List Value → Array Value → Array Value
  | some d :: sl, v :: vs, t => layT sl vs (t.setIfInBounds d v)
  | none :: sl, _ :: vs, t => layT sl vs t
  | _, _, t => t
theorem layT_some (d : Nat) (sl : List (Option Nat)) (v : Value) (vs : List Value) (t : Array Value) : layT (some d :: sl) (v :: vs) t = layT sl vs (t.setIfInBounds d v) := rfl
theorem layT_none (sl : List (Option Nat)) (v : Value) (vs : List Value) (t : Array Value) : layT (none :: sl) (v :: vs) t = layT sl vs t := rfl
theorem layT_nil (vs : List Value) (t : Array Value) : layT [] vs t = t := by cases vs <;> rfl
def putO (a : Act) (sl : List (Option Nat)) (vs : List Value) : Act := { a with tmps := layT sl vs a.tmps }

/-- operation i waits for operation j -/
def ndOf (ops : Array Oper) (i j : Nat) : Bool := (needs .any ops i).contains j
theorem wp_region_facts {P : Program} {ops : Array Oper} {Q : Exit → Act → World → Prop} {id : Nat} {a0 : Act} {w W0 : World} {row : Option Nat} (n : Nat) (ks : List RK) (slots : List (Option Nat)) (hm : P.follows .mixedOrders = true) (hb : backB ops = true) (hn : ops.size = n)
    (vs0 : List Value) (h00 : putO a0 slots vs0 = a0) (hF0 : Fs (ndOf ops) n ks w row (Array.replicate n false) vs0 W0.drew)
    (hstep : ∀ listed vs W, Fs (ndOf ops) n ks w row listed vs W → ∀ i, i < n → listed.getD i true = false → (∀ j, ndOf ops i j = true → listed.getD j false = true) → wpOp P ops Q i (fun a' W' => ∃ v, Fs (ndOf ops) n ks w row (listed.setIfInBounds i true) (vs.set i v) W' ∧ a' = putO a0 slots (vs.set i v)) (putO a0 slots vs) W)
    (hdone : ∀ listed vs W, Fs (ndOf ops) n ks w row listed vs W → (∀ j, j < n → listed.getD j false = true) → Q .normal (putO a0 slots vs) W) : (Code.region id ops true).wp P Q a0 W0 := by
  refine wp_region_inv hm (fun listed a W => ∃ vs, Fs (ndOf ops) n ks w row listed vs W ∧ a = putO a0 slots vs) ⟨vs0, by rw [hn]; exact hF0, h00.symm⟩ ?_ ?_
  · rintro listed a W ⟨vs, hF, rfl⟩ i o ho hun hpre
    refine wpOp_mono (fun a' w' h => ?_) (hstep listed vs W hF i (by rw [← hn]; exact (Array.getElem?_eq_some_iff.1 ho).1) hun ?_)
    · obtain ⟨v, hF', rfl⟩ := h
      exact ⟨_, hF', rfl⟩
    · intro j hj
      unfold ndOf needs at hj
      rw [ho] at hj
      simp only [List.contains_iff_mem, List.mem_map, List.mem_filter, Array.mem_toList_iff] at hj
      obtain ⟨e, ⟨he, hbd⟩, rfl⟩ := hj
      exact hpre e he hbd
  · rintro listed a W ⟨vs, hF, rfl⟩ hr
    exact hdone listed vs W hF (by rw [← hn]; exact all_listed (by rw [hF.lsz, hn]) hb hr)

/-- a list of known length, item by item -/
def ExL : Nat → (List Value → Prop) → Prop
  | 0, p => p []
  | n + 1, p => ∃ v, ExL n (fun l => p (v :: l))
theorem exl_of : ∀ (n : Nat) (vs : List Value) (p : List Value → Prop), vs.length = n → p vs → ExL n p
  | 0, [], _, _, h => h
  | n + 1, v :: l, p, h, hp => ⟨v, exl_of n l (fun l => p (v :: l)) (by simpa using h) hp⟩
theorem put2_below {B G : Nat} (h : B ≤ G) (W : World) (x y : Value) : Below B W ((W.setCell ⟨G, 0, none⟩ x).setCell ⟨G, 1, none⟩ y) :=
  ((Below.refl _ _).setCell (p := ⟨G, 0, none⟩) h x).setCell (p := ⟨G, 1, none⟩) h y
theorem put9_below {B G : Nat} (h : B ≤ G) (W : World) (x0 x1 x2 x3 x4 x5 x6 x7 x8 : Value) : Below B W (((((((((W.setCell ⟨G, 0, none⟩ x0).setCell ⟨G, 1, none⟩ x1).setCell ⟨G, 2, none⟩ x2).setCell ⟨G, 3, none⟩ x3).setCell ⟨G, 4, none⟩ x4).setCell ⟨G, 5, none⟩ x5).setCell ⟨G, 6, none⟩ x6).setCell ⟨G, 7, none⟩ x7).setCell ⟨G, 8, none⟩ x8) :=
  ((((((((((Below.refl _ _).setCell (p := ⟨G, 0, none⟩) h x0).setCell (p := ⟨G, 1, none⟩) h x1).setCell (p := ⟨G, 2, none⟩) h x2).setCell (p := ⟨G, 3, none⟩) h x3).setCell (p := ⟨G, 4, none⟩) h x4).setCell (p := ⟨G, 5, none⟩) h x5).setCell (p := ⟨G, 6, none⟩) h x6).setCell (p := ⟨G, 7, none⟩) h x7).setCell (p := ⟨G, 8, none⟩) h x8)
end Go.Proofs.YtphfefmlappidaaGreatDoor.Num

/- package value's Compare at numbers. Conditions: the numbers are not too long; the tables lie as they are laid. -/
namespace Go.Proofs.YtphfefmlappidaaGreatDoor.Num
open Go.RowKit Go.Lib

theorem same_one (p : Rat) (W : World) : Calls Tryz.prog 14 #[.agg #[.int .i64 1, .string (numS p), .string (denS p), .string { data := #[] }, .bool false, .int .i64 0, .int .i64 0, .int .i64 0, .slice none 0 0], .agg #[.int .i64 1, .string (numS p), .string (denS p), .string { data := #[] }, .bool false, .int .i64 0, .int .i64 0, .int .i64 0, .slice none 0 0]] W fun e w' => e = .returned (.bool true) ∧ Below W.heap.size W w' := by
  refine (same_num p p W).mono ?_
  rintro e w' ⟨rfl, h⟩
  exact ⟨by rw [decide_eq_true rfl], h⟩
set_option linter.unusedSimpArgs false in
set_option linter.unusedVariables false in
set_option maxHeartbeats 4000000 in
set_option maxRecDepth 100000 in
theorem like_num (p q : Rat) (w : World) : Calls Tryz.prog 32 #[.agg #[.int .i64 1, .string (numS p), .string (denS p), .string { data := #[] }, .bool false, .int .i64 0, .int .i64 0, .int .i64 0, .slice none 0 0], .agg #[.int .i64 1, .string (numS q), .string (denS q), .string { data := #[] }, .bool false, .int .i64 0, .int .i64 0, .int .i64 0, .slice none 0 0]] w fun e w' => e = .returned (.agg #[.int .i64 1, .string (numS p), .string (denS p), .string { data := #[] }, .bool false, .int .i64 0, .int .i64 0, .int .i64 0, .slice none 0 0]) ∧ Below w.heap.size w w' := by
  obtain ⟨hx, _, hr, hb⟩ := three_new w (.cells #[.int .i64 1, .string (numS p), .string (denS p), .string { data := #[] }, .bool false, .int .i64 0, .int .i64 0, .int .i64 0, .slice none 0 0] 30) (.cells #[.int .i64 1, .string (numS q), .string (denS q), .string { data := #[] }, .bool false, .int .i64 0, .int .i64 0, .int .i64 0, .slice none 0 0] 30) (.cells #[.int .i64 0, .string { data := #[] }, .string { data := #[] }, .string { data := #[] }, .bool false, .int .i64 0, .int .i64 0, .int .i64 0, .slice none 0 0] 30)
  obtain ⟨⟨x0, x1, x2, x3, x4, x5, x6, x7, x8⟩, _⟩ := nine_at hx
  obtain ⟨⟨r0, r1, r2, r3, r4, r5, r6, r7, r8⟩, g0, g1, g2, g3, g4, g5, g6, g7, g8⟩ := nine_at hr
  clear hx hr hb
  obtain ⟨_, _, hr2, nb⟩ := three_new w (.cells #[.int .i64 1, .string (numS p), .string (denS p), .string { data := #[] }, .bool false, .int .i64 0, .int .i64 0, .int .i64 0, .slice none 0 0] 30) (.cells #[.int .i64 1, .string (numS q), .string (denS q), .string { data := #[] }, .bool false, .int .i64 0, .int .i64 0, .int .i64 0, .slice none 0 0] 30) (.cells #[.int .i64 1, .string (numS p), .string (denS p), .string { data := #[] }, .bool false, .int .i64 0, .int .i64 0, .int .i64 0, .slice none 0 0] 30)
  obtain ⟨⟨e0, e1, e2, e3, e4, e5, e6, e7, e8⟩, _⟩ := nine_at hr2
  clear hr2
  go_enter Tryz.func32, Tryz.ntmps32
  go_wp2
  refine bodyPost_ret (v := .agg #[.int .i64 1, .string (numS p), .string (denS p), .string { data := #[] }, .bool false, .int .i64 0, .int .i64 0, .int .i64 0, .slice none 0 0]) (by simp [results, Tryz.results32, go_sem, e0, e1, e2, e3, e4, e5, e6, e7, e8]) rfl ⟨rfl, nb⟩

set_option linter.unusedSimpArgs false in
set_option linter.unusedVariables false in
set_option maxHeartbeats 4000000 in
set_option maxRecDepth 100000 in
theorem compared_num (p q : Rat) (w : World) (hp : fits p = true) (hq : fits q = true) : Calls Tryz.prog 35 #[.agg #[.int .i64 1, .string (numS p), .string (denS p), .string { data := #[] }, .bool false, .int .i64 0, .int .i64 0, .int .i64 0, .slice none 0 0], .agg #[.int .i64 1, .string (numS q), .string (denS q), .string { data := #[] }, .bool false, .int .i64 0, .int .i64 0, .int .i64 0, .slice none 0 0]] w fun e w' => e = .returned (.int .i64 (cmpR p q)) ∧ Below w.heap.size w w' := by
  have TC := Lib.hid (fun W => compare_q p q W hp hq)
  rw [fracV_is p, fracV_is q] at TC
  obtain ⟨hx, hy, _⟩ := two_new w (.cells #[.int .i64 1, .string (numS p), .string (denS p), .string { data := #[] }, .bool false, .int .i64 0, .int .i64 0, .int .i64 0, .slice none 0 0] 30) (.cells #[.int .i64 1, .string (numS q), .string (denS q), .string { data := #[] }, .bool false, .int .i64 0, .int .i64 0, .int .i64 0, .slice none 0 0] 30)
  have hb : Below w.heap.size w ((w.alloc (.cells #[.int .i64 1, .string (numS p), .string (denS p), .string { data := #[] }, .bool false, .int .i64 0, .int .i64 0, .int .i64 0, .slice none 0 0] 30)).alloc (.cells #[.int .i64 1, .string (numS q), .string (denS q), .string { data := #[] }, .bool false, .int .i64 0, .int .i64 0, .int .i64 0, .slice none 0 0] 30)) := ((Below.refl _ _).alloc (Nat.le_refl _) _).alloc (by simp) _
  have HX := Lib.hid hx
  have HY := Lib.hid hy
  have HL := Lib.hid hb
  clear hx hy hb hp hq
  obtain ⟨⟨x0, x1, x2, x3, x4, x5, x6, x7, x8⟩, _⟩ := nine_at HX.out
  obtain ⟨⟨y0, y1, y2, y3, y4, y5, y6, y7, y8⟩, _⟩ := nine_at HY.out
  go_enter Tryz.func35, Tryz.ntmps35
  go_wp2_with fail
  refine (TC.out _).mono ?_
  rintro e W1 ⟨rfl, hb⟩
  replace HL := Lib.hid (HL.out.trans (hb.mono HL.out.size))
  clear hb
  go_wp2
  go_ret
  exact ⟨rfl, HL.out⟩

set_option linter.unusedSimpArgs false in
set_option linter.unusedVariables false in
set_option maxHeartbeats 4000000 in
set_option maxRecDepth 100000 in
theorem both_num (p q : Rat) (w : World) (hp : fits p = true) (hq : fits q = true) (hE : Env w) : Calls Tryz.prog 31 #[.agg #[.int .i64 1, .string (numS p), .string (denS p), .string { data := #[] }, .bool false, .int .i64 0, .int .i64 0, .int .i64 0, .slice none 0 0], .agg #[.int .i64 1, .string (numS q), .string (denS q), .string { data := #[] }, .bool false, .int .i64 0, .int .i64 0, .int .i64 0, .slice none 0 0], .int .i64 3] w fun e w' => e = .returned (.int .i64 0) ∧ Below w.heap.size w w' := by
  have C1 := Lib.hid (fun W g => check_num p W hp g)
  have C2 := Lib.hid (fun W g => check_num q W hq g)
  have i0 : ∀ w, (Instr.index 81 (.agg #[.int .i64 1, .string (numS p), .string (denS p), .string { data := #[] }, .bool false, .int .i64 0, .int .i64 0, .int .i64 0, .slice none 0 0, .int .i64 1, .string (numS q), .string (denS q), .string { data := #[] }, .bool false, .int .i64 0, .int .i64 0, .int .i64 0, .slice none 0 0]) (.int .i64 0)).run Tryz.prog w = .ok (.agg #[.int .i64 1, .string (numS p), .string (denS p), .string { data := #[] }, .bool false, .int .i64 0, .int .i64 0, .int .i64 0, .slice none 0 0]) w := fun _ => by kernel_rfl
  have i1 : ∀ w, (Instr.index 81 (.agg #[.int .i64 1, .string (numS p), .string (denS p), .string { data := #[] }, .bool false, .int .i64 0, .int .i64 0, .int .i64 0, .slice none 0 0, .int .i64 1, .string (numS q), .string (denS q), .string { data := #[] }, .bool false, .int .i64 0, .int .i64 0, .int .i64 0, .slice none 0 0]) (.int .i64 1)).run Tryz.prog w = .ok (.agg #[.int .i64 1, .string (numS q), .string (denS q), .string { data := #[] }, .bool false, .int .i64 0, .int .i64 0, .int .i64 0, .slice none 0 0]) w := fun _ => by kernel_rfl
  obtain ⟨hx, hy, _⟩ := two_new w (.cells #[.int .i64 1, .string (numS p), .string (denS p), .string { data := #[] }, .bool false, .int .i64 0, .int .i64 0, .int .i64 0, .slice none 0 0] 30) (.cells #[.int .i64 1, .string (numS q), .string (denS q), .string { data := #[] }, .bool false, .int .i64 0, .int .i64 0, .int .i64 0, .slice none 0 0] 30)
  have hb : Below w.heap.size w ((w.alloc (.cells #[.int .i64 1, .string (numS p), .string (denS p), .string { data := #[] }, .bool false, .int .i64 0, .int .i64 0, .int .i64 0, .slice none 0 0] 30)).alloc (.cells #[.int .i64 1, .string (numS q), .string (denS q), .string { data := #[] }, .bool false, .int .i64 0, .int .i64 0, .int .i64 0, .slice none 0 0] 30)) := ((Below.refl _ _).alloc (Nat.le_refl _) _).alloc (by simp) _
  have HX := Lib.hid hx
  have HY := Lib.hid hy
  have HL := Lib.hid hb
  have HE := Lib.hid (hE.below hb)
  clear hx hy hb hp hq hE
  obtain ⟨W0, hW0⟩ : ∃ Z, (w.alloc (.cells #[.int .i64 1, .string (numS p), .string (denS p), .string { data := #[] }, .bool false, .int .i64 0, .int .i64 0, .int .i64 0, .slice none 0 0] 30)).alloc (.cells #[.int .i64 1, .string (numS q), .string (denS q), .string { data := #[] }, .bool false, .int .i64 0, .int .i64 0, .int .i64 0, .slice none 0 0] 30) = Z := ⟨_, rfl⟩
  rw [hW0] at HX HY HL HE
  have EW0 := Lib.hid hW0
  clear hW0
  have hb : Below W0.heap.size W0 (W0.alloc (.cells #[.int .i64 1, .string (numS p), .string (denS p), .string { data := #[] }, .bool false, .int .i64 0, .int .i64 0, .int .i64 0, .slice none 0 0] 30)) := (Below.refl _ _).alloc (Nat.le_refl _) _
  go_enter Tryz.func31, Tryz.ntmps31
  go_wp2
  rw [EW0.out]
  replace HX := Lib.hid (keep_block HX.out hb)
  replace HY := Lib.hid (keep_block HY.out hb)
  replace HE := Lib.hid (HE.out.below hb)
  replace HL := Lib.hid (HL.out.trans (hb.mono HL.out.size))
  clear hb
  refine wp_loop_rounds 3 ?_
  rw [rounds_succ]
  go_wp2_with fail
  refine (C1.out _ HE.out).mono ?_
  rintro e W1 ⟨rfl, hb⟩
  replace HX := Lib.hid (keep_block HX.out hb)
  replace HY := Lib.hid (keep_block HY.out hb)
  replace HE := Lib.hid (HE.out.below hb)
  replace HL := Lib.hid (HL.out.trans (hb.mono HL.out.size))
  clear hb
  go_wp2
  rw [rounds_succ]
  have hb : Below W1.heap.size W1 (W1.alloc (.cells #[.int .i64 1, .string (numS q), .string (denS q), .string { data := #[] }, .bool false, .int .i64 0, .int .i64 0, .int .i64 0, .slice none 0 0] 30)) := (Below.refl _ _).alloc (Nat.le_refl _) _
  replace HX := Lib.hid (keep_block HX.out hb)
  replace HY := Lib.hid (keep_block HY.out hb)
  replace HE := Lib.hid (HE.out.below hb)
  replace HL := Lib.hid (HL.out.trans (hb.mono HL.out.size))
  clear hb
  go_wp2_with fail
  refine (C2.out _ HE.out).mono ?_
  rintro e W2 ⟨rfl, hb⟩
  replace HX := Lib.hid (keep_block HX.out hb)
  replace HY := Lib.hid (keep_block HY.out hb)
  replace HE := Lib.hid (HE.out.below hb)
  replace HL := Lib.hid (HL.out.trans (hb.mono HL.out.size))
  clear hb
  go_wp2
  rw [rounds_succ]
  obtain ⟨⟨x0, x1, x2, x3, x4, x5, x6, x7, x8⟩, _⟩ := nine_at HX.out
  obtain ⟨⟨y0, y1, y2, y3, y4, y5, y6, y7, y8⟩, _⟩ := nine_at HY.out
  go_wp2
  go_ret
  exact ⟨rfl, HL.out⟩

set_option linter.unusedVariables false in
/-- what the operations of region 4 yield -/
def CmpKs4 (w W1 : World) (p q : Rat) : List RK :=
  [.pure (.agg #[.int .i64 1, .string (numS p), .string (denS p), .string { data := #[] }, .bool false, .int .i64 0, .int .i64 0, .int .i64 0, .slice none 0 0]),
   .pure (.agg #[.int .i64 1, .string (numS q), .string (denS q), .string { data := #[] }, .bool false, .int .i64 0, .int .i64 0, .int .i64 0, .slice none 0 0]),
   .pure (.agg #[.int .i64 1, .string (numS p), .string (denS p), .string { data := #[] }, .bool false, .int .i64 0, .int .i64 0, .int .i64 0, .slice none 0 0]),
   .pure (.agg #[.int .i64 1, .string (numS q), .string (denS q), .string { data := #[] }, .bool false, .int .i64 0, .int .i64 0, .int .i64 0, .slice none 0 0]),
   .pure (.agg #[.int .i64 1, .string (numS p), .string (denS p), .string { data := #[] }, .bool false, .int .i64 0, .int .i64 0, .int .i64 0, .slice none 0 0]),
   .pure (.agg #[.int .i64 1, .string (numS q), .string (denS q), .string { data := #[] }, .bool false, .int .i64 0, .int .i64 0, .int .i64 0, .slice none 0 0]),
   .put 8,
   .put 9,
   .box (some (w.heap.size)) #[.int .i64 1, .string (numS p), .string (denS p), .string { data := #[] }, .bool false, .int .i64 0, .int .i64 0, .int .i64 0, .slice none 0 0] #[.int .i64 1, .string (numS p), .string (denS p), .string { data := #[] }, .bool false, .int .i64 0, .int .i64 0, .int .i64 0, .slice none 0 0] 30 6,
   .box (some (w.heap.size + 1)) #[.int .i64 1, .string (numS q), .string (denS q), .string { data := #[] }, .bool false, .int .i64 0, .int .i64 0, .int .i64 0, .slice none 0 0] #[.int .i64 1, .string (numS q), .string (denS q), .string { data := #[] }, .bool false, .int .i64 0, .int .i64 0, .int .i64 0, .slice none 0 0] 30 7]
set_option linter.unusedSimpArgs false in
set_option linter.unusedVariables false in
set_option maxHeartbeats 4000000 in
set_option maxRecDepth 100000 in
theorem compare_num (p q : Rat) (w : World) (hp : fits p = true) (hq : fits q = true) (hE : Env w) : Calls Tryz.prog 17 #[.agg #[.int .i64 1, .string (numS p), .string (denS p), .string { data := #[] }, .bool false, .int .i64 0, .int .i64 0, .int .i64 0, .slice none 0 0], .agg #[.int .i64 1, .string (numS q), .string (denS q), .string { data := #[] }, .bool false, .int .i64 0, .int .i64 0, .int .i64 0, .slice none 0 0]] w fun e w' => e = .returned (.tuple #[.int .i64 (cmpR p q), .int .i64 0]) ∧ Below w.heap.size w w' := by
  have TB := Lib.hid (fun W g => both_num p q W hp hq g)
  have T1 := Lib.hid (fun W => like_num p q W)
  have T2 := Lib.hid (fun W => like_num q p W)
  have TC := Lib.hid (fun W => compared_num p q W hp hq)
  obtain ⟨hx, hy, _⟩ := two_new w (.cells #[.int .i64 1, .string (numS p), .string (denS p), .string { data := #[] }, .bool false, .int .i64 0, .int .i64 0, .int .i64 0, .slice none 0 0] 30) (.cells #[.int .i64 1, .string (numS q), .string (denS q), .string { data := #[] }, .bool false, .int .i64 0, .int .i64 0, .int .i64 0, .slice none 0 0] 30)
  have hb : Below w.heap.size w ((w.alloc (.cells #[.int .i64 1, .string (numS p), .string (denS p), .string { data := #[] }, .bool false, .int .i64 0, .int .i64 0, .int .i64 0, .slice none 0 0] 30)).alloc (.cells #[.int .i64 1, .string (numS q), .string (denS q), .string { data := #[] }, .bool false, .int .i64 0, .int .i64 0, .int .i64 0, .slice none 0 0] 30)) := ((Below.refl _ _).alloc (Nat.le_refl _) _).alloc (by simp) _
  have H2 := Lib.hid hx
  have H3 := Lib.hid hy
  have HL := Lib.hid hb
  have HE := Lib.hid (hE.below hb)
  clear hx hy hb hp hq hE
  obtain ⟨W0, hW0⟩ : ∃ Z, (w.alloc (.cells #[.int .i64 1, .string (numS p), .string (denS p), .string { data := #[] }, .bool false, .int .i64 0, .int .i64 0, .int .i64 0, .slice none 0 0] 30)).alloc (.cells #[.int .i64 1, .string (numS q), .string (denS q), .string { data := #[] }, .bool false, .int .i64 0, .int .i64 0, .int .i64 0, .slice none 0 0] 30) = Z := ⟨_, rfl⟩
  rw [hW0] at H2 H3 HL HE
  have EW0 := Lib.hid hW0
  clear hW0
  go_enter Tryz.func17, Tryz.ntmps17
  go_wp2_with fail
  rw [EW0.out]
  refine (TB.out _ HE.out).mono ?_
  rintro e W1 ⟨rfl, hb⟩
  replace H2 := Lib.hid (keep_block H2.out hb)
  replace H3 := Lib.hid (keep_block H3.out hb)
  replace HE := Lib.hid (HE.out.below hb)
  replace HL := Lib.hid (HL.out.trans (hb.mono HL.out.size))
  clear hb
  go_wp2_with fail
  have hok : okB 8 (CmpKs4 w W1 p q) = true := by kernel_rfl
  have hna := noAny_of (ks := (CmpKs4 w W1 p q)) (by kernel_rfl)
  have hla := lasts_of hna
  refine wp_region_facts (row := none) (w := w) 8 (CmpKs4 w W1 p q) [some 13, some 14, some 15, some 16, some 17, some 18, none, none] (by kernel_rfl) (by kernel_rfl) rfl [undef, undef, undef, undef, undef, undef, undef, undef, .pointer (some ⟨w.heap.size, 0, none⟩), .pointer (some ⟨w.heap.size + 1, 0, none⟩)] ?h00 (Fs.start_olds hla rfl (only_of_below HL.out none) ⟨⟨_, rfl, fun _ h => Option.some.inj h, by omega, H2.out⟩, fun _ => ⟨fun _ => far_of (by omega), trivial⟩, ⟨⟨_, rfl, fun _ h => Option.some.inj h, by omega, H3.out⟩, fun _ => trivial, trivial⟩⟩) ?hs ?hd
  case h00 => simp only [putO, layT_some, layT_none, layT_nil, List.setIfInBounds_toArray, List.set_cons_zero, List.set_cons_succ]
  case hs =>
    rintro listed vs Wr hF i hi hun hpre
    obtain ⟨s0, s1, s2, s3, s4, s5, s6, s7, o0, o1, hvs⟩ := exl_of 10 vs (fun l => vs = l) hF.len rfl
    subst hvs
    obtain ⟨_, eG0, hg0, gG0, hO0⟩ : ∃ G, o0 = .pointer (some ⟨G, 0, none⟩) ∧ (∀ k, some (w.heap.size) = some k → G = k) ∧ w.heap.size ≤ G ∧ Wr.heap[G]? = some (.cells (if listed.getD 6 false = true then #[.int .i64 1, .string (numS p), .string (denS p), .string { data := #[] }, .bool false, .int .i64 0, .int .i64 0, .int .i64 0, .slice none 0 0] else #[.int .i64 1, .string (numS p), .string (denS p), .string { data := #[] }, .bool false, .int .i64 0, .int .i64 0, .int .i64 0, .slice none 0 0]) 30 (0, 0)) := hF.get 8 _ rfl (.inl (by decide))
    have hg0 := hg0 _ rfl
    subst hg0
    subst eG0
    obtain ⟨_, eG1, hg1, gG1, hO1⟩ : ∃ G, o1 = .pointer (some ⟨G, 0, none⟩) ∧ (∀ k, some (w.heap.size + 1) = some k → G = k) ∧ w.heap.size ≤ G ∧ Wr.heap[G]? = some (.cells (if listed.getD 7 false = true then #[.int .i64 1, .string (numS q), .string (denS q), .string { data := #[] }, .bool false, .int .i64 0, .int .i64 0, .int .i64 0, .slice none 0 0] else #[.int .i64 1, .string (numS q), .string (denS q), .string { data := #[] }, .bool false, .int .i64 0, .int .i64 0, .int .i64 0, .slice none 0 0]) 30 (0, 0)) := hF.get 9 _ rfl (.inl (by decide))
    have hg1 := hg1 _ rfl
    subst hg1
    subst eG1
    have hge := Nat.zero_le i
    simp only [putO, layT_some, layT_none, layT_nil, List.setIfInBounds_toArray, List.set_cons_zero, List.set_cons_succ]
    rcases Nat.lt_or_ge i 4 with hlt | hgt
    · replace hi := hlt
      clear hlt
      rcases Nat.lt_or_ge i 2 with hlt | hgt
      · replace hi := hlt
        clear hlt
        rcases Nat.lt_or_ge i 1 with hlt | hgt
        · replace hi := hlt
          clear hlt
          have he : i = 0 := Nat.le_antisymm (Nat.le_of_lt_succ hi) hge
          subst he
          rw [if_neg (fun h => bit_off hun (hF.back 6 0 h (by kernel_rfl)))] at hO0
          have hcc := (nine_at (hO0)).1
          have cH20 := hcc.1
          have cH21 := hcc.2.1
          have cH22 := hcc.2.2.1
          have cH23 := hcc.2.2.2.1
          have cH24 := hcc.2.2.2.2.1
          have cH25 := hcc.2.2.2.2.2.1
          have cH26 := hcc.2.2.2.2.2.2.1
          have cH27 := hcc.2.2.2.2.2.2.2.1
          have cH28 := hcc.2.2.2.2.2.2.2.2
          clear hcc
          refine step_of ⟨some 13, _, _, _, _, _⟩ rfl (fun K' hK => ?_)
          go_simp
          refine hK.out _ _ ⟨_, hF.pure hok hla hpre rfl (Below.refl _ _), ?fr⟩
          case fr => simp only [putO, layT_some, layT_none, layT_nil, List.setIfInBounds_toArray, List.set_cons_zero, List.set_cons_succ]
        · replace hge : 1 ≤ i := hgt
          clear hgt
          have he : i = 1 := Nat.le_antisymm (Nat.le_of_lt_succ hi) hge
          subst he
          rw [if_neg (fun h => bit_off hun (hF.back 7 1 h (by kernel_rfl)))] at hO1
          have hcc := (nine_at (hO1)).1
          have cH30 := hcc.1
          have cH31 := hcc.2.1
          have cH32 := hcc.2.2.1
          have cH33 := hcc.2.2.2.1
          have cH34 := hcc.2.2.2.2.1
          have cH35 := hcc.2.2.2.2.2.1
          have cH36 := hcc.2.2.2.2.2.2.1
          have cH37 := hcc.2.2.2.2.2.2.2.1
          have cH38 := hcc.2.2.2.2.2.2.2.2
          clear hcc
          refine step_of ⟨some 14, _, _, _, _, _⟩ rfl (fun K' hK => ?_)
          go_simp
          refine hK.out _ _ ⟨_, hF.pure hok hla hpre rfl (Below.refl _ _), ?fr⟩
          case fr => simp only [putO, layT_some, layT_none, layT_nil, List.setIfInBounds_toArray, List.set_cons_zero, List.set_cons_succ]
      · replace hge : 2 ≤ i := hgt
        clear hgt
        rcases Nat.lt_or_ge i 3 with hlt | hgt
        · replace hi := hlt
          clear hlt
          have he : i = 2 := Nat.le_antisymm (Nat.le_of_lt_succ hi) hge
          subst he
          have p0 := hpre 0 (by kernel_rfl)
          have e0 : s0 = .agg #[.int .i64 1, .string (numS p), .string (denS p), .string { data := #[] }, .bool false, .int .i64 0, .int .i64 0, .int .i64 0, .slice none 0 0] := hF.get 0 _ rfl (.inr p0)
          subst e0
          have p1 := hpre 1 (by kernel_rfl)
          have e1 : s1 = .agg #[.int .i64 1, .string (numS q), .string (denS q), .string { data := #[] }, .bool false, .int .i64 0, .int .i64 0, .int .i64 0, .slice none 0 0] := hF.get 1 _ rfl (.inr p1)
          subst e1
          refine step_of ⟨some 15, _, _, _, _, _⟩ rfl (fun K' hK => ?_)
          go_simp
          go_at_call 32
          (with_reducible refine (T1.out _).mono ?_)
          rintro e Wq ⟨rfl, hq⟩
          refine hK.out _ _ ⟨_, hF.pure hok hla hpre rfl hq, ?fr⟩
          case fr => simp only [putO, layT_some, layT_none, layT_nil, List.setIfInBounds_toArray, List.set_cons_zero, List.set_cons_succ]
        · replace hge : 3 ≤ i := hgt
          clear hgt
          have he : i = 3 := Nat.le_antisymm (Nat.le_of_lt_succ hi) hge
          subst he
          rw [if_neg (fun h => bit_off hun (hF.back 7 3 h (by kernel_rfl)))] at hO1
          have hcc := (nine_at (hO1)).1
          have cH30 := hcc.1
          have cH31 := hcc.2.1
          have cH32 := hcc.2.2.1
          have cH33 := hcc.2.2.2.1
          have cH34 := hcc.2.2.2.2.1
          have cH35 := hcc.2.2.2.2.2.1
          have cH36 := hcc.2.2.2.2.2.2.1
          have cH37 := hcc.2.2.2.2.2.2.2.1
          have cH38 := hcc.2.2.2.2.2.2.2.2
          clear hcc
          refine step_of ⟨some 16, _, _, _, _, _⟩ rfl (fun K' hK => ?_)
          go_simp
          refine hK.out _ _ ⟨_, hF.pure hok hla hpre rfl (Below.refl _ _), ?fr⟩
          case fr => simp only [putO, layT_some, layT_none, layT_nil, List.setIfInBounds_toArray, List.set_cons_zero, List.set_cons_succ]
    · replace hge : 4 ≤ i := hgt
      clear hgt
      rcases Nat.lt_or_ge i 6 with hlt | hgt
      · replace hi := hlt
        clear hlt
        rcases Nat.lt_or_ge i 5 with hlt | hgt
        · replace hi := hlt
          clear hlt
          have he : i = 4 := Nat.le_antisymm (Nat.le_of_lt_succ hi) hge
          subst he
          rw [if_neg (fun h => bit_off hun (hF.back 6 4 h (by kernel_rfl)))] at hO0
          have hcc := (nine_at (hO0)).1
          have cH20 := hcc.1
          have cH21 := hcc.2.1
          have cH22 := hcc.2.2.1
          have cH23 := hcc.2.2.2.1
          have cH24 := hcc.2.2.2.2.1
          have cH25 := hcc.2.2.2.2.2.1
          have cH26 := hcc.2.2.2.2.2.2.1
          have cH27 := hcc.2.2.2.2.2.2.2.1
          have cH28 := hcc.2.2.2.2.2.2.2.2
          clear hcc
          refine step_of ⟨some 17, _, _, _, _, _⟩ rfl (fun K' hK => ?_)
          go_simp
          refine hK.out _ _ ⟨_, hF.pure hok hla hpre rfl (Below.refl _ _), ?fr⟩
          case fr => simp only [putO, layT_some, layT_none, layT_nil, List.setIfInBounds_toArray, List.set_cons_zero, List.set_cons_succ]
        · replace hge : 5 ≤ i := hgt
          clear hgt
          have he : i = 5 := Nat.le_antisymm (Nat.le_of_lt_succ hi) hge
          subst he
          have p3 := hpre 3 (by kernel_rfl)
          have e3 : s3 = .agg #[.int .i64 1, .string (numS q), .string (denS q), .string { data := #[] }, .bool false, .int .i64 0, .int .i64 0, .int .i64 0, .slice none 0 0] := hF.get 3 _ rfl (.inr p3)
          subst e3
          have p4 := hpre 4 (by kernel_rfl)
          have e4 : s4 = .agg #[.int .i64 1, .string (numS p), .string (denS p), .string { data := #[] }, .bool false, .int .i64 0, .int .i64 0, .int .i64 0, .slice none 0 0] := hF.get 4 _ rfl (.inr p4)
          subst e4
          refine step_of ⟨some 18, _, _, _, _, _⟩ rfl (fun K' hK => ?_)
          go_simp
          go_at_call 32
          (with_reducible refine (T2.out _).mono ?_)
          rintro e Wq ⟨rfl, hq⟩
          refine hK.out _ _ ⟨_, hF.pure hok hla hpre rfl hq, ?fr⟩
          case fr => simp only [putO, layT_some, layT_none, layT_nil, List.setIfInBounds_toArray, List.set_cons_zero, List.set_cons_succ]
      · replace hge : 6 ≤ i := hgt
        clear hgt
        rcases Nat.lt_or_ge i 7 with hlt | hgt
        · replace hi := hlt
          clear hlt
          have he : i = 6 := Nat.le_antisymm (Nat.le_of_lt_succ hi) hge
          subst he
          have p2 := hpre 2 (by kernel_rfl)
          have e2 : s2 = .agg #[.int .i64 1, .string (numS p), .string (denS p), .string { data := #[] }, .bool false, .int .i64 0, .int .i64 0, .int .i64 0, .slice none 0 0] := hF.get 2 _ rfl (.inr p2)
          subst e2
          rw [if_neg (bit_off hun)] at hO0
          have HGB := Lib.hid hO0
          obtain ⟨⟨y0, y1, y2, y3, y4, y5, y6, y7, y8⟩, g0, g1, g2, g3, g4, g5, g6, g7, g8⟩ := nine_at HGB.out
          refine step_of ⟨none, _, _, _, _, _⟩ rfl (fun K' hK => ?_)
          go_simp
          refine hK.out _ _ ⟨undef, hF.put hok hna hpre hun rfl undef rfl (.inl (by decide)) rfl (set9_at HGB.out (.int .i64 1) (.string (numS p)) (.string (denS p)) (.string { data := #[] }) (.bool false) (.int .i64 0) (.int .i64 0) (.int .i64 0) (.slice none 0 0)) (fun k hk => set9_other _ _ (.int .i64 1) (.string (numS p)) (.string (denS p)) (.string { data := #[] }) (.bool false) (.int .i64 0) (.int .i64 0) (.int .i64 0) (.slice none 0 0) hk) (put9_below gG0 _ (.int .i64 1) (.string (numS p)) (.string (denS p)) (.string { data := #[] }) (.bool false) (.int .i64 0) (.int .i64 0) (.int .i64 0) (.slice none 0 0)), ?fr⟩
          case fr => simp only [putO, layT_some, layT_none, layT_nil, List.setIfInBounds_toArray, List.set_cons_zero, List.set_cons_succ]
        · replace hge : 7 ≤ i := hgt
          clear hgt
          have he : i = 7 := Nat.le_antisymm (Nat.le_of_lt_succ hi) hge
          subst he
          have p5 := hpre 5 (by kernel_rfl)
          have e5 : s5 = .agg #[.int .i64 1, .string (numS q), .string (denS q), .string { data := #[] }, .bool false, .int .i64 0, .int .i64 0, .int .i64 0, .slice none 0 0] := hF.get 5 _ rfl (.inr p5)
          subst e5
          rw [if_neg (bit_off hun)] at hO1
          have HGB := Lib.hid hO1
          obtain ⟨⟨y0, y1, y2, y3, y4, y5, y6, y7, y8⟩, g0, g1, g2, g3, g4, g5, g6, g7, g8⟩ := nine_at HGB.out
          refine step_of ⟨none, _, _, _, _, _⟩ rfl (fun K' hK => ?_)
          go_simp
          refine hK.out _ _ ⟨undef, hF.put hok hna hpre hun rfl undef rfl (.inl (by decide)) rfl (set9_at HGB.out (.int .i64 1) (.string (numS q)) (.string (denS q)) (.string { data := #[] }) (.bool false) (.int .i64 0) (.int .i64 0) (.int .i64 0) (.slice none 0 0)) (fun k hk => set9_other _ _ (.int .i64 1) (.string (numS q)) (.string (denS q)) (.string { data := #[] }) (.bool false) (.int .i64 0) (.int .i64 0) (.int .i64 0) (.slice none 0 0) hk) (put9_below gG1 _ (.int .i64 1) (.string (numS q)) (.string (denS q)) (.string { data := #[] }) (.bool false) (.int .i64 0) (.int .i64 0) (.int .i64 0) (.slice none 0 0)), ?fr⟩
          case fr => simp only [putO, layT_some, layT_none, layT_nil, List.setIfInBounds_toArray, List.set_cons_zero, List.set_cons_succ]
  case hd =>
    rintro listed vs W2 hF hall
    obtain ⟨s0, s1, s2, s3, s4, s5, s6, s7, o0, o1, hvs⟩ := exl_of 10 vs (fun l => vs = l) hF.len rfl
    subst hvs
    obtain ⟨_, eG0, hg0, gG0, hO0⟩ : ∃ G, o0 = .pointer (some ⟨G, 0, none⟩) ∧ (∀ k, some (w.heap.size) = some k → G = k) ∧ w.heap.size ≤ G ∧ W2.heap[G]? = some (.cells (if listed.getD 6 false = true then #[.int .i64 1, .string (numS p), .string (denS p), .string { data := #[] }, .bool false, .int .i64 0, .int .i64 0, .int .i64 0, .slice none 0 0] else #[.int .i64 1, .string (numS p), .string (denS p), .string { data := #[] }, .bool false, .int .i64 0, .int .i64 0, .int .i64 0, .slice none 0 0]) 30 (0, 0)) := hF.get 8 _ rfl (.inl (by decide))
    have hg0 := hg0 _ rfl
    subst hg0
    subst eG0
    obtain ⟨_, eG1, hg1, gG1, hO1⟩ : ∃ G, o1 = .pointer (some ⟨G, 0, none⟩) ∧ (∀ k, some (w.heap.size + 1) = some k → G = k) ∧ w.heap.size ≤ G ∧ W2.heap[G]? = some (.cells (if listed.getD 7 false = true then #[.int .i64 1, .string (numS q), .string (denS q), .string { data := #[] }, .bool false, .int .i64 0, .int .i64 0, .int .i64 0, .slice none 0 0] else #[.int .i64 1, .string (numS q), .string (denS q), .string { data := #[] }, .bool false, .int .i64 0, .int .i64 0, .int .i64 0, .slice none 0 0]) 30 (0, 0)) := hF.get 9 _ rfl (.inl (by decide))
    have hg1 := hg1 _ rfl
    subst hg1
    subst eG1
    rw [if_pos (hall 6 (by decide))] at hO0
    replace H2 := Lib.hid hO0
    clear hO0
    rw [if_pos (hall 7 (by decide))] at hO1
    replace H3 := Lib.hid hO1
    clear hO1
    have HQ := Lib.hid hF.low
    clear hF hall hok hna hla
    simp only [putO, layT_some, layT_none, layT_nil, List.setIfInBounds_toArray, List.set_cons_zero, List.set_cons_succ]
    obtain ⟨⟨x0, x1, x2, x3, x4, x5, x6, x7, x8⟩, _⟩ := nine_at H2.out
    obtain ⟨⟨y0, y1, y2, y3, y4, y5, y6, y7, y8⟩, _⟩ := nine_at H3.out
    go_wp2_with fail
    refine (TC.out _).mono ?_
    rintro e W3 ⟨rfl, hb⟩
    have HL3 := Lib.hid ((below_none HQ.out).trans (hb.mono HQ.out.size))
    clear hb
    go_wp2
    go_ret2
    exact ⟨rfl, HL3.out⟩
end Go.Proofs.YtphfefmlappidaaGreatDoor.Num

/- package value: WholeOr over the arguments. Conditions: the argument is a valid number or none; the tables lie as they are laid. -/
namespace Go.Proofs.YtphfefmlappidaaGreatDoor.Num
open Go.RowKit Go.Lib

set_option linter.unusedSimpArgs false in
set_option linter.unusedVariables false in
set_option maxHeartbeats 4000000 in
set_option maxRecDepth 100000 in
theorem wholeOr_some (b ab ao L C n : Nat) (q : Rat) (d : Int) (w : World) (h : ArgsAt w b (some ⟨ab, ao, none⟩) L C n) (hn : n < L) (hL : L ≤ 1000000000) (hne : ab ≠ b) (hc : NumCells w ab (ao + n * 9) q) (hq : fits q = true) (h0 : -1000000000 ≤ q.floor) (h1 : q.floor ≤ 1000000000) (hE : Env w) (hP : Past b) :
    Calls Tryz.prog 86 #[.pointer (some ⟨b, 0, none⟩), .int .i64 d] w fun e w' => e = .returned (.int .i64 q.floor) ∧ ArgRet w b (some ⟨ab, ao, none⟩) L C (n + 1) w' := by
  have TM := Lib.hid (fun W g => more_any b (some ⟨ab, ao, none⟩) L C n W g hL)
  have TW := Lib.hid (fun W ga gc ge => argWhole_any b ab ao L C n q W ga hn hL hne gc hq h0 h1 ge hP)
  rw [decide_eq_true hn] at TM
  have hnot : ∀ (x : Bool) (w : World), (Op.unary .not (.bool x)).run Tryz.prog w = .ok (.bool (!x)) w := fun _ _ => rfl
  have HA := Lib.hid h
  have HC := Lib.hid hc
  have HE := Lib.hid hE
  clear h hc hE hn h0 h1 hq
  go_enter Tryz.func86, Tryz.ntmps86
  go_wp2_with fail
  refine (TM.out _ HA.out).mono ?_
  rintro e W1 ⟨rfl, hb⟩
  replace HA := Lib.hid (keep_block HA.out hb)
  replace HC := Lib.hid (NumCells.below HC.out hb)
  replace HE := Lib.hid (HE.out.below hb)
  have HB := Lib.hid (kept_below (b := b) hb)
  clear hb
  go_wp2_with fail
  refine (TW.out _ HA.out HC.out HE.out).mono ?_
  rintro e W2 ⟨rfl, ha, hg⟩
  have HA2 := Lib.hid ha
  have HG := Lib.hid (kept_trans HB.out hg)
  clear ha hg
  go_wp2
  go_ret
  exact ⟨rfl, HA2.out, HG.out⟩

set_option linter.unusedSimpArgs false in
set_option linter.unusedVariables false in
set_option maxHeartbeats 4000000 in
set_option maxRecDepth 100000 in
theorem wholeOr_none (b : Nat) (A : Option Addr) (L C n : Nat) (d : Int) (w : World) (h : ArgsAt w b A L C n) (hn : ¬ n < L) (hL : L ≤ 1000000000) :
    Calls Tryz.prog 86 #[.pointer (some ⟨b, 0, none⟩), .int .i64 d] w fun e w' => e = .returned (.int .i64 d) ∧ ArgsAt w' b A L C n ∧ Below w.heap.size w w' := by
  have TM := Lib.hid (fun W g => more_any b A L C n W g hL)
  rw [decide_eq_false hn] at TM
  have hnot : ∀ (x : Bool) (w : World), (Op.unary .not (.bool x)).run Tryz.prog w = .ok (.bool (!x)) w := fun _ _ => rfl
  have HA := Lib.hid h
  clear h hn
  go_enter Tryz.func86, Tryz.ntmps86
  go_wp2_with fail
  refine (TM.out _ HA.out).mono ?_
  rintro e W1 ⟨rfl, hb⟩
  have HB := Lib.hid hb
  replace HA := Lib.hid (show ArgsAt W1 b A L C n from keep_block HA.out hb)
  clear hb
  go_wp2
  go_ret
  exact ⟨rfl, HA.out, HB.out⟩
end Go.Proofs.YtphfefmlappidaaGreatDoor.Num

/- No body of the program starts a goroutine: what a card asks of it, without the computed closure. No conditions. -/
namespace Go.Proofs.YtphfefmlappidaaGreatDoor
open Go

theorem goes_none {P : Program} (h : P.funcs.any Func.goes = false) (f : FuncId) : P.goes f = false := by
  unfold Program.goes
  rw [h, Bool.and_false, Bool.or_false]
  cases hc : ((P.closure f).any fun g => (P.funcs[g]?).any Func.goes) with
  | false => rfl
  | true =>
    exfalso
    rw [List.any_eq_true] at hc
    obtain ⟨g, _, hg⟩ := hc
    cases hf : P.funcs[g]? with
    | none => rw [hf] at hg; simp at hg
    | some fn =>
      rw [hf, Option.any_some] at hg
      have h2 : P.funcs.any Func.goes = true := by
        rw [Array.any_eq_true]
        obtain ⟨hl, e⟩ := Array.getElem?_eq_some_iff.1 hf
        exact ⟨g, hl, by rw [e]; exact hg⟩
      rw [h] at h2
      cases h2
theorem goesBy_none {P : Program} {c : OpenClaim} (h : P.funcs.any Func.goes = false) (hs : c.start = .entering) : false = c.goesBy P := by
  unfold OpenClaim.goesBy Program.goesAt
  rw [hs]
  unfold Program.goesFrom
  cases P.funcNamed c.func with
  | none => rfl
  | some f => simp only [Option.any_some]; rw [goes_none h f]; rfl
theorem none_goes : Tryz.pinned.checked.prog.funcs.any Func.goes = false := by kernel_rfl
end Go.Proofs.YtphfefmlappidaaGreatDoor

/- The calendar: plain laws, no program. No conditions. -/
namespace Go.Proofs.YtphfefmlappidaaGreatDoor.Num

/-- how many days from 1900 on lie ahead of a year -/
def before (y : Int) : Int := 365 * (y - 1900) + (y - 1) / 4 - (y - 1) / 100 + (y - 1) / 400 - 460
def leap (y : Int) : Bool := decide (y % 4 = 0) && (decide (y % 100 ≠ 0) || decide (y % 400 = 0))
def febr (y : Int) : Int := if leap y then 29 else 28
/-- days of a year ahead of its month number k, counted from 0 -/
def cum (y : Int) (k : Int) : Int :=
  if k ≤ 0 then 0 else if k = 1 then 31 else if k = 2 then 31 + febr y else if k = 3 then 62 + febr y else if k = 4 then 92 + febr y else if k = 5 then 123 + febr y else if k = 6 then 153 + febr y
  else if k = 7 then 184 + febr y else if k = 8 then 215 + febr y else if k = 9 then 245 + febr y else if k = 10 then 276 + febr y else if k = 11 then 306 + febr y else 337 + febr y
/-- the days of the month number k of a year, counted from 0 -/
def mlen (y : Int) (k : Int) : Int := if k = 1 then febr y else if k = 3 ∨ k = 5 ∨ k = 8 ∨ k = 10 then 30 else 31
theorem febr_leap (y : Int) : febr y = 28 + (if y % 4 = 0 ∧ (y % 100 ≠ 0 ∨ y % 400 = 0) then 1 else 0) := by
  unfold febr leap
  by_cases h1 : y % 4 = 0 <;> by_cases h2 : y % 100 ≠ 0 <;> by_cases h3 : y % 400 = 0 <;> simp [h1, h2, h3]
theorem febr_two (y : Int) : febr y = 28 ∨ febr y = 29 := by unfold febr; split <;> simp
theorem before_succ (y : Int) : before (y + 1) = before y + cum y 12 := by
  have e : cum y 12 = 337 + febr y := rfl
  rw [e, febr_leap]
  unfold before
  split <;> omega
theorem cum_succ (y k : Int) (h0 : 0 ≤ k) (h1 : k < 12) : cum y (k + 1) = cum y k + mlen y k := by
  have := febr_two y
  have hk : k = 0 ∨ k = 1 ∨ k = 2 ∨ k = 3 ∨ k = 4 ∨ k = 5 ∨ k = 6 ∨ k = 7 ∨ k = 8 ∨ k = 9 ∨ k = 10 ∨ k = 11 := by omega
  rcases hk with rfl | rfl | rfl | rfl | rfl | rfl | rfl | rfl | rfl | rfl | rfl | rfl <;> simp [cum, mlen] <;> omega
theorem mlen_bounds (y k : Int) : 28 ≤ mlen y k ∧ mlen y k ≤ 31 := by
  have := febr_two y
  unfold mlen
  split
  · omega
  · split <;> omega
theorem cum_zero (y : Int) : cum y 0 = 0 := rfl
theorem cum_bounds (y k : Int) : 0 ≤ cum y k ∧ cum y k ≤ 366 := by
  have := febr_two y
  have hk : k ≤ 0 ∨ k = 1 ∨ k = 2 ∨ k = 3 ∨ k = 4 ∨ k = 5 ∨ k = 6 ∨ k = 7 ∨ k = 8 ∨ k = 9 ∨ k = 10 ∨ k = 11 ∨ 12 ≤ k := by omega
  rcases hk with h | rfl | rfl | rfl | rfl | rfl | rfl | rfl | rfl | rfl | rfl | rfl | h
  · unfold cum
    rw [if_pos h]; omega
  all_goals first | (simp [cum] <;> omega) | skip
theorem before_lt {y z : Int} (h : y < z) : before y + 365 ≤ before z := by
  unfold before
  omega
theorem before_start (k : Int) (hk : 0 ≤ k) (h9 : k ≤ 8099) : before (1900 + k) ≤ 366 * k := by unfold before; omega
theorem before_end : before 10000 = 2958464 := by decide
/-- the number of a date: from year y, month number k (from 0) and day d -/
def dayNo (y k d : Int) : Int := before y + cum y k + d
/-- the date with a number -/
structure IsDate (n y k d : Int) : Prop where
  y0 : 1900 ≤ y
  y1 : y ≤ 9999
  k0 : 0 ≤ k
  k1 : k ≤ 11
  d0 : 1 ≤ d
  d1 : d ≤ mlen y k
  no : n = dayNo y k d
theorem IsDate.year {n y k d : Int} (h : IsDate n y k d) : before y < n ∧ n ≤ before (y + 1) := by
  have h1 := h.no
  have h2 := cum_succ y k h.k0 (by have := h.k1; omega)
  have h3 := cum_bounds y k
  have h4 := h.d0
  have h5 := h.d1
  unfold dayNo at h1
  rw [before_succ]
  have hm : cum y (k + 1) ≤ cum y 12 := by
    have := febr_two y
    have := h.k0
    have := h.k1
    have hk : k = 0 ∨ k = 1 ∨ k = 2 ∨ k = 3 ∨ k = 4 ∨ k = 5 ∨ k = 6 ∨ k = 7 ∨ k = 8 ∨ k = 9 ∨ k = 10 ∨ k = 11 := by omega
    rcases hk with rfl | rfl | rfl | rfl | rfl | rfl | rfl | rfl | rfl | rfl | rfl | rfl <;> simp [cum] <;> omega
  omega
theorem month_exists (y r : Int) (h0 : 1 ≤ r) (h1 : r ≤ cum y 12) : ∃ k, 0 ≤ k ∧ k ≤ 11 ∧ cum y k < r ∧ r ≤ cum y k + mlen y k := by
  have step : ∀ j : Nat, j ≤ 12 → r ≤ cum y (j : Int) → ∃ k : Int, 0 ≤ k ∧ k ≤ 11 ∧ cum y k < r ∧ r ≤ cum y k + mlen y k := by
    intro j
    induction j with
    | zero => intro _ h; rw [show ((0 : Nat) : Int) = 0 from rfl, cum_zero] at h; omega
    | succ j ih =>
      intro hj h
      by_cases hc : r ≤ cum y (j : Int)
      · exact ih (by omega) hc
      · have := cum_succ y j (by omega) (by omega)
        refine ⟨j, by omega, by omega, by omega, ?_⟩
        rw [← this]; exact h
  exact step 12 (by omega) h1
theorem date_exists (n : Int) (h0 : 1 ≤ n) (h1 : n ≤ 2958464) : ∃ y k d, IsDate n y k d := by
  have step : ∀ j : Nat, j ≤ 8100 → n ≤ before (1900 + (j : Int)) → ∃ y, 1900 ≤ y ∧ y ≤ 9999 ∧ before y < n ∧ n ≤ before (y + 1) := by
    intro j
    induction j with
    | zero =>
      intro _ h
      have : before (1900 + ((0 : Nat) : Int)) = 0 := by decide
      omega
    | succ j ih =>
      intro hj h
      by_cases hc : n ≤ before (1900 + (j : Int))
      · exact ih (by omega) hc
      · refine ⟨1900 + j, by omega, by omega, by omega, ?_⟩
        rw [show (1900 + (j : Int)) + 1 = 1900 + ((j + 1 : Nat) : Int) by omega]; exact h
  obtain ⟨y, hy0, hy1, hy2, hy3⟩ := step 8100 (Nat.le_refl _) (by
    rw [show (1900 + ((8100 : Nat) : Int)) = 10000 from rfl, before_end]; exact h1)
  rw [before_succ] at hy3
  obtain ⟨k, hk0, hk1, hk2, hk3⟩ := month_exists y (n - before y) (by omega) (by omega)
  exact ⟨y, k, n - before y - cum y k, hy0, hy1, hk0, hk1, by omega, by omega, by unfold dayNo; omega⟩
/-- a number's date is one -/
theorem IsDate.unique {n y k d y' k' d' : Int} (h : IsDate n y k d) (h' : IsDate n y' k' d') : y = y' ∧ k = k' ∧ d = d' := by
  have hy : y = y' := by
    have a := h.year
    have b := h'.year
    rcases Int.lt_trichotomy y y' with c | c | c
    · have : before (y + 1) ≤ before y' := by
        by_cases e : y + 1 = y'
        · rw [e]; exact Int.le_refl _
        · have := before_lt (y := y + 1) (z := y') (by omega); omega
      omega
    · exact c
    · have : before (y' + 1) ≤ before y := by
        by_cases e : y' + 1 = y
        · rw [e]; exact Int.le_refl _
        · have := before_lt (y := y' + 1) (z := y) (by omega); omega
      omega
  subst hy
  have hk : k = k' := by
    have a := h.no
    have b := h'.no
    have := h.d0; have := h.d1; have := h'.d0; have := h'.d1
    have := h.k0; have := h.k1; have := h'.k0; have := h'.k1
    unfold dayNo at a b
    have mono : ∀ i j : Int, 0 ≤ i → i < j → j ≤ 11 → cum y i + mlen y i ≤ cum y j := by
      intro i j hi hij hj
      have step : ∀ t : Nat, i + 1 + t ≤ 11 → cum y (i + 1) ≤ cum y (i + 1 + t) := by
        intro t
        induction t with
        | zero => intro _; rw [show i + 1 + ((0 : Nat) : Int) = i + 1 by omega]; exact Int.le_refl _
        | succ t ih =>
          intro ht
          have e := cum_succ y (i + 1 + t) (by omega) (by omega)
          have m := (mlen_bounds y (i + 1 + t)).1
          rw [show i + 1 + ((t + 1 : Nat) : Int) = i + 1 + t + 1 by omega, e]
          have := ih (by omega)
          omega
      have e := cum_succ y i hi (by omega)
      have s := step (j - (i + 1)).toNat (by omega)
      rw [show i + 1 + ((j - (i + 1)).toNat : Int) = j by omega] at s
      omega
    rcases Int.lt_trichotomy k k' with c | c | c
    · have := mono k k' (by omega) c (by omega); omega
    · exact c
    · have := mono k' k (by omega) c (by omega); omega
  subst hk
  have a := h.no
  have b := h'.no
  unfold dayNo at a b
  exact ⟨rfl, rfl, by omega⟩
/-- the first day of a month that is counted from the year 0 on -/
def firstDay (m : Int) : Int := before (m / 12) + 1 + cum (m / 12) (m % 12)
theorem firstDay_of (y k : Int) (h0 : 0 ≤ k) (h1 : k ≤ 11) : firstDay (12 * y + k) = before y + 1 + cum y k := by
  unfold firstDay
  rw [show (12 * y + k) / 12 = y by omega, show (12 * y + k) % 12 = k by omega]
theorem firstDay_succ (m : Int) : firstDay (m + 1) = firstDay m + mlen (m / 12) (m % 12) := by
  unfold firstDay
  have hc := cum_succ (m / 12) (m % 12) (by omega) (by omega)
  by_cases h : m % 12 = 11
  · rw [show (m + 1) / 12 = m / 12 + 1 by omega, show (m + 1) % 12 = 0 by omega, before_succ, cum_zero]
    rw [h] at hc ⊢
    rw [show (11 : Int) + 1 = 12 from rfl] at hc
    omega
  · rw [show (m + 1) / 12 = m / 12 by omega, show (m + 1) % 12 = m % 12 + 1 by omega, hc]
    omega
theorem IsDate.first {n y k d : Int} (h : IsDate n y k d) : firstDay (12 * y + k) + d - 1 = n := by
  rw [firstDay_of y k h.k0 h.k1, h.no]
  unfold dayNo
  omega
/-- a day of a month, as a date -/
theorem isDate_month (m d : Int) (h0 : 22800 ≤ m) (h1 : m ≤ 119999) (d0 : 1 ≤ d) (d1 : d ≤ mlen (m / 12) (m % 12)) : IsDate (firstDay m + d - 1) (m / 12) (m % 12) d :=
  ⟨by omega, by omega, by omega, by omega, d0, d1, by unfold firstDay dayNo; omega⟩
theorem firstDay_mono {m k : Int} (h : m ≤ k) : firstDay m ≤ firstDay k := by
  have step : ∀ t : Nat, firstDay m ≤ firstDay (m + t) := by
    intro t
    induction t with
    | zero => rw [show m + ((0 : Nat) : Int) = m by omega]; exact Int.le_refl _
    | succ t ih =>
      rw [show m + ((t + 1 : Nat) : Int) = m + t + 1 by omega, firstDay_succ]
      have := (mlen_bounds ((m + t) / 12) ((m + t) % 12)).1
      omega
  have s := step (k - m).toNat
  rw [show m + ((k - m).toNat : Int) = k by omega] at s
  exact s
/-- where the search for a year starts -/
theorem start_lt (k : Int) (hk : 1 ≤ k) (h9 : k ≤ 8101) : before (1900 + k) < 366 * k := by unfold before; omega
theorem IsDate.range {n y k d : Int} (h : IsDate n y k d) : 1 ≤ n ∧ n ≤ 2958464 := by
  have h1 := h.year
  have h2 : before 1900 ≤ before y := by
    have := h.y0
    unfold before; omega
  have h3 : before (y + 1) ≤ before 10000 := by
    have := h.y1
    unfold before; omega
  rw [before_end] at h3
  have : before 1900 = 0 := by decide
  omega
theorem IsDate.start {n y k d : Int} (h : IsDate n y k d) : 1900 + n / 366 ≤ y := by
  have h1 := h.year
  have h2 := start_lt (y + 1 - 1900) (by have := h.y0; omega) (by have := h.y1; omega)
  rw [show 1900 + (y + 1 - 1900) = y + 1 by omega] at h2
  omega
/-- the test of the search: true just while the year is too low -/
theorem IsDate.low {n y k d z : Int} (h : IsDate n y k d) (hz : z < y) : before (z + 1) < n := by
  have h1 := h.year
  have h2 : before (z + 1) ≤ before y := by
    by_cases e : z + 1 = y
    · rw [e]; exact Int.le_refl _
    · have := before_lt (show z + 1 < y by omega)
      omega
  omega
theorem cum_le (y : Int) {a b : Int} (h0 : 0 ≤ a) (h : a ≤ b) (hb : b ≤ 12) : cum y a ≤ cum y b := by
  obtain ⟨m, rfl⟩ : ∃ m : Nat, b = a + m := ⟨(b - a).toNat, by omega⟩
  clear h
  induction m with
  | zero => rw [show a + ((0 : Nat) : Int) = a by omega]; exact Int.le_refl _
  | succ m ih =>
    have h1 := cum_succ y (a + m) (by omega) (by omega)
    have h2 := mlen_bounds y (a + m)
    have h3 := ih (by omega)
    rw [show a + ((m + 1 : Nat) : Int) = a + m + 1 by omega, h1]
    omega
/-- the months ahead are passed by -/
theorem IsDate.past {n y k d i : Int} (h : IsDate n y k d) (h0 : 0 ≤ i) (hi : i < k) : mlen y i < n - before y - cum y i := by
  have h1 := cum_succ y i h0 (by have := h.k1; omega)
  have h2 := cum_le y (a := i + 1) (b := k) (by omega) (by omega) (by have := h.k1; omega)
  have h3 := h.no
  have h4 := h.d0
  unfold dayNo at h3
  omega
theorem IsDate.here {n y k d : Int} (h : IsDate n y k d) : n - before y - cum y k = d := by
  have h3 := h.no
  unfold dayNo at h3
  omega
/-- hours, minutes and seconds -/
theorem hms (s : Int) : 3600 * (s / 3600) + 60 * (s / 60 % 60) + s % 60 = s := by omega
/-- the day of the week a week before -/
theorem week_same (n : Int) : (n - 7 + 6) % 7 + 1 = (n + 6) % 7 + 1 := by omega
theorem week_ne {n : Int} (h0 : 1 < n) (h : n ≤ 7) : (n + 6) % 7 + 1 ≠ 1 := by omega
end Go.Proofs.YtphfefmlappidaaGreatDoor.Num

/- Months added to a date, and working days. Plain: no program. -/
namespace Go.Proofs.YtphfefmlappidaaGreatDoor.Num

/-- the last day of a month, counted from the year 0 on -/
def eomNo (m : Int) : Int := firstDay m + mlen (m / 12) (m % 12) - 1
/-- the day d of a month, or its last one -/
def edateNo (m d : Int) : Int := firstDay m + min d (mlen (m / 12) (m % 12)) - 1
theorem eom_succ (m : Int) : eomNo m + 1 = firstDay (m + 1) := by
  rw [firstDay_succ]; unfold eomNo; omega
theorem eom_mono {m k : Int} (h : m ≤ k) : eomNo m ≤ eomNo k := by
  have := firstDay_mono (show m + 1 ≤ k + 1 by omega)
  have h1 := eom_succ m
  have h2 := eom_succ k
  omega
section
variable {n y k d m : Int}
theorem IsDate.month (h : IsDate n y k d) : (12 * y + k) / 12 = y ∧ (12 * y + k) % 12 = k := by
  have := h.k0; have := h.k1
  omega
theorem IsDate.eom (h : IsDate n y k d) : n ≤ eomNo (12 * y + k) := by
  have h1 := h.first
  have h2 := h.d1
  unfold eomNo
  rw [h.month.1, h.month.2]
  omega
theorem IsDate.low_year (h : IsDate n y k d) (hn : n ≤ 2900000) : y ≤ 9899 := by
  by_cases e : y ≤ 9899
  · exact e
  · exfalso
    have h1 := h.year
    have h2 : before 9900 ≤ before y := by
      by_cases e2 : 9900 = y
      · rw [e2]; exact Int.le_refl _
      · have := before_lt (show 9900 < y by omega)
        omega
    have h3 : before 9900 = 2921939 + 0 ∨ 2900000 ≤ before 9900 := .inr (by decide)
    rcases h3 with h3 | h3 <;> omega
theorem IsDate.in_range (h : IsDate n y k d) (hn : n ≤ 2900000) (j : Int) (j0 : 0 ≤ j) (j1 : j ≤ 401) : 22800 ≤ 12 * y + k + j ∧ 12 * y + k + j ≤ 119999 := by
  have := h.low_year hn
  have := h.y0; have := h.k0; have := h.k1
  omega
theorem edate_is (h0 : 22800 ≤ m) (h1 : m ≤ 119999) (d0 : 1 ≤ d) : IsDate (edateNo m d) (m / 12) (m % 12) (min d (mlen (m / 12) (m % 12))) := by
  have := mlen_bounds (m / 12) (m % 12)
  exact isDate_month m _ h0 h1 (by omega) (by omega)
theorem eom_is (h0 : 22800 ≤ m) (h1 : m ≤ 119999) : IsDate (eomNo m) (m / 12) (m % 12) (mlen (m / 12) (m % 12)) := by
  have := mlen_bounds (m / 12) (m % 12)
  exact isDate_month m _ h0 h1 (by omega) (by omega)
theorem first_is (h0 : 22800 ≤ m) (h1 : m ≤ 119999) : IsDate (firstDay m) (m / 12) (m % 12) 1 := by
  have := mlen_bounds (m / 12) (m % 12)
  have e := isDate_month m 1 h0 h1 (by omega) (by omega)
  rw [show firstDay m + 1 - 1 = firstDay m by omega] at e
  exact e
theorem edate_le_eom (m d : Int) : edateNo m d ≤ eomNo m := by unfold edateNo eomNo; omega
end

/-- working days ahead of a day, holidays left out; f: how many holidays are not after a day -/
def weekdaysR (n : Int) : Int := n / 7 * 5 + min (n % 7) 5
def countR (l : List Int) (n : Int) : Int := weekdaysR n - (l.countP (fun x => decide (x ≤ n)) : Nat)
theorem weekdays_succ (n : Int) : weekdaysR (n + 1) = weekdaysR n + (if (n + 1) % 7 ≠ 0 ∧ (n + 1) % 7 ≠ 6 then 1 else 0) := by
  unfold weekdaysR
  split <;> omega
/-- what holidays are: in order, none twice, none at the end of a week -/
structure Free (l : List Int) : Prop where
  ord : l.Pairwise (· < ·)
  day : ∀ x ∈ l, 1 ≤ x ∧ x % 7 ≠ 0 ∧ x % 7 ≠ 6
theorem countP_succ {l : List Int} (hl : l.Pairwise (· < ·)) (n : Int) : l.countP (fun x => decide (x ≤ n + 1)) = l.countP (fun x => decide (x ≤ n)) + (if n + 1 ∈ l then 1 else 0) := by
  induction l with
  | nil => rfl
  | cons a l ih =>
    rw [List.pairwise_cons] at hl
    rw [List.countP_cons, List.countP_cons, ih hl.2]
    by_cases ha : a = n + 1
    · have hno : n + 1 ∉ l := fun h => by have := hl.1 _ h; omega
      have m1 : n + 1 ∈ a :: l := by rw [ha]; exact List.mem_cons_self
      rw [if_neg hno, if_pos m1, decide_eq_true (show a ≤ n + 1 by omega), decide_eq_false (show ¬ a ≤ n by omega)]
      simp
    · by_cases hm : n + 1 ∈ l
      · have m1 : n + 1 ∈ a :: l := List.mem_cons_of_mem _ hm
        have := hl.1 _ hm
        rw [if_pos hm, if_pos m1, decide_eq_true (show a ≤ n + 1 by omega), decide_eq_true (show a ≤ n by omega)]
        simp
      · have m1 : n + 1 ∉ a :: l := fun h => by
          rcases List.mem_cons.1 h with h | h
          · exact ha h.symm
          · exact hm h
        rw [if_neg hm, if_neg m1]
        by_cases hh : a ≤ n
        · rw [decide_eq_true (show a ≤ n + 1 by omega), decide_eq_true hh]
          simp
        · rw [decide_eq_false (show ¬ a ≤ n + 1 by omega), decide_eq_false hh]
          simp
theorem count_succ {l : List Int} (h : Free l) (n : Int) : countR l (n + 1) = countR l n ∨ (countR l (n + 1) = countR l n + 1 ∧ (n + 1) % 7 ≠ 0 ∧ (n + 1) % 7 ≠ 6) := by
  unfold countR
  rw [weekdays_succ n, countP_succ h.ord]
  by_cases hm : n + 1 ∈ l
  · have := h.day _ hm
    rw [if_pos ⟨this.2.1, this.2.2⟩, if_pos hm]
    left; omega
  · rw [if_neg hm]
    split
    · next hw => right; exact ⟨by omega, hw⟩
    · left; omega
theorem count_mono {l : List Int} (h : Free l) {n m : Int} (hm : n ≤ m) : countR l n ≤ countR l m := by
  obtain ⟨t, rfl⟩ : ∃ t : Nat, m = n + t := ⟨(m - n).toNat, by omega⟩
  clear hm
  induction t with
  | zero => rw [show n + ((0 : Nat) : Int) = n by omega]; exact Int.le_refl _
  | succ t ih =>
    rw [show n + ((t + 1 : Nat) : Int) = n + t + 1 by omega]
    rcases count_succ h (n + t) with e | e <;> omega
/-- the day that the search ends at -/
theorem work_day {l : List Int} (h : Free l) {n k d : Int} (hk : 1 ≤ k) (h1 : countR l n + k ≤ countR l d) (h2 : countR l (d - 1) < countR l n + k) :
    countR l d = countR l n + k ∧ countR l (d - 1) = countR l d - 1 ∧ n < d ∧ d % 7 ≠ 0 ∧ d % 7 ≠ 6 := by
  have hs := count_succ h (d - 1)
  rw [show d - 1 + 1 = d by omega] at hs
  rcases hs with e | ⟨e, w1, w2⟩
  · omega
  · refine ⟨by omega, by omega, ?_, w1, w2⟩
    by_cases hnd : n < d
    · exact hnd
    · have := count_mono h (show d ≤ n by omega)
      omega
end Go.Proofs.YtphfefmlappidaaGreatDoor.Num

/- A day and a time as one number. Plain: no program. -/
namespace Go.Proofs.YtphfefmlappidaaGreatDoor.Num

/-- s seconds as a part of a day -/
def timeR (s : Int) : Rat := (s : Rat) / ((86400 : Int) : Rat)
theorem time_mul (s : Int) : timeR s * ((86400 : Int) : Rat) = (s : Rat) := by
  unfold timeR
  have h : ((86400 : Int) : Rat) ≠ 0 := int_ne (by decide)
  grind
theorem time_nonneg {s : Int} (h : 0 ≤ s) : 0 ≤ timeR s := by
  unfold timeR
  rw [Rat.div_def]
  refine Rat.mul_nonneg ?_ (Rat.le_of_lt (Rat.inv_pos.2 (by decide)))
  exact Rat.intCast_nonneg.2 h
theorem time_lt {s : Int} (h : s < 86400) : timeR s < 1 := by
  have h1 := time_mul s
  have h2 : (s : Rat) < ((86400 : Int) : Rat) := Rat.intCast_lt_intCast.2 h
  rw [← h1] at h2
  have h3 : (0 : Rat) < ((86400 : Int) : Rat) := by decide
  by_cases c : timeR s < 1
  · exact c
  · have := Rat.mul_le_mul_of_nonneg_right (Rat.not_lt.1 c) (Rat.le_of_lt h3)
    rw [Rat.one_mul] at this
    exact absurd h2 (Rat.not_lt.2 this)
theorem floor_between {q : Rat} {n : Int} (h0 : (n : Rat) ≤ q) (h1 : q < (n : Rat) + 1) : q.floor = n := by
  have a : n ≤ q.floor := Rat.le_floor_iff.2 h0
  have b : q.floor < n + 1 := Rat.floor_lt_iff.2 (by rw [Rat.intCast_add]; exact h1)
  omega
theorem both_floor (n : Int) {s : Int} (h0 : 0 ≤ s) (h1 : s < 86400) : ((n : Rat) + timeR s).floor = n :=
  floor_between (by have := time_nonneg h0; grind) (by have := time_lt h1; grind)
theorem both_rest (n s : Int) : (n : Rat) + timeR s - (n : Rat) = timeR s := by grind
theorem time_sm {s : Int} (h0 : 0 ≤ s) (h1 : s < 86400) : Sm (timeR s) 86400 86400 :=
  (Sm.ratio s 86400 (by decide) (A := 86400) (B := 86400) (by omega) (by decide)).mono (by decide) (by decide)
theorem both_sm {n s : Int} (hn0 : 0 ≤ n) (hn : n ≤ 2958464) (h0 : 0 ≤ s) (h1 : s < 86400) : Sm ((n : Rat) + timeR s) (2958464 * 86400 + 86400 * 1) (1 * 86400) :=
  (Sm.int n (A := 2958464) (by omega)).add (time_sm h0 h1)
end Go.Proofs.YtphfefmlappidaaGreatDoor.Num
