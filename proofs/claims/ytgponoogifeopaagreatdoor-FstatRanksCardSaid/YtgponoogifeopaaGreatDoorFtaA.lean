/- Numbers as texts of digits, fractions, values and the functions of fmath: contracts of the program's functions, joined from smaller texts. Conditions stand at each theorem. -/
import Derived.OrdersHeld
import Derived.Deep.RegionHeld3
import Derived.Test.YtgponoogifeopaaGreatDoorNumH
import Derived.Test.YtgponoogifeopaaGreatDoorNumG

/- A region that draws its order, by one condition on what has come up, the frame and the world: each operation is walked once. Plain: of no program. -/
namespace Go.Proofs.YtgponoogifeopaaGreatDoor.Num

section
variable {P : Program} {ops : Array Oper} {Q : Exit → Act → World → Prop} {md : Region.Mode}

def unl (ops : Array Oper) (listed : Array Bool) : List Nat := (List.range ops.size).filter fun j => !(listed.getD j true)
theorem unl_set {listed : Array Bool} {i : Nat} (hi : i < ops.size) (hun : listed.getD i true = false) : (unl ops (listed.setIfInBounds i true)).length < (unl ops listed).length := by
  have hsz : i < listed.size := by
    rcases Nat.lt_or_ge i listed.size with h | h
    · exact h
    · simp [Array.getElem?_eq_none h] at hun
  have e : unl ops (listed.setIfInBounds i true) = (unl ops listed).filter fun j => !(j == i) := by
    unfold unl
    rw [List.filter_filter]
    apply List.filter_congr
    intro j hj
    by_cases hji : i = j
    · subst hji; simp [hsz]
    · have : (j == i) = false := by simp; omega
      rw [getD_set_ne true hji, this]; simp
  rw [e, List.length_filter_lt_length_iff_exists]
  refine ⟨i, ?_, by simp⟩
  unfold unl
  rw [List.mem_filter, List.mem_range]
  exact ⟨hi, by rw [hun]; rfl⟩
theorem unl_ready {listed : Array Bool} {i : Nat} (h : i ∈ Region.ready md ops listed) : 0 < (unl ops listed).length := by
  obtain ⟨h0, o, ho, _⟩ := mem_ready.1 h
  have hi : i < ops.size := (Array.getElem?_eq_some_iff.1 ho).1
  refine List.length_pos_of_mem (a := i) ?_
  unfold unl
  rw [List.mem_filter, List.mem_range]
  exact ⟨hi, by rw [h0]; rfl⟩

theorem wpAny_inv (I : Array Bool → Act → World → Prop)
    (hstep : ∀ listed a w, I listed a w → ∀ i o, ops[i]? = some o → listed.getD i true = false → (∀ e ∈ o.after, Region.binds md e = true → listed.getD e.on false = true) → wpOp P ops Q i (fun a' w' => I (listed.setIfInBounds i true) a' w') a w)
    (hdone : ∀ listed a w, I listed a w → Region.ready md ops listed = [] → Q .normal a w) :
    ∀ fuel listed a w, (unl ops listed).length ≤ fuel → I listed a w → wpAny P md ops Q fuel listed a w := by
  intro fuel
  induction fuel with
  | zero =>
    intro listed a w hu hI
    have hr : Region.ready md ops listed = [] := by
      cases hr : Region.ready md ops listed with
      | nil => rfl
      | cons i r => have := unl_ready (md := md) (ops := ops) (listed := listed) (i := i) (by rw [hr]; simp); omega
    exact ⟨hr, hdone listed a w hI hr⟩
  | succ n ih =>
    intro listed a w hu hI
    refine ⟨fun hr => hdone listed a w hI hr, fun i hi => ?_⟩
    obtain ⟨h0, o, ho, hall⟩ := mem_ready.1 hi
    refine wpOp_mono (fun a' w' h => ih _ a' w' ?_ h) (hstep listed a w hI i o ho h0 hall)
    have := unl_set (ops := ops) (Array.getElem?_eq_some_iff.1 ho).1 h0
    omega

theorem wp_region_inv {id : Nat} {a : Act} {w : World} (hm : P.follows .mixedOrders = true) (I : Array Bool → Act → World → Prop)
    (h0 : I (Array.replicate ops.size false) a w.drew)
    (hstep : ∀ listed a w, I listed a w → ∀ i o, ops[i]? = some o → listed.getD i true = false → (∀ e ∈ o.after, Region.binds .any e = true → listed.getD e.on false = true) → wpOp P ops Q i (fun a' w' => I (listed.setIfInBounds i true) a' w') a w)
    (hdone : ∀ listed a w, I listed a w → Region.ready .any ops listed = [] → Q .normal a w) : (Code.region id ops true).wp P Q a w :=
  wp_region_any hm (wpAny_inv I hstep hdone _ _ _ _ (by
    unfold unl
    refine Nat.le_trans (List.length_filter_le _ _) ?_
    rw [List.length_range]; exact Nat.le_refl _) h0)

/-- the operations that number i waits for -/
def needs (md : Region.Mode) (ops : Array Oper) (i : Nat) : List Nat :=
  match ops[i]? with
  | some o => (o.after.toList.filter fun e => Region.binds md e).map (·.on)
  | none => []
/-- every edge leads back -/
def backB (ops : Array Oper) : Bool := (List.range ops.size).all fun i => match ops[i]? with
  | some o => o.after.toList.all fun e => !Region.binds .any e || decide (e.on < i)
  | none => true
theorem all_listed {listed : Array Bool} (hsz : listed.size = ops.size) (hb : backB ops = true) (hr : Region.ready .any ops listed = []) : ∀ j, j < ops.size → listed.getD j false = true := by
  intro j
  induction j using Nat.strongRecOn with
  | ind j ih =>
    intro hj
    cases hl : listed.getD j false with
    | true => rfl
    | false =>
      have hun : listed.getD j true = false := by
        have hj' : j < listed.size := by omega
        simp [hj'] at hl ⊢
        exact hl
      have ho : ops[j]? = some ops[j] := Array.getElem?_eq_getElem hj
      have hbj := List.all_eq_true.1 hb j (List.mem_range.2 hj)
      rw [ho] at hbj
      have : j ∈ Region.ready .any ops listed := mem_ready.2 ⟨hun, ops[j], ho, fun e he hbd => by
        have h1 := List.all_eq_true.1 hbj e (Array.mem_toList_iff.2 he)
        rw [hbd] at h1
        have := of_decide_eq_true h1
        exact ih e.on this (by omega)⟩
      rw [hr] at this
      cases this

theorem step_of {i : Nat} {K : Act → World → Prop} {a : Act} {w : World} (o : Oper) (ho : ops[i]? = some o)
    (h : ∀ K' : Act → World → Prop, Shut (∀ a w, K a w → K' a w) → if Region.wanted o (yielded ops a.tmps) = true then Oper.wp P o a w K' Q else K' (a.put o.dst undef) w) : wpOp P ops Q i K a w :=
  wpOp_step ho (fun K' hK => h K' hK)

theorem bit_mono {listed : Array Bool} {i j : Nat} (h : listed.getD j false = true) : (listed.setIfInBounds i true).getD j false = true := by
  by_cases e : i = j
  · subst e
    have hsz : i < listed.size := by
      rcases Nat.lt_or_ge i listed.size with h' | h'
      · exact h'
      · simp [Array.getElem?_eq_none h'] at h
    simp [hsz]
  · rwa [getD_set_ne false e]
theorem bit_off {listed : Array Bool} {i : Nat} (h : listed.getD i true = false) : ¬ listed.getD i false = true := by
  have hsz : i < listed.size := by
    rcases Nat.lt_or_ge i listed.size with h' | h'
    · exact h'
    · simp [Array.getElem?_eq_none h'] at h
  simp [hsz] at h ⊢
  exact h
theorem bit_none {n i : Nat} : ¬ (Array.replicate n false).getD i false = true := by
  simp [Array.getElem?_replicate]
  split <;> simp
theorem bit_self {listed : Array Bool} {i : Nat} (h : listed.getD i true = false) : (listed.setIfInBounds i true).getD i false = true := by
  have hsz : i < listed.size := by
    rcases Nat.lt_or_ge i listed.size with h' | h'
    · exact h'
    · simp [Array.getElem?_eq_none h'] at h
  simp [hsz]
end
end Go.Proofs.YtgponoogifeopaaGreatDoor.Num

/- A region that draws its order: what each operation yields is said once, each operation is walked once. Plain: of no program. -/
namespace Go.Proofs.YtgponoogifeopaaGreatDoor.Num
open Go.RowKit Go.Lib

/-- what an operation yields: a known value; a row of its own; a variable of its own (zero, then what store number st writes); a store; anything that lasts; a block into which several stores write, each its own cells; what is said elsewhere -/
inductive RK where
  | pure (v : Value)
  | row (cs : Array Value) (T : TypeId) (n : Nat)
  | box (g : Option Nat) (z f : Array Value) (T : TypeId) (st : Nat)
  | put (al : Nat)
  | any (R : Value → World → Prop)
  | blk (g : Option Nat) (z f : List Value) (sts : List (Option Nat)) (T : TypeId)
  | free
def RK.owns : RK → Bool
  | .row .. => true
  | .box .. => true
  | .blk .. => true
  | _ => false
def RK.isAny : RK → Bool
  | .any _ => true
  | .blk .. => true
  | _ => false
def blkOf : Value → Option Nat
  | .pointer (some p) => some p.block
  | .slice (some p) _ _ => some p.block
  | _ => none
/-- cell by cell: what stood, or what its store wrote -/
def mixL (listed : Array Bool) : List Value → List Value → List (Option Nat) → List Value
  | a :: z, b :: f, some st :: sts => (if listed.getD st false = true then b else a) :: mixL listed z f sts
  | a :: z, _ :: f, none :: sts => a :: mixL listed z f sts
  | z, _, _ => z
theorem mix_ne {listed : Array Bool} {i : Nat} : ∀ (z f : List Value) (sts : List (Option Nat)), (∀ s ∈ sts, s ≠ some i) → mixL (listed.setIfInBounds i true) z f sts = mixL listed z f sts
  | a :: z, b :: f, some st :: sts, h => by
    have h1 : i ≠ st := fun e => h (some st) List.mem_cons_self (by rw [e])
    show (if (listed.setIfInBounds i true).getD st false = true then b else a) :: _ = (if listed.getD st false = true then b else a) :: _
    rw [getD_set_ne false h1, mix_ne z f sts (fun s hs => h s (List.mem_cons_of_mem _ hs))]
  | a :: z, _ :: f, none :: sts, h => by
    show a :: mixL _ z f sts = a :: mixL _ z f sts
    rw [mix_ne z f sts (fun s hs => h s (List.mem_cons_of_mem _ hs))]
  | [], [], _, _ => by simp [mixL]
  | [], _ :: _, _, _ => by simp [mixL]
  | _ :: _, [], _, _ => by simp [mixL]
  | _ :: _, _ :: _, [], _ => by simp [mixL]
theorem mix_none {n : Nat} : ∀ (z f : List Value) (sts : List (Option Nat)), mixL (Array.replicate n false) z f sts = z
  | a :: z, b :: f, some st :: sts => by
    show (if (Array.replicate n false).getD st false = true then b else a) :: mixL _ z f sts = a :: z
    rw [mix_none z f sts, if_neg]
    simp only [Array.getD]
    split <;> simp
  | a :: z, _ :: f, none :: sts => by
    show a :: mixL _ z f sts = a :: z
    rw [mix_none z f sts]
  | [], [], _ => by simp [mixL]
  | [], _ :: _, _ => by simp [mixL]
  | _ :: _, [], _ => by simp [mixL]
  | _ :: _, _ :: _, [] => by simp [mixL]
theorem mix_empty : ∀ (z f : List Value) (sts : List (Option Nat)), mixL #[] z f sts = z
  | a :: z, b :: f, some st :: sts => by
    show (if (#[] : Array Bool).getD st false = true then b else a) :: mixL _ z f sts = a :: z
    rw [mix_empty z f sts, if_neg (by simp [Array.getD])]
  | a :: z, _ :: f, none :: sts => by
    show a :: mixL _ z f sts = a :: z
    rw [mix_empty z f sts]
  | [], [], _ => by simp [mixL]
  | [], _ :: _, _ => by simp [mixL]
  | _ :: _, [], _ => by simp [mixL]
  | _ :: _, _ :: _, [] => by simp [mixL]
def RK.holds (B : Nat) (listed : Array Bool) (v : Value) (W : World) : RK → Prop
  | .pure c => v = c
  | .row cs T n => ∃ G, v = .slice (some ⟨G, 0, none⟩) n n ∧ B ≤ G ∧ W.heap[G]? = some (.cells cs T (0, 0))
  | .box g z f T st => ∃ G, v = .pointer (some ⟨G, 0, none⟩) ∧ (∀ k, g = some k → G = k) ∧ B ≤ G ∧ W.heap[G]? = some (.cells (if listed.getD st false = true then f else z) T (0, 0))
  | .put _ => True
  | .free => True
  | .any R => R v W
  | .blk g z f sts T => ∃ G, v = .pointer (some ⟨G, 0, none⟩) ∧ (∀ k, g = some k → G = k) ∧ B ≤ G ∧ W.heap[G]? = some (.cells (mixL listed z f sts).toArray T (0, 0))
def RK.putsB : RK → Nat → Bool
  | .put al, j => al == j
  | _, _ => false
def RK.boxB (n : Nat) (ks : List RK) (j : Nat) : RK → Bool
  | .box _ _ _ _ st => decide (n ≤ st) || match ks[st]? with
    | some k => k.putsB j
    | none => false
  | .put _ => decide (j < n)
  | .blk _ _ _ sts _ => sts.all fun s => match s with
    | none => true
    | some st => match ks[st]? with
      | some k => k.putsB j
      | none => false
  | _ => true
/-- each variable's store is its own; what stands behind the first n are blocks from before -/
def okB (n : Nat) (ks : List RK) : Bool := (List.range ks.length).all fun j => match ks[j]? with
  | some k => k.boxB n ks j
  | none => true
def RK.lasts : RK → Prop
  | .any R => ∀ v W W', R v W → Below W.heap.size W W' → R v W'
  | _ => True

/-- nothing that only lasts, no block with several stores -/
def NoAny (ks : List RK) : Prop := (∀ (i : Nat) (R : Value → World → Prop), ks[i]? ≠ some (.any R)) ∧ ∀ (i : Nat) (g : Option Nat) (z f : List Value) (sts : List (Option Nat)) (T : TypeId), ks[i]? ≠ some (.blk g z f sts T)
theorem noAny_of {ks : List RK} (h : (ks.all fun k => !k.isAny) = true) : NoAny ks :=
  ⟨fun i R hi => (by have := List.all_eq_true.1 h _ (List.mem_of_getElem? hi); cases this), fun i g z f sts T hi => (by have := List.all_eq_true.1 h _ (List.mem_of_getElem? hi); cases this)⟩
theorem lasts_of' {ks : List RK} (h : ∀ (i : Nat) (R : Value → World → Prop), ks[i]? ≠ some (.any R)) : ∀ (i : Nat) (k : RK), ks[i]? = some k → k.lasts := by
  intro i k hi
  cases k with
  | any R => exact absurd hi (h i R)
  | pure v => trivial
  | row cs T n => trivial
  | box g z f T st => trivial
  | put al => trivial
  | free => trivial
  | blk g z f sts T => trivial
theorem lasts_of {ks : List RK} (h : NoAny ks) : ∀ (i : Nat) (k : RK), ks[i]? = some k → k.lasts := lasts_of' h.1
theorem okB_blk {n : Nat} {ks : List RK} (h : okB n ks = true) {j i : Nat} {g : Option Nat} {z f : List Value} {sts : List (Option Nat)} {T : TypeId} (hj : ks[j]? = some (.blk g z f sts T)) (hi : some i ∈ sts) : ks[i]? = some (.put j) := by
  have hlt := (List.getElem?_eq_some_iff.1 hj).1
  have := List.all_eq_true.1 h j (List.mem_range.2 hlt)
  rw [hj] at this
  have this := List.all_eq_true.1 this (some i) hi
  have this : (match ks[i]? with | some k => k.putsB j | none => false) = true := this
  cases hs : ks[i]? with
  | none => rw [hs] at this; cases this
  | some k =>
    rw [hs] at this
    cases k with
    | put al =>
      have e : (al == j) = true := this
      rw [beq_iff_eq.1 e]
    | pure v => cases this
    | row cs T n => cases this
    | box g z f T st => cases this
    | any R => cases this
    | free => cases this
    | blk g z f sts T => cases this
theorem okB_box {n : Nat} {ks : List RK} (h : okB n ks = true) {j : Nat} {z f : Array Value} {T : TypeId} {st : Nat} {g : Option Nat} (hj : ks[j]? = some (.box g z f T st)) : n ≤ st ∨ ks[st]? = some (.put j) := by
  have hlt := (List.getElem?_eq_some_iff.1 hj).1
  have := List.all_eq_true.1 h j (List.mem_range.2 hlt)
  rw [hj] at this
  have this : (decide (n ≤ st) || match ks[st]? with | some k => k.putsB j | none => false) = true := this
  rw [Bool.or_eq_true] at this
  rcases this with h | this
  · exact .inl (of_decide_eq_true h)
  right
  cases hs : ks[st]? with
  | none => rw [hs] at this; cases this
  | some k =>
    rw [hs] at this
    cases k with
    | put al =>
      have e : (al == j) = true := this
      rw [beq_iff_eq.1 e]
    | pure v => cases this
    | row cs T n => cases this
    | box g z f T st => cases this
    | any R => cases this
    | free => cases this
    | blk g z f sts T => cases this
theorem okB_put {n : Nat} {ks : List RK} (h : okB n ks = true) {j al : Nat} (hj : ks[j]? = some (.put al)) : j < n := by
  have hlt := (List.getElem?_eq_some_iff.1 hj).1
  have := List.all_eq_true.1 h j (List.mem_range.2 hlt)
  rw [hj] at this
  exact of_decide_eq_true this

/-- it has come up, or it was there before -/
def On (n : Nat) (listed : Array Bool) (i : Nat) : Prop := n ≤ i ∨ listed.getD i false = true
structure Fs (nd : Nat → Nat → Bool) (n : Nat) (ks : List RK) (w : World) (row : Option Nat) (listed : Array Bool) (vs : List Value) (W : World) : Prop where
  lsz : listed.size = n
  len : vs.length = ks.length
  low : w.grownBy W row
  get : ∀ i k, ks[i]? = some k → On n listed i → k.holds w.heap.size listed (vs.getD i undef) W
  ne : ∀ i j ki kj, i ≠ j → ks[i]? = some ki → ks[j]? = some kj → ki.owns = true → kj.owns = true → On n listed i → On n listed j → blkOf (vs.getD i undef) ≠ blkOf (vs.getD j undef)
  puts : ∀ i al, ks[i]? = some (.put al) → listed.getD i false = true → On n listed al
  back : ∀ i j, listed.getD i false = true → nd i j = true → listed.getD j false = true
theorem On.mono {n : Nat} {listed : Array Bool} {i j : Nat} (h : On n listed j) : On n (listed.setIfInBounds i true) j := h.imp id bit_mono
theorem On.of_set {n : Nat} {listed : Array Bool} {i j : Nat} (h : On n (listed.setIfInBounds i true) j) (hne : i ≠ j) : On n listed j := h.imp id fun h => by rwa [getD_set_ne false hne] at h

theorem getD_vset (vs : List Value) (i : Nat) (v d : Value) (hi : i < vs.length) : (vs.set i v).getD i d = v := by
  simp [List.getD, hi]
theorem getD_vset_ne {vs : List Value} {i j : Nat} {v d : Value} (h : i ≠ j) : (vs.set i v).getD j d = vs.getD j d := by
  simp [List.getD, List.getElem?_set_ne h]
theorem RK.blkAt {k : RK} {B : Nat} {listed : Array Bool} {v : Value} {W : World} (h : k.holds B listed v W) (ho : k.owns = true) : ∃ G, blkOf v = some G ∧ B ≤ G ∧ G < W.heap.size := by
  cases k with
  | row cs T n => obtain ⟨G, rfl, hB, hG⟩ := h; exact ⟨G, rfl, hB, heap_lt hG⟩
  | box g z f T st => obtain ⟨G, rfl, _, hB, hG⟩ := h; exact ⟨G, rfl, hB, heap_lt hG⟩
  | pure v => cases ho
  | put al => cases ho
  | free => cases ho
  | any R => cases ho
  | blk g z f sts T => obtain ⟨G, rfl, _, hB, hG⟩ := h; exact ⟨G, rfl, hB, heap_lt hG⟩

theorem back_set {nd : Nat → Nat → Bool} {listed : Array Bool} {i : Nat} (h : ∀ i j, listed.getD i false = true → nd i j = true → listed.getD j false = true) (hpre : ∀ j, nd i j = true → listed.getD j false = true) :
    ∀ a b, (listed.setIfInBounds i true).getD a false = true → nd a b = true → (listed.setIfInBounds i true).getD b false = true := by
  intro a b ha hn
  by_cases e : i = a
  · subst e; exact bit_mono (hpre b hn)
  · rw [getD_set_ne false e] at ha
    exact bit_mono (h a b ha hn)
theorem below_only {w W W' : World} {row : Option Nat} (h : w.grownBy W row) (hb : Below w.heap.size W W') : w.grownBy W' row :=
  ⟨hb.os.trans h.os, hb.tape.trans h.tape, hb.output.trans h.output, Nat.le_trans h.size hb.size, fun k hk hr => (hb.block k hk).trans (h.block k hk hr)⟩
/-- an operation that writes nothing that stood -/
theorem Fs.grow {nd : Nat → Nat → Bool} {n : Nat} {ks : List RK} {w : World} {row : Option Nat} {listed : Array Bool} {vs : List Value} {W W' : World} (hF : Fs nd n ks w row listed vs W) (hok : okB n ks = true) (hl : ∀ (i : Nat) (k : RK), ks[i]? = some k → k.lasts)
    {i : Nat} {k : RK} {v : Value} (hpre : ∀ j, nd i j = true → listed.getD j false = true) (hk : ks[i]? = some k) (hnp : ∀ al, k ≠ .put al) (hb : Below W.heap.size W W') (hv : k.holds w.heap.size (listed.setIfInBounds i true) v W')
    (hfresh : k.owns = true → ∃ G, blkOf v = some G ∧ W.heap.size ≤ G) : Fs nd n ks w row (listed.setIfInBounds i true) (vs.set i v) W' := by
  have hi : i < vs.length := by rw [hF.len]; exact (List.getElem?_eq_some_iff.1 hk).1
  refine ⟨by simpa using hF.lsz, by rw [List.length_set]; exact hF.len, only_trans hF.low (only_of_below hb row), ?_, ?_, ?_, back_set hF.back hpre⟩
  · intro j kj hj hlj
    by_cases e : i = j
    · subst e
      rw [hk] at hj
      cases hj
      rw [getD_vset _ _ _ _ hi]; exact hv
    · have hlj' := hlj.of_set e
      rw [getD_vset_ne e]
      have h := hF.get j kj hj hlj'
      cases kj with
      | pure c => exact h
      | row cs T n => obtain ⟨G, hG, hB, hh⟩ := h; exact ⟨G, hG, hB, keep_block hh hb⟩
      | box g z f T st =>
        obtain ⟨G, hG, hgg, hB, hh⟩ := h
        have hne : listed.getD st false = (listed.setIfInBounds i true).getD st false := by
          rcases okB_box hok hj with hst | hst
          · have h1 : ¬ st < listed.size := by rw [hF.lsz]; omega
            simp [h1]
          · have hne : i ≠ st := by
              rintro rfl
              rw [hk] at hst
              exact hnp j (Option.some.inj hst)
            rw [getD_set_ne false hne]
        refine ⟨G, hG, hgg, hB, ?_⟩
        rw [← hne]
        exact keep_block hh hb
      | put al => trivial
      | free => trivial
      | any R => exact hl j _ hj _ _ _ h hb
      | blk g z f sts T =>
        obtain ⟨G, hG, hgg, hB, hh⟩ := h
        refine ⟨G, hG, hgg, hB, ?_⟩
        rw [mix_ne z f sts (fun x hx => by
          rintro rfl
          have hst := okB_blk hok hj hx
          rw [hk] at hst
          exact hnp j (Option.some.inj hst))]
        exact keep_block hh hb
  · intro a b ka kb hab ha hb' oa ob la lb
    by_cases ea : i = a
    · subst ea
      rw [hk] at ha
      cases ha
      have lb' := lb.of_set hab
      rw [getD_vset _ _ _ _ hi, getD_vset_ne hab]
      obtain ⟨G, hG, hge⟩ := hfresh oa
      obtain ⟨G', hG', _, hlt⟩ := RK.blkAt (hF.get b kb hb' lb') ob
      rw [hG, hG']
      intro h
      have := Option.some.inj h
      omega
    · have la' := la.of_set ea
      rw [getD_vset_ne ea]
      by_cases eb : i = b
      · subst eb
        rw [hk] at hb'
        cases hb'
        rw [getD_vset _ _ _ _ hi]
        obtain ⟨G, hG, hge⟩ := hfresh ob
        obtain ⟨G', hG', _, hlt⟩ := RK.blkAt (hF.get a ka ha la') oa
        rw [hG, hG']
        intro h
        have := Option.some.inj h
        omega
      · rw [getD_vset_ne eb]
        exact hF.ne a b ka kb hab ha hb' oa ob la' (lb.of_set eb)
  · intro a al ha la
    by_cases ea : i = a
    · subst ea
      rw [hk] at ha
      exact absurd (Option.some.inj ha) (hnp al)
    · rw [getD_set_ne false ea] at la
      exact (hF.puts a al ha la).mono
section
variable {nd : Nat → Nat → Bool} {n : Nat} {ks : List RK} {w : World} {rr : Option Nat} {listed : Array Bool} {vs : List Value} {W W' : World} {i : Nat}
theorem Fs.pure (hF : Fs nd n ks w rr listed vs W) (hok : okB n ks = true) (hl : ∀ (i : Nat) (k : RK), ks[i]? = some k → k.lasts) (hpre : ∀ j, nd i j = true → listed.getD j false = true) {c : Value} (hk : ks[i]? = some (.pure c)) (hb : Below W.heap.size W W') : Fs nd n ks w rr (listed.setIfInBounds i true) (vs.set i c) W' :=
  hF.grow hok hl hpre hk (fun _ h => by cases h) hb rfl (fun h => by cases h)
theorem Fs.any (hF : Fs nd n ks w rr listed vs W) (hok : okB n ks = true) (hl : ∀ (i : Nat) (k : RK), ks[i]? = some k → k.lasts) (hpre : ∀ j, nd i j = true → listed.getD j false = true) {R : Value → World → Prop} (hk : ks[i]? = some (.any R)) {v : Value} (hb : Below W.heap.size W W') (hv : R v W') : Fs nd n ks w rr (listed.setIfInBounds i true) (vs.set i v) W' :=
  hF.grow hok hl hpre hk (fun _ h => by cases h) hb hv (fun h => by cases h)
theorem Fs.row (hF : Fs nd n ks w rr listed vs W) (hok : okB n ks = true) (hl : ∀ (i : Nat) (k : RK), ks[i]? = some k → k.lasts) (hpre : ∀ j, nd i j = true → listed.getD j false = true) {cs : Array Value} {T : TypeId} {m : Nat} (hk : ks[i]? = some (.row cs T m)) : Fs nd n ks w rr (listed.setIfInBounds i true) (vs.set i (.slice (some ⟨W.heap.size, 0, none⟩) m m)) (W.alloc (.cells cs T)) :=
  hF.grow hok hl hpre hk (fun _ h => by cases h) ((Below.refl _ _).alloc (Nat.le_refl _) _) ⟨_, rfl, hF.low.size, heap_alloc_new W _⟩ (fun _ => ⟨_, rfl, Nat.le_refl _⟩)
theorem Fs.box (hF : Fs nd n ks w rr listed vs W) (hok : okB n ks = true) (hl : ∀ (i : Nat) (k : RK), ks[i]? = some k → k.lasts) (hpre : ∀ j, nd i j = true → listed.getD j false = true) (hun : listed.getD i true = false) {z f : Array Value} {T : TypeId} {st : Nat} (hk : ks[i]? = some (.box none z f T st)) : Fs nd n ks w rr (listed.setIfInBounds i true) (vs.set i (.pointer (some ⟨W.heap.size, 0, none⟩))) (W.alloc (.cells z T)) := by
  have hin : i < listed.size := by
    rcases Nat.lt_or_ge i listed.size with h | h
    · exact h
    · simp [Array.getElem?_eq_none h] at hun
  have hoff : ¬ (listed.setIfInBounds i true).getD st false = true := by
    rcases okB_box hok hk with hst | hst
    · have h1 : ¬ st < listed.size := by rw [hF.lsz]; omega
      simp [h1]
    · have hne : i ≠ st := by
        rintro rfl
        rw [hk] at hst
        cases hst
      rw [getD_set_ne false hne]
      intro h
      rcases hF.puts st i hst h with h | h
      · have := hF.lsz; omega
      · exact bit_off hun h
  refine hF.grow hok hl hpre hk (fun _ h => by cases h) ((Below.refl _ _).alloc (Nat.le_refl _) _) ⟨_, rfl, fun _ h => (by cases h), hF.low.size, ?_⟩ (fun _ => ⟨_, rfl, Nat.le_refl _⟩)
  rw [if_neg hoff]
  exact heap_alloc_new W _
theorem Fs.put' (hF : Fs nd n ks w rr listed vs W) (hok : okB n ks = true) (hna : ∀ (i : Nat) (R : Value → World → Prop), ks[i]? ≠ some (.any R)) (hpre : ∀ j, nd i j = true → listed.getD j false = true) (hun : listed.getD i true = false) {al : Nat} (hk : ks[i]? = some (.put al)) {z f : Array Value} {T : TypeId} {G : Nat} {g : Option Nat} (v : Value)
    (hbox : ks[al]? = some (.box g z f T i)) (hal : On n listed al) (hG : vs.getD al undef = .pointer (some ⟨G, 0, none⟩)) (hnew : W'.heap[G]? = some (.cells f T (0, 0))) (hoth : ∀ k, k ≠ G → W'.heap[k]? = W.heap[k]?) (hb : Below w.heap.size W W') : Fs nd n ks w rr (listed.setIfInBounds i true) (vs.set i v) W' := by
  have hi : i < vs.length := by rw [hF.len]; exact (List.getElem?_eq_some_iff.1 hk).1
  have hin := okB_put hok hk
  have hia : i ≠ al := by
    rintro rfl
    rw [hk] at hbox
    cases hbox
  refine ⟨by simpa using hF.lsz, by rw [List.length_set]; exact hF.len, below_only hF.low hb, ?_, ?_, ?_, back_set hF.back hpre⟩
  · intro j kj hj hlj
    by_cases e : i = j
    · subst e
      rw [hk] at hj
      cases hj
      trivial
    · have hlj' := hlj.of_set e
      rw [getD_vset_ne e]
      have h := hF.get j kj hj hlj'
      have far : kj.owns = true → j ≠ al → ∀ G', blkOf (vs.getD j undef) = some G' → G' ≠ G := by
        intro o hja G' hG' e'
        have := hF.ne j al kj _ hja hj hbox o rfl hlj' hal
        rw [hG', hG, e'] at this
        exact this rfl
      cases kj with
      | pure c => exact h
      | row cs T' m =>
        obtain ⟨G', hG', hB, hh⟩ := h
        have hja : j ≠ al := by rintro rfl; rw [hj] at hbox; cases hbox
        have hne := far rfl hja G' (by rw [hG']; rfl)
        exact ⟨G', hG', hB, (hoth _ hne).trans hh⟩
      | box g' z' f' T' st =>
        obtain ⟨G', hG', hgg, hB, hh⟩ := h
        by_cases hja : j = al
        · subst hja
          rw [hbox] at hj
          cases hj
          rw [hG] at hG'
          have : G = G' := by
            have := congrArg blkOf hG'
            exact Option.some.inj this
          subst this
          refine ⟨G, hG, hgg, hB, ?_⟩
          rw [if_pos (bit_self hun)]
          exact hnew
        · have hne := far rfl hja G' (by rw [hG']; rfl)
          have hns : i ≠ st := by
            rintro rfl
            rcases okB_box hok hj with hst | hst
            · omega
            · rw [hk] at hst
              have := Option.some.inj hst
              injection this with this
              exact hja this.symm
          refine ⟨G', hG', hgg, hB, ?_⟩
          rw [getD_set_ne false hns]
          exact (hoth _ hne).trans hh
      | put _ => trivial
      | free => trivial
      | any R => exact absurd hj (hna j R)
      | blk g' z' f' sts' T' =>
        obtain ⟨G', hG', hgg, hB, hh⟩ := h
        have hja : j ≠ al := by rintro rfl; rw [hj] at hbox; cases hbox
        have hne := far rfl hja G' (by rw [hG']; rfl)
        refine ⟨G', hG', hgg, hB, ?_⟩
        rw [mix_ne z' f' sts' (fun x hx => by
          rintro rfl
          have hst := okB_blk hok hj hx
          rw [hk] at hst
          have := Option.some.inj hst
          injection this with this
          exact hja this.symm)]
        exact (hoth _ hne).trans hh
  · intro a b ka kb hab ha hb' oa ob la lb
    have ea : i ≠ a := by rintro rfl; rw [hk] at ha; cases ha; cases oa
    have eb : i ≠ b := by rintro rfl; rw [hk] at hb'; cases hb'; cases ob
    rw [getD_vset_ne ea, getD_vset_ne eb]
    exact hF.ne a b ka kb hab ha hb' oa ob (la.of_set ea) (lb.of_set eb)
  · intro a al' ha la
    by_cases ea : i = a
    · subst ea
      rw [hk] at ha
      have := Option.some.inj ha
      injection this with this
      subst this
      exact hal.mono
    · rw [getD_set_ne false ea] at la
      exact (hF.puts a al' ha la).mono
theorem Fs.put (hF : Fs nd n ks w rr listed vs W) (hok : okB n ks = true) (hna : NoAny ks) (hpre : ∀ j, nd i j = true → listed.getD j false = true) (hun : listed.getD i true = false) {al : Nat} (hk : ks[i]? = some (.put al)) {z f : Array Value} {T : TypeId} {G : Nat} {g : Option Nat} (v : Value)
    (hbox : ks[al]? = some (.box g z f T i)) (hal : On n listed al) (hG : vs.getD al undef = .pointer (some ⟨G, 0, none⟩)) (hnew : W'.heap[G]? = some (.cells f T (0, 0))) (hoth : ∀ k, k ≠ G → W'.heap[k]? = W.heap[k]?) (hb : Below w.heap.size W W') : Fs nd n ks w rr (listed.setIfInBounds i true) (vs.set i v) W' :=
  Fs.put' hF hok hna.1 hpre hun hk v hbox hal hG hnew hoth hb
/-- nothing has come up yet -/
theorem Fs.start (hlen : vs.length = ks.length) (hn : ks.length = n) : Fs nd n ks w rr (Array.replicate n false) vs w.drew :=
  ⟨by simp, hlen, only_of_below (Below.refl _ _).drew rr, fun i k hk h => absurd (h.resolve_left (by have := (List.getElem?_eq_some_iff.1 hk).1; omega)) bit_none, fun i _ k _ _ hk _ _ _ h => absurd (h.resolve_left (by have := (List.getElem?_eq_some_iff.1 hk).1; omega)) bit_none, fun _ _ _ h => absurd h bit_none, fun _ _ h => absurd h bit_none⟩
end

/-- the blocks from before hold what they hold, and are not one another -/
def Far (v : Value) : List RK → List Value → Prop
  | k :: ks, u :: vs => (k.owns = true → blkOf v ≠ blkOf u) ∧ Far v ks vs
  | _, _ => True
def Olds (B : Nat) (W : World) : List RK → List Value → Prop
  | k :: ks, v :: vs => k.holds B #[] v W ∧ (k.owns = true → Far v ks vs) ∧ Olds B W ks vs
  | _, _ => True
theorem far_get {v : Value} : ∀ {ks : List RK} {vs : List Value}, Far v ks vs → vs.length = ks.length → ∀ {i : Nat} {k : RK}, ks[i]? = some k → k.owns = true → blkOf v ≠ blkOf (vs.getD i undef)
  | k :: ks, u :: vs, h, hl, 0, k', hk, ho => by
    cases hk
    exact h.1 ho
  | k :: ks, u :: vs, h, hl, i + 1, k', hk, ho => by
    have := far_get (i := i) h.2 (by simpa using hl) (by simpa using hk) ho
    simpa using this
  | [], _, _, _, i, k', hk, _ => by simp at hk
theorem olds_get {B : Nat} {W : World} : ∀ {ks : List RK} {vs : List Value}, Olds B W ks vs → vs.length = ks.length → ∀ {i : Nat} {k : RK}, ks[i]? = some k → k.holds B #[] (vs.getD i undef) W
  | k :: ks, u :: vs, h, hl, 0, k', hk => by
    cases hk
    exact h.1
  | k :: ks, u :: vs, h, hl, i + 1, k', hk => by
    have := olds_get (i := i) h.2.2 (by simpa using hl) (by simpa using hk)
    simpa using this
  | [], _, _, _, i, k', hk => by simp at hk
theorem olds_ne {B : Nat} {W : World} : ∀ {ks : List RK} {vs : List Value}, Olds B W ks vs → vs.length = ks.length → ∀ {i j : Nat} {ki kj : RK}, i < j → ks[i]? = some ki → ks[j]? = some kj → ki.owns = true → kj.owns = true → blkOf (vs.getD i undef) ≠ blkOf (vs.getD j undef)
  | k :: ks, u :: vs, h, hl, 0, j + 1, ki, kj, hij, hi, hj, oi, oj => by
    cases hi
    have := far_get (h.2.1 oi) (by simpa using hl) (i := j) (by simpa using hj) oj
    simpa using this
  | k :: ks, u :: vs, h, hl, i + 1, j + 1, ki, kj, hij, hi, hj, oi, oj => by
    have := olds_ne (i := i) (j := j) h.2.2 (by simpa using hl) (by omega) (by simpa using hi) (by simpa using hj) oi oj
    simpa using this
  | [], _, _, _, i, j, ki, kj, _, hi, _, _, _ => by simp at hi
theorem holds_none {B n : Nat} {v : Value} {W : World} {k : RK} (h : k.holds B #[] v W) : k.holds B (Array.replicate n false) v W := by
  cases k with
  | box g z f T st =>
    obtain ⟨G, hG, hgg, hB, hh⟩ := h
    refine ⟨G, hG, hgg, hB, ?_⟩
    rw [if_neg bit_none]
    simpa using hh
  | pure c => exact h
  | row cs T m => exact h
  | put al => trivial
  | free => trivial
  | any R => exact h
  | blk g z f sts T =>
    obtain ⟨G, hG, hgg, hB, hh⟩ := h
    rw [mix_empty] at hh
    exact ⟨G, hG, hgg, hB, by rw [mix_none]; exact hh⟩
theorem Fs.start_olds {nd : Nat → Nat → Bool} {n : Nat} {ks : List RK} {w W : World} {row : Option Nat} {vs : List Value} (hl : ∀ (i : Nat) (k : RK), ks[i]? = some k → k.lasts) (hlen : vs.length = ks.length) (low : w.grownBy W row) (hO : Olds w.heap.size W (ks.drop n) (vs.drop n)) :
    Fs nd n ks w row (Array.replicate n false) vs W.drew := by
  have hlen' : (vs.drop n).length = (ks.drop n).length := by simp [hlen]
  have hk' : ∀ {i : Nat} {k : RK}, ks[i]? = some k → n ≤ i → (ks.drop n)[i - n]? = some k := by
    intro i k hk hi
    rw [List.getElem?_drop, show n + (i - n) = i by omega]; exact hk
  have hv' : ∀ {i : Nat}, n ≤ i → (vs.drop n).getD (i - n) undef = vs.getD i undef := by
    intro i hi
    simp only [List.getD, List.getElem?_drop]
    rw [show n + (i - n) = i by omega]
  refine ⟨by simp, hlen, below_only low (Below.refl _ _).drew, ?_, ?_, fun _ _ _ h => absurd h bit_none, fun _ _ h => absurd h bit_none⟩
  · intro i k hk h
    have hi := h.resolve_right bit_none
    have h1 := olds_get hO hlen' (hk' hk hi)
    rw [hv' hi] at h1
    have h2 : k.holds w.heap.size (Array.replicate n false) (vs.getD i undef) W := holds_none h1
    cases k with
    | any R => exact hl i _ hk _ _ _ h2 (Below.refl _ _).drew
    | pure c => exact h2
    | row cs T m => exact h2
    | box g z f T st => exact h2
    | blk g z f sts T => exact h2
    | put al => trivial
    | free => trivial
  · intro i j ki kj hij hi hj oi oj li lj
    have ni := li.resolve_right bit_none
    have nj := lj.resolve_right bit_none
    rcases Nat.lt_or_ge i j with h | h
    · have := olds_ne hO hlen' (show i - n < j - n by omega) (hk' hi ni) (hk' hj nj) oi oj
      rw [hv' ni, hv' nj] at this; exact this
    · have := olds_ne hO hlen' (show j - n < i - n by omega) (hk' hj nj) (hk' hi ni) oj oi
      rw [hv' ni, hv' nj] at this; exact fun e => this e.symm
theorem far_of {b c : Nat} {n : Nat} (h : b ≠ c) : blkOf (.pointer (some ⟨b, 0, none⟩)) ≠ blkOf (.pointer (some ⟨c, n, none⟩)) := fun e => h (Option.some.inj e)

/-- the slots laid anew, from what has come up -/
def layT : List (Option Nat) → List Value → Array Value → Array Value
  | some d :: sl, v :: vs, t => layT sl vs (t.setIfInBounds d v)
  | none :: sl, _ :: vs, t => layT sl vs t
  | _, _, t => t
theorem layT_some (d : Nat) (sl : List (Option Nat)) (v : Value) (vs : List Value) (t : Array Value) : layT (some d :: sl) (v :: vs) t = layT sl vs (t.setIfInBounds d v) := rfl
theorem layT_none (sl : List (Option Nat)) (v : Value) (vs : List Value) (t : Array Value) : layT (none :: sl) (v :: vs) t = layT sl vs t := rfl
theorem layT_nil (vs : List Value) (t : Array Value) : layT [] vs t = t := by cases vs <;> rfl
def putO (a : Act) (sl : List (Option Nat)) (vs : List Value) : Act := { a with tmps := layT sl vs a.tmps }

/-- operation i waits for operation j -/
def ndOf (ops : Array Oper) (i j : Nat) : Bool := (needs .any ops i).contains j
theorem wp_region_facts {P : Program} {ops : Array Oper} {Q : Exit → Act → World → Prop} {id : Nat} {a0 : Act} {w W0 : World} {row : Option Nat} (n : Nat) (ks : List RK) (slots : List (Option Nat)) (hm : P.follows .mixedOrders = true) (hb : backB ops = true) (hn : ops.size = n)
    (vs0 : List Value) (h00 : putO a0 slots vs0 = a0) (hF0 : Fs (ndOf ops) n ks w row (Array.replicate n false) vs0 W0.drew)
    (hstep : ∀ listed vs W, Fs (ndOf ops) n ks w row listed vs W → ∀ i, i < n → listed.getD i true = false → (∀ j, ndOf ops i j = true → listed.getD j false = true) → wpOp P ops Q i (fun a' W' => ∃ v, Fs (ndOf ops) n ks w row (listed.setIfInBounds i true) (vs.set i v) W' ∧ a' = putO a0 slots (vs.set i v)) (putO a0 slots vs) W)
    (hdone : ∀ listed vs W, Fs (ndOf ops) n ks w row listed vs W → (∀ j, j < n → listed.getD j false = true) → Q .normal (putO a0 slots vs) W) : (Code.region id ops true).wp P Q a0 W0 := by
  refine wp_region_inv hm (fun listed a W => ∃ vs, Fs (ndOf ops) n ks w row listed vs W ∧ a = putO a0 slots vs) ⟨vs0, by rw [hn]; exact hF0, h00.symm⟩ ?_ ?_
  · rintro listed a W ⟨vs, hF, rfl⟩ i o ho hun hpre
    refine wpOp_mono (fun a' w' h => ?_) (hstep listed vs W hF i (by rw [← hn]; exact (Array.getElem?_eq_some_iff.1 ho).1) hun ?_)
    · obtain ⟨v, hF', rfl⟩ := h
      exact ⟨_, hF', rfl⟩
    · intro j hj
      unfold ndOf needs at hj
      rw [ho] at hj
      simp only [List.contains_iff_mem, List.mem_map, List.mem_filter, Array.mem_toList_iff] at hj
      obtain ⟨e, ⟨he, hbd⟩, rfl⟩ := hj
      exact hpre e he hbd
  · rintro listed a W ⟨vs, hF, rfl⟩ hr
    exact hdone listed vs W hF (by rw [← hn]; exact all_listed (by rw [hF.lsz, hn]) hb hr)

/-- a list of known length, item by item -/
def ExL : Nat → (List Value → Prop) → Prop
  | 0, p => p []
  | n + 1, p => ∃ v, ExL n (fun l => p (v :: l))
theorem exl_of : ∀ (n : Nat) (vs : List Value) (p : List Value → Prop), vs.length = n → p vs → ExL n p
  | 0, [], _, _, h => h
  | n + 1, v :: l, p, h, hp => ⟨v, exl_of n l (fun l => p (v :: l)) (by simpa using h) hp⟩
theorem put2_below {B G : Nat} (h : B ≤ G) (W : World) (x y : Value) : Below B W ((W.setCell ⟨G, 0, none⟩ x).setCell ⟨G, 1, none⟩ y) :=
  ((Below.refl _ _).setCell (p := ⟨G, 0, none⟩) h x).setCell (p := ⟨G, 1, none⟩) h y
theorem put9_below {B G : Nat} (h : B ≤ G) (W : World) (x0 x1 x2 x3 x4 x5 x6 x7 x8 : Value) : Below B W (((((((((W.setCell ⟨G, 0, none⟩ x0).setCell ⟨G, 1, none⟩ x1).setCell ⟨G, 2, none⟩ x2).setCell ⟨G, 3, none⟩ x3).setCell ⟨G, 4, none⟩ x4).setCell ⟨G, 5, none⟩ x5).setCell ⟨G, 6, none⟩ x6).setCell ⟨G, 7, none⟩ x7).setCell ⟨G, 8, none⟩ x8) :=
  ((((((((((Below.refl _ _).setCell (p := ⟨G, 0, none⟩) h x0).setCell (p := ⟨G, 1, none⟩) h x1).setCell (p := ⟨G, 2, none⟩) h x2).setCell (p := ⟨G, 3, none⟩) h x3).setCell (p := ⟨G, 4, none⟩) h x4).setCell (p := ⟨G, 5, none⟩) h x5).setCell (p := ⟨G, 6, none⟩) h x6).setCell (p := ⟨G, 7, none⟩) h x7).setCell (p := ⟨G, 8, none⟩) h x8)
end Go.Proofs.YtgponoogifeopaaGreatDoor.Num

/- package fstat: its small functions over fractions. Conditions: nothing is too long. -/
namespace Go.Proofs.YtgponoogifeopaaGreatDoor.Num.Ft
open Go.RowKit Go.Lib Num

set_option maxHeartbeats 4000000 in
set_option maxRecDepth 100000 in
theorem s_add (p q : Rat) (w : World) (hp : fits p = true) (hq : fits q = true) (hr : fits (p + q) = true) (hE : Env w) : Calls Tryz.prog 183 #[fracV p, fracV q] w fun e w' => e = .returned (fracV (p + q)) ∧ Below w.heap.size w w' := by
  have T1 := Lib.hid (fun W g => add_any p q W hp hq g)
  have T2 := Lib.hid (fun W => must_ok (p + q) W)
  rw [wroteV_ok hr] at T1
  rw [fracV_is (p + q)] at T1 T2 ⊢
  rw [fracV_is p, fracV_is q] at T1 ⊢
  obtain ⟨_, _, hr', hb⟩ := three_new w (.cells #[.string (numS p), .string (denS p)] 24) (.cells #[.string (numS q), .string (denS q)] 24) (.cells #[.string { data := #[] }, .string { data := #[] }] 24)
  have HR := Lib.hid hr'
  have HL := Lib.hid hb
  have HE := Lib.hid (hE.below hb)
  clear hr' hb hE hp hq hr
  go_enter Tryz.func183, Tryz.ntmps183
  go_wp2_with fail
  refine (T1.out _ HE.out.tab).mono ?_
  rintro e W1 ⟨rfl, hb⟩
  replace HR := Lib.hid (keep_block HR.out hb)
  replace HL := Lib.hid (HL.out.trans (hb.mono HL.out.size))
  clear hb
  go_wp2_with fail
  refine (T2.out _).mono ?_
  rintro e W2 ⟨rfl, hb⟩
  replace HR := Lib.hid (keep_block HR.out hb)
  replace HL := Lib.hid (HL.out.trans (hb.mono HL.out.size))
  clear hb
  obtain ⟨⟨r0, r1⟩, rf0, rf1⟩ := two_at HR.out
  obtain ⟨nb, e0, e1⟩ := frac_end (x := .string (numS (p + q))) (y := .string (denS (p + q))) HR.out HL.out (by omega)
  go_wp2
  refine bodyPost_ret (v := .agg #[.string (numS (p + q)), .string (denS (p + q))]) (by simp [results, Tryz.results183, go_sem, e0, e1]) rfl ⟨rfl, nb⟩

set_option maxHeartbeats 4000000 in
set_option maxRecDepth 100000 in
theorem s_sub (p q : Rat) (w : World) (hp : fits p = true) (hq : fits q = true) (hr : fits (p - q) = true) (hE : Env w) : Calls Tryz.prog 188 #[fracV p, fracV q] w fun e w' => e = .returned (fracV (p - q)) ∧ Below w.heap.size w w' := by
  have T1 := Lib.hid (fun W g => sub_any p q W hp hq g)
  have T2 := Lib.hid (fun W => must_ok (p - q) W)
  rw [wroteV_ok hr] at T1
  rw [fracV_is (p - q)] at T1 T2 ⊢
  rw [fracV_is p, fracV_is q] at T1 ⊢
  obtain ⟨_, _, hr', hb⟩ := three_new w (.cells #[.string (numS p), .string (denS p)] 24) (.cells #[.string (numS q), .string (denS q)] 24) (.cells #[.string { data := #[] }, .string { data := #[] }] 24)
  have HR := Lib.hid hr'
  have HL := Lib.hid hb
  have HE := Lib.hid (hE.below hb)
  clear hr' hb hE hp hq hr
  go_enter Tryz.func188, Tryz.ntmps188
  go_wp2_with fail
  refine (T1.out _ HE.out.tab).mono ?_
  rintro e W1 ⟨rfl, hb⟩
  replace HR := Lib.hid (keep_block HR.out hb)
  replace HL := Lib.hid (HL.out.trans (hb.mono HL.out.size))
  clear hb
  go_wp2_with fail
  refine (T2.out _).mono ?_
  rintro e W2 ⟨rfl, hb⟩
  replace HR := Lib.hid (keep_block HR.out hb)
  replace HL := Lib.hid (HL.out.trans (hb.mono HL.out.size))
  clear hb
  obtain ⟨⟨r0, r1⟩, rf0, rf1⟩ := two_at HR.out
  obtain ⟨nb, e0, e1⟩ := frac_end (x := .string (numS (p - q))) (y := .string (denS (p - q))) HR.out HL.out (by omega)
  go_wp2
  refine bodyPost_ret (v := .agg #[.string (numS (p - q)), .string (denS (p - q))]) (by simp [results, Tryz.results188, go_sem, e0, e1]) rfl ⟨rfl, nb⟩

set_option maxHeartbeats 4000000 in
set_option maxRecDepth 100000 in
theorem s_mul (p q : Rat) (w : World) (hp : fits p = true) (hq : fits q = true) (hr : fits (p * q) = true) (hE : Env w) : Calls Tryz.prog 187 #[fracV p, fracV q] w fun e w' => e = .returned (fracV (p * q)) ∧ Below w.heap.size w w' := by
  have T1 := Lib.hid (fun W g => mul_any p q W hp hq g)
  have T2 := Lib.hid (fun W => must_ok (p * q) W)
  rw [wroteV_ok hr] at T1
  rw [fracV_is (p * q)] at T1 T2 ⊢
  rw [fracV_is p, fracV_is q] at T1 ⊢
  obtain ⟨_, _, hr', hb⟩ := three_new w (.cells #[.string (numS p), .string (denS p)] 24) (.cells #[.string (numS q), .string (denS q)] 24) (.cells #[.string { data := #[] }, .string { data := #[] }] 24)
  have HR := Lib.hid hr'
  have HL := Lib.hid hb
  have HE := Lib.hid (hE.below hb)
  clear hr' hb hE hp hq hr
  go_enter Tryz.func187, Tryz.ntmps187
  go_wp2_with fail
  refine (T1.out _ HE.out.tab).mono ?_
  rintro e W1 ⟨rfl, hb⟩
  replace HR := Lib.hid (keep_block HR.out hb)
  replace HL := Lib.hid (HL.out.trans (hb.mono HL.out.size))
  clear hb
  go_wp2_with fail
  refine (T2.out _).mono ?_
  rintro e W2 ⟨rfl, hb⟩
  replace HR := Lib.hid (keep_block HR.out hb)
  replace HL := Lib.hid (HL.out.trans (hb.mono HL.out.size))
  clear hb
  obtain ⟨⟨r0, r1⟩, rf0, rf1⟩ := two_at HR.out
  obtain ⟨nb, e0, e1⟩ := frac_end (x := .string (numS (p * q))) (y := .string (denS (p * q))) HR.out HL.out (by omega)
  go_wp2
  refine bodyPost_ret (v := .agg #[.string (numS (p * q)), .string (denS (p * q))]) (by simp [results, Tryz.results187, go_sem, e0, e1]) rfl ⟨rfl, nb⟩

end Go.Proofs.YtgponoogifeopaaGreatDoor.Num.Ft

/- package fstat: what a function gives at values. No conditions. -/
namespace Go.Proofs.YtgponoogifeopaaGreatDoor.Num.Ft
open Go.RowKit Go.Lib Num

abbrev EnvY (w : World) : Prop := Env w
theorem eqi {i k : Nat} (h : i < k + 1) (g : k ≤ i) : i = k := Nat.le_antisymm (Nat.le_of_lt_succ h) g
set_option linter.defProp false in
def layL := And.intro @layT_some (And.intro @layT_none (And.intro @layT_nil (And.intro (@List.setIfInBounds_toArray Value) (And.intro (@List.set_cons_zero Value) (@List.set_cons_succ Value)))))
theorem same_one (p : Rat) (W : World) : Calls Tryz.prog 8 #[.agg #[.int .i64 1, .string (numS p), .string (denS p), .string { data := #[] }, .bool false, .int .i64 0, .int .i64 0, .int .i64 0, .slice none 0 0], .agg #[.int .i64 1, .string (numS p), .string (denS p), .string { data := #[] }, .bool false, .int .i64 0, .int .i64 0, .int .i64 0, .slice none 0 0]] W fun e w' => e = .returned (.bool true) ∧ Below W.heap.size W w' := by
  refine (same_num p p W).mono ?_
  rintro e w' ⟨rfl, h⟩
  exact ⟨by rw [decide_eq_true rfl], h⟩
/-- what a function gives at values -/
def Fun1 (f : FuncId) (a v : Value) : Prop := ∀ W, EnvY W → Calls Tryz.prog f #[a] W fun e w' => e = .returned v ∧ Below W.heap.size W w'
def Fun2 (f : FuncId) (a b v : Value) : Prop := ∀ W, EnvY W → Calls Tryz.prog f #[a, b] W fun e w' => e = .returned v ∧ Below W.heap.size W w'
theorem f1 : fits (1 : Rat) = true := fits_int 1 (by decide)
theorem f0 : fits (0 : Rat) = true := fits_int 0 (by decide)
theorem c_add {p q r : Rat} (hp : fits p = true) (hq : fits q = true) (hr : fits r = true) (e : p + q = r) : Fun2 183 (fracV p) (fracV q) (fracV r) := fun W g => by
  subst e; exact s_add p q W hp hq hr g
theorem c_sub {p q r : Rat} (hp : fits p = true) (hq : fits q = true) (hr : fits r = true) (e : p - q = r) : Fun2 188 (fracV p) (fracV q) (fracV r) := fun W g => by
  subst e; exact s_sub p q W hp hq hr g
theorem c_mul {p q r : Rat} (hp : fits p = true) (hq : fits q = true) (hr : fits r = true) (e : p * q = r) : Fun2 187 (fracV p) (fracV q) (fracV r) := fun W g => by
  subst e; exact s_mul p q W hp hq hr g
theorem c_of {n : Int} (h : n.natAbs ≤ 1000000000) : Fun1 13 (.int .i64 n) (fracV ((n : Int) : Rat)) := fun W g => of_any n W (by omega) (by omega) g.tab
end Go.Proofs.YtgponoogifeopaaGreatDoor.Num.Ft
