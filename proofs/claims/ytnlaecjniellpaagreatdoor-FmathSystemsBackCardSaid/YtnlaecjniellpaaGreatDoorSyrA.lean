/- Numbers as texts of digits, fractions, values and the functions of fmath: contracts of the program's functions, joined from smaller texts. Conditions stand at each theorem. -/
import Derived.OrdersHeld
import Derived.Deep.RegionHeld3
import Derived.Test.YtnlaecjniellpaaGreatDoorNumH

/- A region that draws its order, by one condition on what has come up, the frame and the world: each operation is walked once. Plain: of no program. -/
set_option linter.unusedVariables false
set_option linter.unusedSimpArgs false
namespace Go.Proofs.YtnlaecjniellpaaGreatDoor.Num

section
variable {P : Program} {ops : Array Oper} {Q : Exit → Act → World → Prop} {md : Region.Mode}

def unl (ops : Array Oper) (listed : Array Bool) : List Nat := (List.range ops.size).filter fun j => !(listed.getD j true)
theorem unl_set {listed : Array Bool} {i : Nat} (hi : i < ops.size) (hun : listed.getD i true = false) : (unl ops (listed.setIfInBounds i true)).length < (unl ops listed).length := by
  have hsz : i < listed.size := by
    rcases Nat.lt_or_ge i listed.size with h | h
    · exact h
    · simp [Array.getElem?_eq_none h] at hun
  have e : unl ops (listed.setIfInBounds i true) = (unl ops listed).filter fun j => !(j == i) := by
    unfold unl
    rw [List.filter_filter]
    apply List.filter_congr
    intro j hj
    by_cases hji : i = j
    · subst hji; simp [hsz]
    · have : (j == i) = false := by simp; omega
      rw [getD_set_ne true hji, this]; simp
  rw [e, List.length_filter_lt_length_iff_exists]
  refine ⟨i, ?_, by simp⟩
  unfold unl
  rw [List.mem_filter, List.mem_range]
  exact ⟨hi, by rw [hun]; rfl⟩
theorem unl_ready {listed : Array Bool} {i : Nat} (h : i ∈ Region.ready md ops listed) : 0 < (unl ops listed).length := by
  obtain ⟨h0, o, ho, _⟩ := mem_ready.1 h
  have hi : i < ops.size := (Array.getElem?_eq_some_iff.1 ho).1
  refine List.length_pos_of_mem (a := i) ?_
  unfold unl
  rw [List.mem_filter, List.mem_range]
  exact ⟨hi, by rw [h0]; rfl⟩

theorem wpAny_inv (I : Array Bool → Act → World → Prop)
    (hstep : ∀ listed a w, I listed a w → ∀ i o, ops[i]? = some o → listed.getD i true = false → (∀ e ∈ o.after, Region.binds md e = true → listed.getD e.on false = true) → wpOp P ops Q i (fun a' w' => I (listed.setIfInBounds i true) a' w') a w)
    (hdone : ∀ listed a w, I listed a w → Region.ready md ops listed = [] → Q .normal a w) :
    ∀ fuel listed a w, (unl ops listed).length ≤ fuel → I listed a w → wpAny P md ops Q fuel listed a w := by
  intro fuel
  induction fuel with
  | zero =>
    intro listed a w hu hI
    have hr : Region.ready md ops listed = [] := by
      cases hr : Region.ready md ops listed with
      | nil => rfl
      | cons i r => have := unl_ready (md := md) (ops := ops) (listed := listed) (i := i) (by rw [hr]; simp); omega
    exact ⟨hr, hdone listed a w hI hr⟩
  | succ n ih =>
    intro listed a w hu hI
    refine ⟨fun hr => hdone listed a w hI hr, fun i hi => ?_⟩
    obtain ⟨h0, o, ho, hall⟩ := mem_ready.1 hi
    refine wpOp_mono (fun a' w' h => ih _ a' w' ?_ h) (hstep listed a w hI i o ho h0 hall)
    have := unl_set (ops := ops) (Array.getElem?_eq_some_iff.1 ho).1 h0
    omega

theorem wp_region_inv {id : Nat} {a : Act} {w : World} (hm : P.follows .mixedOrders = true) (I : Array Bool → Act → World → Prop)
    (h0 : I (Array.replicate ops.size false) a w.drew)
    (hstep : ∀ listed a w, I listed a w → ∀ i o, ops[i]? = some o → listed.getD i true = false → (∀ e ∈ o.after, Region.binds .any e = true → listed.getD e.on false = true) → wpOp P ops Q i (fun a' w' => I (listed.setIfInBounds i true) a' w') a w)
    (hdone : ∀ listed a w, I listed a w → Region.ready .any ops listed = [] → Q .normal a w) : (Code.region id ops true).wp P Q a w :=
  wp_region_any hm (wpAny_inv I hstep hdone _ _ _ _ (by
    unfold unl
    refine Nat.le_trans (List.length_filter_le _ _) ?_
    rw [List.length_range]; exact Nat.le_refl _) h0)

/-- the operations that number i waits for -/
def needs (md : Region.Mode) (ops : Array Oper) (i : Nat) : List Nat :=
  match ops[i]? with
  | some o => (o.after.toList.filter fun e => Region.binds md e).map (·.on)
  | none => []
/-- every edge leads back -/
def backB (ops : Array Oper) : Bool := (List.range ops.size).all fun i => match ops[i]? with
  | some o => o.after.toList.all fun e => !Region.binds .any e || decide (e.on < i)
  | none => true
theorem all_listed {listed : Array Bool} (hsz : listed.size = ops.size) (hb : backB ops = true) (hr : Region.ready .any ops listed = []) : ∀ j, j < ops.size → listed.getD j false = true := by
  intro j
  induction j using Nat.strongRecOn with
  | ind j ih =>
    intro hj
    cases hl : listed.getD j false with
    | true => rfl
    | false =>
      have hun : listed.getD j true = false := by
        have hj' : j < listed.size := by omega
        simp [hj'] at hl ⊢
        exact hl
      have ho : ops[j]? = some ops[j] := Array.getElem?_eq_getElem hj
      have hbj := List.all_eq_true.1 hb j (List.mem_range.2 hj)
      rw [ho] at hbj
      have : j ∈ Region.ready .any ops listed := mem_ready.2 ⟨hun, ops[j], ho, fun e he hbd => by
        have h1 := List.all_eq_true.1 hbj e (Array.mem_toList_iff.2 he)
        rw [hbd] at h1
        have := of_decide_eq_true h1
        exact ih e.on this (by omega)⟩
      rw [hr] at this
      cases this

/-- the frame with some slots laid anew -/
def putAll (a : Act) (slots : List Nat) (vs : List Value) : Act := { a with tmps := (slots.zip vs).foldl (fun t x => t.setIfInBounds x.1 x.2) a.tmps }
theorem wp_region_by {id : Nat} {a0 : Act} {w : World} (slots : List Nat) (J : Array Bool → List Value → World → Prop) (hm : P.follows .mixedOrders = true) (hb : backB ops = true)
    (vs0 : List Value) (h00 : putAll a0 slots vs0 = a0) (h0 : J (Array.replicate ops.size false) vs0 w.drew)
    (hstep : ∀ listed vs w, J listed vs w → ∀ i, i < ops.size → listed.getD i true = false → (∀ j, (needs .any ops i).contains j = true → listed.getD j false = true) → wpOp P ops Q i (fun a' w' => ∃ vs', J (listed.setIfInBounds i true) vs' w' ∧ a' = putAll a0 slots vs') (putAll a0 slots vs) w)
    (hdone : ∀ listed vs w, J listed vs w → (∀ j, j < ops.size → listed.getD j false = true) → Q .normal (putAll a0 slots vs) w) : (Code.region id ops true).wp P Q a0 w := by
  refine wp_region_inv hm (fun listed a w => listed.size = ops.size ∧ ∃ vs, J listed vs w ∧ a = putAll a0 slots vs) ⟨by simp, vs0, h0, h00.symm⟩ ?_ ?_
  · rintro listed a w ⟨hsz, vs, hJ, rfl⟩ i o ho hun hpre
    refine wpOp_mono (fun a' w' h => ⟨by simpa using hsz, h⟩) (hstep listed vs w hJ i (Array.getElem?_eq_some_iff.1 ho).1 hun ?_)
    intro j hj
    unfold needs at hj
    rw [ho] at hj
    simp only [List.contains_iff_mem, List.mem_map, List.mem_filter, Array.mem_toList_iff] at hj
    obtain ⟨e, ⟨he, hbd⟩, rfl⟩ := hj
    exact hpre e he hbd
  · rintro listed a w ⟨hsz, vs, hJ, rfl⟩ hr
    exact hdone listed vs w hJ (all_listed hsz hb hr)
theorem step_of {i : Nat} {K : Act → World → Prop} {a : Act} {w : World} (o : Oper) (ho : ops[i]? = some o)
    (h : ∀ K' : Act → World → Prop, Shut (∀ a w, K a w → K' a w) → if Region.wanted o (yielded ops a.tmps) = true then Oper.wp P o a w K' Q else K' (a.put o.dst undef) w) : wpOp P ops Q i K a w :=
  wpOp_step ho (fun K' hK => h K' hK)

theorem bit_mono {listed : Array Bool} {i j : Nat} (h : listed.getD j false = true) : (listed.setIfInBounds i true).getD j false = true := by
  by_cases e : i = j
  · subst e
    have hsz : i < listed.size := by
      rcases Nat.lt_or_ge i listed.size with h' | h'
      · exact h'
      · simp [Array.getElem?_eq_none h'] at h
    simp [hsz]
  · rwa [getD_set_ne false e]
theorem bit_off {listed : Array Bool} {i : Nat} (h : listed.getD i true = false) : ¬ listed.getD i false = true := by
  have hsz : i < listed.size := by
    rcases Nat.lt_or_ge i listed.size with h' | h'
    · exact h'
    · simp [Array.getElem?_eq_none h'] at h
  simp [hsz] at h ⊢
  exact h
theorem bit_none {n i : Nat} : ¬ (Array.replicate n false).getD i false = true := by
  simp [Array.getElem?_replicate]
  split <;> simp
theorem bit_if {listed : Array Bool} {i j : Nat} {α : Type} {x y : α} (h : i ≠ j) : (if (listed.setIfInBounds i true).getD j false then x else y) = if listed.getD j false then x else y := by
  rw [getD_set_ne false h]
theorem bit_set {listed : Array Bool} {i j : Nat} (h : (listed.setIfInBounds i true).getD j false = true) : j = i ∨ listed.getD j false = true := by
  by_cases e : i = j
  · exact .inl e.symm
  · exact .inr (by rwa [getD_set_ne false e] at h)
theorem bit_self {listed : Array Bool} {i : Nat} (h : listed.getD i true = false) : (listed.setIfInBounds i true).getD i false = true := by
  have hsz : i < listed.size := by
    rcases Nat.lt_or_ge i listed.size with h' | h'
    · exact h'
    · simp [Array.getElem?_eq_none h'] at h
  simp [hsz]
end
end Go.Proofs.YtnlaecjniellpaaGreatDoor.Num

/- A region that draws its order: what each operation yields is said once, each operation is walked once. Plain: of no program. -/
namespace Go.Proofs.YtnlaecjniellpaaGreatDoor.Num
open Go.RowKit Go.Lib

/-- what an operation yields: a known value; a row of its own; a variable of its own (zero, then what store number st writes); a store; anything that lasts; a block into which several stores write, each its own cells; what is said elsewhere -/
inductive RK where
  | pure (v : Value)
  | row (cs : Array Value) (T : TypeId) (n : Nat)
  | box (g : Option Nat) (z f : Array Value) (T : TypeId) (st : Nat)
  | put (al : Nat)
  | any (R : Value → World → Prop)
  | blk (g : Option Nat) (z f : List Value) (sts : List (Option Nat)) (T : TypeId)
  | free
def RK.owns : RK → Bool
  | .row .. => true
  | .box .. => true
  | .blk .. => true
  | _ => false
def RK.isAny : RK → Bool
  | .any _ => true
  | .blk .. => true
  | _ => false
def blkOf : Value → Option Nat
  | .pointer (some p) => some p.block
  | .slice (some p) _ _ => some p.block
  | _ => none
/-- cell by cell: what stood, or what its store wrote -/
def mixL (listed : Array Bool) : List Value → List Value → List (Option Nat) → List Value
  | a :: z, b :: f, some st :: sts => (if listed.getD st false = true then b else a) :: mixL listed z f sts
  | a :: z, _ :: f, none :: sts => a :: mixL listed z f sts
  | z, _, _ => z
theorem mix_ne {listed : Array Bool} {i : Nat} : ∀ (z f : List Value) (sts : List (Option Nat)), (∀ s ∈ sts, s ≠ some i) → mixL (listed.setIfInBounds i true) z f sts = mixL listed z f sts
  | a :: z, b :: f, some st :: sts, h => by
    have h1 : i ≠ st := fun e => h (some st) List.mem_cons_self (by rw [e])
    show (if (listed.setIfInBounds i true).getD st false = true then b else a) :: _ = (if listed.getD st false = true then b else a) :: _
    rw [getD_set_ne false h1, mix_ne z f sts (fun s hs => h s (List.mem_cons_of_mem _ hs))]
  | a :: z, _ :: f, none :: sts, h => by
    show a :: mixL _ z f sts = a :: mixL _ z f sts
    rw [mix_ne z f sts (fun s hs => h s (List.mem_cons_of_mem _ hs))]
  | [], [], _, _ => by simp [mixL]
  | [], _ :: _, _, _ => by simp [mixL]
  | _ :: _, [], _, _ => by simp [mixL]
  | _ :: _, _ :: _, [], _ => by simp [mixL]
theorem mix_none {n : Nat} : ∀ (z f : List Value) (sts : List (Option Nat)), mixL (Array.replicate n false) z f sts = z
  | a :: z, b :: f, some st :: sts => by
    show (if (Array.replicate n false).getD st false = true then b else a) :: mixL _ z f sts = a :: z
    rw [mix_none z f sts, if_neg]
    simp only [Array.getD]
    split <;> simp
  | a :: z, _ :: f, none :: sts => by
    show a :: mixL _ z f sts = a :: z
    rw [mix_none z f sts]
  | [], [], _ => by simp [mixL]
  | [], _ :: _, _ => by simp [mixL]
  | _ :: _, [], _ => by simp [mixL]
  | _ :: _, _ :: _, [] => by simp [mixL]
theorem mix_empty : ∀ (z f : List Value) (sts : List (Option Nat)), mixL #[] z f sts = z
  | a :: z, b :: f, some st :: sts => by
    show (if (#[] : Array Bool).getD st false = true then b else a) :: mixL _ z f sts = a :: z
    rw [mix_empty z f sts, if_neg (by simp [Array.getD])]
  | a :: z, _ :: f, none :: sts => by
    show a :: mixL _ z f sts = a :: z
    rw [mix_empty z f sts]
  | [], [], _ => by simp [mixL]
  | [], _ :: _, _ => by simp [mixL]
  | _ :: _, [], _ => by simp [mixL]
  | _ :: _, _ :: _, [] => by simp [mixL]
def RK.holds (B : Nat) (listed : Array Bool) (v : Value) (W : World) : RK → Prop
  | .pure c => v = c
  | .row cs T n => ∃ G, v = .slice (some ⟨G, 0, none⟩) n n ∧ B ≤ G ∧ W.heap[G]? = some (.cells cs T (0, 0))
  | .box g z f T st => ∃ G, v = .pointer (some ⟨G, 0, none⟩) ∧ (∀ k, g = some k → G = k) ∧ B ≤ G ∧ W.heap[G]? = some (.cells (if listed.getD st false = true then f else z) T (0, 0))
  | .put _ => True
  | .free => True
  | .any R => R v W
  | .blk g z f sts T => ∃ G, v = .pointer (some ⟨G, 0, none⟩) ∧ (∀ k, g = some k → G = k) ∧ B ≤ G ∧ W.heap[G]? = some (.cells (mixL listed z f sts).toArray T (0, 0))
def RK.putsB : RK → Nat → Bool
  | .put al, j => al == j
  | _, _ => false
def RK.boxB (n : Nat) (ks : List RK) (j : Nat) : RK → Bool
  | .box _ _ _ _ st => decide (n ≤ st) || match ks[st]? with
    | some k => k.putsB j
    | none => false
  | .put _ => decide (j < n)
  | .blk _ _ _ sts _ => sts.all fun s => match s with
    | none => true
    | some st => match ks[st]? with
      | some k => k.putsB j
      | none => false
  | _ => true
/-- each variable's store is its own; what stands behind the first n are blocks from before -/
def okB (n : Nat) (ks : List RK) : Bool := (List.range ks.length).all fun j => match ks[j]? with
  | some k => k.boxB n ks j
  | none => true
def RK.lasts : RK → Prop
  | .any R => ∀ v W W', R v W → Below W.heap.size W W' → R v W'
  | _ => True

/-- nothing that only lasts, no block with several stores -/
def NoAny (ks : List RK) : Prop := (∀ (i : Nat) (R : Value → World → Prop), ks[i]? ≠ some (.any R)) ∧ ∀ (i : Nat) (g : Option Nat) (z f : List Value) (sts : List (Option Nat)) (T : TypeId), ks[i]? ≠ some (.blk g z f sts T)
theorem noAny_of {ks : List RK} (h : (ks.all fun k => !k.isAny) = true) : NoAny ks :=
  ⟨fun i R hi => (by have := List.all_eq_true.1 h _ (List.mem_of_getElem? hi); cases this), fun i g z f sts T hi => (by have := List.all_eq_true.1 h _ (List.mem_of_getElem? hi); cases this)⟩
theorem lasts_of' {ks : List RK} (h : ∀ (i : Nat) (R : Value → World → Prop), ks[i]? ≠ some (.any R)) : ∀ (i : Nat) (k : RK), ks[i]? = some k → k.lasts := by
  intro i k hi
  cases k with
  | any R => exact absurd hi (h i R)
  | pure v => trivial
  | row cs T n => trivial
  | box g z f T st => trivial
  | put al => trivial
  | free => trivial
  | blk g z f sts T => trivial
theorem lasts_of {ks : List RK} (h : NoAny ks) : ∀ (i : Nat) (k : RK), ks[i]? = some k → k.lasts := lasts_of' h.1
/-- blocks with several stores may be among them -/
def RK.isAny1 : RK → Bool
  | .any _ => true
  | _ => false
theorem noAny1_of {ks : List RK} (h : (ks.all fun k => !k.isAny1) = true) : ∀ (i : Nat) (R : Value → World → Prop), ks[i]? ≠ some (.any R) := by
  intro i R hi
  have := List.all_eq_true.1 h _ (List.mem_of_getElem? hi)
  cases this
theorem okB_blk {n : Nat} {ks : List RK} (h : okB n ks = true) {j i : Nat} {g : Option Nat} {z f : List Value} {sts : List (Option Nat)} {T : TypeId} (hj : ks[j]? = some (.blk g z f sts T)) (hi : some i ∈ sts) : ks[i]? = some (.put j) := by
  have hlt := (List.getElem?_eq_some_iff.1 hj).1
  have := List.all_eq_true.1 h j (List.mem_range.2 hlt)
  rw [hj] at this
  have this := List.all_eq_true.1 this (some i) hi
  have this : (match ks[i]? with | some k => k.putsB j | none => false) = true := this
  cases hs : ks[i]? with
  | none => rw [hs] at this; cases this
  | some k =>
    rw [hs] at this
    cases k with
    | put al =>
      have e : (al == j) = true := this
      rw [beq_iff_eq.1 e]
    | pure v => cases this
    | row cs T n => cases this
    | box g z f T st => cases this
    | any R => cases this
    | free => cases this
    | blk g z f sts T => cases this
theorem okB_box {n : Nat} {ks : List RK} (h : okB n ks = true) {j : Nat} {z f : Array Value} {T : TypeId} {st : Nat} {g : Option Nat} (hj : ks[j]? = some (.box g z f T st)) : n ≤ st ∨ ks[st]? = some (.put j) := by
  have hlt := (List.getElem?_eq_some_iff.1 hj).1
  have := List.all_eq_true.1 h j (List.mem_range.2 hlt)
  rw [hj] at this
  have this : (decide (n ≤ st) || match ks[st]? with | some k => k.putsB j | none => false) = true := this
  rw [Bool.or_eq_true] at this
  rcases this with h | this
  · exact .inl (of_decide_eq_true h)
  right
  cases hs : ks[st]? with
  | none => rw [hs] at this; cases this
  | some k =>
    rw [hs] at this
    cases k with
    | put al =>
      have e : (al == j) = true := this
      rw [beq_iff_eq.1 e]
    | pure v => cases this
    | row cs T n => cases this
    | box g z f T st => cases this
    | any R => cases this
    | free => cases this
    | blk g z f sts T => cases this
theorem okB_put {n : Nat} {ks : List RK} (h : okB n ks = true) {j al : Nat} (hj : ks[j]? = some (.put al)) : j < n := by
  have hlt := (List.getElem?_eq_some_iff.1 hj).1
  have := List.all_eq_true.1 h j (List.mem_range.2 hlt)
  rw [hj] at this
  exact of_decide_eq_true this

/-- it has come up, or it was there before -/
def On (n : Nat) (listed : Array Bool) (i : Nat) : Prop := n ≤ i ∨ listed.getD i false = true
structure Fs (nd : Nat → Nat → Bool) (n : Nat) (ks : List RK) (w : World) (row : Option Nat) (listed : Array Bool) (vs : List Value) (W : World) : Prop where
  lsz : listed.size = n
  len : vs.length = ks.length
  low : w.grownBy W row
  get : ∀ i k, ks[i]? = some k → On n listed i → k.holds w.heap.size listed (vs.getD i undef) W
  ne : ∀ i j ki kj, i ≠ j → ks[i]? = some ki → ks[j]? = some kj → ki.owns = true → kj.owns = true → On n listed i → On n listed j → blkOf (vs.getD i undef) ≠ blkOf (vs.getD j undef)
  puts : ∀ i al, ks[i]? = some (.put al) → listed.getD i false = true → On n listed al
  back : ∀ i j, listed.getD i false = true → nd i j = true → listed.getD j false = true
theorem On.mono {n : Nat} {listed : Array Bool} {i j : Nat} (h : On n listed j) : On n (listed.setIfInBounds i true) j := h.imp id bit_mono
theorem On.of_set {n : Nat} {listed : Array Bool} {i j : Nat} (h : On n (listed.setIfInBounds i true) j) (hne : i ≠ j) : On n listed j := h.imp id fun h => by rwa [getD_set_ne false hne] at h

theorem getD_vset (vs : List Value) (i : Nat) (v d : Value) (hi : i < vs.length) : (vs.set i v).getD i d = v := by
  simp [List.getD, hi]
theorem getD_vset_ne {vs : List Value} {i j : Nat} {v d : Value} (h : i ≠ j) : (vs.set i v).getD j d = vs.getD j d := by
  simp [List.getD, List.getElem?_set_ne h]
theorem RK.blkAt {k : RK} {B : Nat} {listed : Array Bool} {v : Value} {W : World} (h : k.holds B listed v W) (ho : k.owns = true) : ∃ G, blkOf v = some G ∧ B ≤ G ∧ G < W.heap.size := by
  cases k with
  | row cs T n => obtain ⟨G, rfl, hB, hG⟩ := h; exact ⟨G, rfl, hB, heap_lt hG⟩
  | box g z f T st => obtain ⟨G, rfl, _, hB, hG⟩ := h; exact ⟨G, rfl, hB, heap_lt hG⟩
  | pure v => cases ho
  | put al => cases ho
  | free => cases ho
  | any R => cases ho
  | blk g z f sts T => obtain ⟨G, rfl, _, hB, hG⟩ := h; exact ⟨G, rfl, hB, heap_lt hG⟩

theorem back_set {nd : Nat → Nat → Bool} {listed : Array Bool} {i : Nat} (h : ∀ i j, listed.getD i false = true → nd i j = true → listed.getD j false = true) (hpre : ∀ j, nd i j = true → listed.getD j false = true) :
    ∀ a b, (listed.setIfInBounds i true).getD a false = true → nd a b = true → (listed.setIfInBounds i true).getD b false = true := by
  intro a b ha hn
  by_cases e : i = a
  · subst e; exact bit_mono (hpre b hn)
  · rw [getD_set_ne false e] at ha
    exact bit_mono (h a b ha hn)
theorem below_only {w W W' : World} {row : Option Nat} (h : w.grownBy W row) (hb : Below w.heap.size W W') : w.grownBy W' row :=
  ⟨hb.os.trans h.os, hb.tape.trans h.tape, hb.output.trans h.output, Nat.le_trans h.size hb.size, fun k hk hr => (hb.block k hk).trans (h.block k hk hr)⟩
/-- an operation that writes nothing that stood -/
theorem Fs.grow {nd : Nat → Nat → Bool} {n : Nat} {ks : List RK} {w : World} {row : Option Nat} {listed : Array Bool} {vs : List Value} {W W' : World} (hF : Fs nd n ks w row listed vs W) (hok : okB n ks = true) (hl : ∀ (i : Nat) (k : RK), ks[i]? = some k → k.lasts)
    {i : Nat} {k : RK} {v : Value} (hpre : ∀ j, nd i j = true → listed.getD j false = true) (hk : ks[i]? = some k) (hnp : ∀ al, k ≠ .put al) (hb : Below W.heap.size W W') (hv : k.holds w.heap.size (listed.setIfInBounds i true) v W')
    (hfresh : k.owns = true → ∃ G, blkOf v = some G ∧ W.heap.size ≤ G) : Fs nd n ks w row (listed.setIfInBounds i true) (vs.set i v) W' := by
  have hi : i < vs.length := by rw [hF.len]; exact (List.getElem?_eq_some_iff.1 hk).1
  refine ⟨by simpa using hF.lsz, by rw [List.length_set]; exact hF.len, only_trans hF.low (only_of_below hb row), ?_, ?_, ?_, back_set hF.back hpre⟩
  · intro j kj hj hlj
    by_cases e : i = j
    · subst e
      rw [hk] at hj
      cases hj
      rw [getD_vset _ _ _ _ hi]; exact hv
    · have hlj' := hlj.of_set e
      rw [getD_vset_ne e]
      have h := hF.get j kj hj hlj'
      cases kj with
      | pure c => exact h
      | row cs T n => obtain ⟨G, hG, hB, hh⟩ := h; exact ⟨G, hG, hB, keep_block hh hb⟩
      | box g z f T st =>
        obtain ⟨G, hG, hgg, hB, hh⟩ := h
        have hne : listed.getD st false = (listed.setIfInBounds i true).getD st false := by
          rcases okB_box hok hj with hst | hst
          · have h1 : ¬ st < listed.size := by rw [hF.lsz]; omega
            simp [h1]
          · have hne : i ≠ st := by
              rintro rfl
              rw [hk] at hst
              exact hnp j (Option.some.inj hst)
            rw [getD_set_ne false hne]
        refine ⟨G, hG, hgg, hB, ?_⟩
        rw [← hne]
        exact keep_block hh hb
      | put al => trivial
      | free => trivial
      | any R => exact hl j _ hj _ _ _ h hb
      | blk g z f sts T =>
        obtain ⟨G, hG, hgg, hB, hh⟩ := h
        refine ⟨G, hG, hgg, hB, ?_⟩
        rw [mix_ne z f sts (fun x hx => by
          rintro rfl
          have hst := okB_blk hok hj hx
          rw [hk] at hst
          exact hnp j (Option.some.inj hst))]
        exact keep_block hh hb
  · intro a b ka kb hab ha hb' oa ob la lb
    by_cases ea : i = a
    · subst ea
      rw [hk] at ha
      cases ha
      have lb' := lb.of_set hab
      rw [getD_vset _ _ _ _ hi, getD_vset_ne hab]
      obtain ⟨G, hG, hge⟩ := hfresh oa
      obtain ⟨G', hG', _, hlt⟩ := RK.blkAt (hF.get b kb hb' lb') ob
      rw [hG, hG']
      intro h
      have := Option.some.inj h
      omega
    · have la' := la.of_set ea
      rw [getD_vset_ne ea]
      by_cases eb : i = b
      · subst eb
        rw [hk] at hb'
        cases hb'
        rw [getD_vset _ _ _ _ hi]
        obtain ⟨G, hG, hge⟩ := hfresh ob
        obtain ⟨G', hG', _, hlt⟩ := RK.blkAt (hF.get a ka ha la') oa
        rw [hG, hG']
        intro h
        have := Option.some.inj h
        omega
      · rw [getD_vset_ne eb]
        exact hF.ne a b ka kb hab ha hb' oa ob la' (lb.of_set eb)
  · intro a al ha la
    by_cases ea : i = a
    · subst ea
      rw [hk] at ha
      exact absurd (Option.some.inj ha) (hnp al)
    · rw [getD_set_ne false ea] at la
      exact (hF.puts a al ha la).mono
section
variable {nd : Nat → Nat → Bool} {n : Nat} {ks : List RK} {w : World} {rr : Option Nat} {listed : Array Bool} {vs : List Value} {W W' : World} {i : Nat}
theorem Fs.pure (hF : Fs nd n ks w rr listed vs W) (hok : okB n ks = true) (hl : ∀ (i : Nat) (k : RK), ks[i]? = some k → k.lasts) (hpre : ∀ j, nd i j = true → listed.getD j false = true) {c : Value} (hk : ks[i]? = some (.pure c)) (hb : Below W.heap.size W W') : Fs nd n ks w rr (listed.setIfInBounds i true) (vs.set i c) W' :=
  hF.grow hok hl hpre hk (fun _ h => by cases h) hb rfl (fun h => by cases h)
theorem Fs.any (hF : Fs nd n ks w rr listed vs W) (hok : okB n ks = true) (hl : ∀ (i : Nat) (k : RK), ks[i]? = some k → k.lasts) (hpre : ∀ j, nd i j = true → listed.getD j false = true) {R : Value → World → Prop} (hk : ks[i]? = some (.any R)) {v : Value} (hb : Below W.heap.size W W') (hv : R v W') : Fs nd n ks w rr (listed.setIfInBounds i true) (vs.set i v) W' :=
  hF.grow hok hl hpre hk (fun _ h => by cases h) hb hv (fun h => by cases h)
theorem Fs.row (hF : Fs nd n ks w rr listed vs W) (hok : okB n ks = true) (hl : ∀ (i : Nat) (k : RK), ks[i]? = some k → k.lasts) (hpre : ∀ j, nd i j = true → listed.getD j false = true) {cs : Array Value} {T : TypeId} {m : Nat} (hk : ks[i]? = some (.row cs T m)) : Fs nd n ks w rr (listed.setIfInBounds i true) (vs.set i (.slice (some ⟨W.heap.size, 0, none⟩) m m)) (W.alloc (.cells cs T)) :=
  hF.grow hok hl hpre hk (fun _ h => by cases h) ((Below.refl _ _).alloc (Nat.le_refl _) _) ⟨_, rfl, hF.low.size, heap_alloc_new W _⟩ (fun _ => ⟨_, rfl, Nat.le_refl _⟩)
theorem Fs.box (hF : Fs nd n ks w rr listed vs W) (hok : okB n ks = true) (hl : ∀ (i : Nat) (k : RK), ks[i]? = some k → k.lasts) (hpre : ∀ j, nd i j = true → listed.getD j false = true) (hun : listed.getD i true = false) {z f : Array Value} {T : TypeId} {st : Nat} (hk : ks[i]? = some (.box none z f T st)) : Fs nd n ks w rr (listed.setIfInBounds i true) (vs.set i (.pointer (some ⟨W.heap.size, 0, none⟩))) (W.alloc (.cells z T)) := by
  have hin : i < listed.size := by
    rcases Nat.lt_or_ge i listed.size with h | h
    · exact h
    · simp [Array.getElem?_eq_none h] at hun
  have hoff : ¬ (listed.setIfInBounds i true).getD st false = true := by
    rcases okB_box hok hk with hst | hst
    · have h1 : ¬ st < listed.size := by rw [hF.lsz]; omega
      simp [h1]
    · have hne : i ≠ st := by
        rintro rfl
        rw [hk] at hst
        cases hst
      rw [getD_set_ne false hne]
      intro h
      rcases hF.puts st i hst h with h | h
      · have := hF.lsz; omega
      · exact bit_off hun h
  refine hF.grow hok hl hpre hk (fun _ h => by cases h) ((Below.refl _ _).alloc (Nat.le_refl _) _) ⟨_, rfl, fun _ h => (by cases h), hF.low.size, ?_⟩ (fun _ => ⟨_, rfl, Nat.le_refl _⟩)
  rw [if_neg hoff]
  exact heap_alloc_new W _
theorem Fs.put' (hF : Fs nd n ks w rr listed vs W) (hok : okB n ks = true) (hna : ∀ (i : Nat) (R : Value → World → Prop), ks[i]? ≠ some (.any R)) (hpre : ∀ j, nd i j = true → listed.getD j false = true) (hun : listed.getD i true = false) {al : Nat} (hk : ks[i]? = some (.put al)) {z f : Array Value} {T : TypeId} {G : Nat} {g : Option Nat} (v : Value)
    (hbox : ks[al]? = some (.box g z f T i)) (hal : On n listed al) (hG : vs.getD al undef = .pointer (some ⟨G, 0, none⟩)) (hnew : W'.heap[G]? = some (.cells f T (0, 0))) (hoth : ∀ k, k ≠ G → W'.heap[k]? = W.heap[k]?) (hb : Below w.heap.size W W') : Fs nd n ks w rr (listed.setIfInBounds i true) (vs.set i v) W' := by
  have hi : i < vs.length := by rw [hF.len]; exact (List.getElem?_eq_some_iff.1 hk).1
  have hin := okB_put hok hk
  have hia : i ≠ al := by
    rintro rfl
    rw [hk] at hbox
    cases hbox
  refine ⟨by simpa using hF.lsz, by rw [List.length_set]; exact hF.len, below_only hF.low hb, ?_, ?_, ?_, back_set hF.back hpre⟩
  · intro j kj hj hlj
    by_cases e : i = j
    · subst e
      rw [hk] at hj
      cases hj
      trivial
    · have hlj' := hlj.of_set e
      rw [getD_vset_ne e]
      have h := hF.get j kj hj hlj'
      have far : kj.owns = true → j ≠ al → ∀ G', blkOf (vs.getD j undef) = some G' → G' ≠ G := by
        intro o hja G' hG' e'
        have := hF.ne j al kj _ hja hj hbox o rfl hlj' hal
        rw [hG', hG, e'] at this
        exact this rfl
      cases kj with
      | pure c => exact h
      | row cs T' m =>
        obtain ⟨G', hG', hB, hh⟩ := h
        have hja : j ≠ al := by rintro rfl; rw [hj] at hbox; cases hbox
        have hne := far rfl hja G' (by rw [hG']; rfl)
        exact ⟨G', hG', hB, (hoth _ hne).trans hh⟩
      | box g' z' f' T' st =>
        obtain ⟨G', hG', hgg, hB, hh⟩ := h
        by_cases hja : j = al
        · subst hja
          rw [hbox] at hj
          cases hj
          rw [hG] at hG'
          have : G = G' := by
            have := congrArg blkOf hG'
            exact Option.some.inj this
          subst this
          refine ⟨G, hG, hgg, hB, ?_⟩
          rw [if_pos (bit_self hun)]
          exact hnew
        · have hne := far rfl hja G' (by rw [hG']; rfl)
          have hns : i ≠ st := by
            rintro rfl
            rcases okB_box hok hj with hst | hst
            · omega
            · rw [hk] at hst
              have := Option.some.inj hst
              injection this with this
              exact hja this.symm
          refine ⟨G', hG', hgg, hB, ?_⟩
          rw [getD_set_ne false hns]
          exact (hoth _ hne).trans hh
      | put _ => trivial
      | free => trivial
      | any R => exact absurd hj (hna j R)
      | blk g' z' f' sts' T' =>
        obtain ⟨G', hG', hgg, hB, hh⟩ := h
        have hja : j ≠ al := by rintro rfl; rw [hj] at hbox; cases hbox
        have hne := far rfl hja G' (by rw [hG']; rfl)
        refine ⟨G', hG', hgg, hB, ?_⟩
        rw [mix_ne z' f' sts' (fun x hx => by
          rintro rfl
          have hst := okB_blk hok hj hx
          rw [hk] at hst
          have := Option.some.inj hst
          injection this with this
          exact hja this.symm)]
        exact (hoth _ hne).trans hh
  · intro a b ka kb hab ha hb' oa ob la lb
    have ea : i ≠ a := by rintro rfl; rw [hk] at ha; cases ha; cases oa
    have eb : i ≠ b := by rintro rfl; rw [hk] at hb'; cases hb'; cases ob
    rw [getD_vset_ne ea, getD_vset_ne eb]
    exact hF.ne a b ka kb hab ha hb' oa ob (la.of_set ea) (lb.of_set eb)
  · intro a al' ha la
    by_cases ea : i = a
    · subst ea
      rw [hk] at ha
      have := Option.some.inj ha
      injection this with this
      subst this
      exact hal.mono
    · rw [getD_set_ne false ea] at la
      exact (hF.puts a al' ha la).mono
theorem Fs.put (hF : Fs nd n ks w rr listed vs W) (hok : okB n ks = true) (hna : NoAny ks) (hpre : ∀ j, nd i j = true → listed.getD j false = true) (hun : listed.getD i true = false) {al : Nat} (hk : ks[i]? = some (.put al)) {z f : Array Value} {T : TypeId} {G : Nat} {g : Option Nat} (v : Value)
    (hbox : ks[al]? = some (.box g z f T i)) (hal : On n listed al) (hG : vs.getD al undef = .pointer (some ⟨G, 0, none⟩)) (hnew : W'.heap[G]? = some (.cells f T (0, 0))) (hoth : ∀ k, k ≠ G → W'.heap[k]? = W.heap[k]?) (hb : Below w.heap.size W W') : Fs nd n ks w rr (listed.setIfInBounds i true) (vs.set i v) W' :=
  Fs.put' hF hok hna.1 hpre hun hk v hbox hal hG hnew hoth hb
/-- a store into a block with several stores -/
theorem Fs.putb (hF : Fs nd n ks w rr listed vs W) (hok : okB n ks = true) (hna : ∀ (i : Nat) (R : Value → World → Prop), ks[i]? ≠ some (.any R)) (hpre : ∀ j, nd i j = true → listed.getD j false = true) {al : Nat} (hk : ks[i]? = some (.put al)) {z f : List Value} {sts : List (Option Nat)} {T : TypeId} {G : Nat} {g : Option Nat} (v : Value)
    (hblk : ks[al]? = some (.blk g z f sts T)) (hal : On n listed al) (hG : vs.getD al undef = .pointer (some ⟨G, 0, none⟩)) (hnew : W'.heap[G]? = some (.cells (mixL (listed.setIfInBounds i true) z f sts).toArray T (0, 0))) (hoth : ∀ k, k ≠ G → W'.heap[k]? = W.heap[k]?) (hb : Below w.heap.size W W') : Fs nd n ks w rr (listed.setIfInBounds i true) (vs.set i v) W' := by
  have hi : i < vs.length := by rw [hF.len]; exact (List.getElem?_eq_some_iff.1 hk).1
  have hin := okB_put hok hk
  have hia : i ≠ al := by
    rintro rfl
    rw [hk] at hblk
    cases hblk
  refine ⟨by simpa using hF.lsz, by rw [List.length_set]; exact hF.len, below_only hF.low hb, ?_, ?_, ?_, back_set hF.back hpre⟩
  · intro j kj hj hlj
    by_cases e : i = j
    · subst e
      rw [hk] at hj
      cases hj
      trivial
    · have hlj' := hlj.of_set e
      rw [getD_vset_ne e]
      have h := hF.get j kj hj hlj'
      have far : kj.owns = true → j ≠ al → ∀ G', blkOf (vs.getD j undef) = some G' → G' ≠ G := by
        intro o hja G' hG' e'
        have := hF.ne j al kj _ hja hj hblk o rfl hlj' hal
        rw [hG', hG, e'] at this
        exact this rfl
      cases kj with
      | pure c => exact h
      | row cs T' m =>
        obtain ⟨G', hG', hB, hh⟩ := h
        have hja : j ≠ al := by rintro rfl; rw [hj] at hblk; cases hblk
        have hne := far rfl hja G' (by rw [hG']; rfl)
        exact ⟨G', hG', hB, (hoth _ hne).trans hh⟩
      | box g' z' f' T' st =>
        obtain ⟨G', hG', hgg, hB, hh⟩ := h
        have hja : j ≠ al := by rintro rfl; rw [hj] at hblk; cases hblk
        have hne := far rfl hja G' (by rw [hG']; rfl)
        have hns : i ≠ st := by
          rintro rfl
          rcases okB_box hok hj with hst | hst
          · omega
          · rw [hk] at hst
            have := Option.some.inj hst
            injection this with this
            exact hja this.symm
        refine ⟨G', hG', hgg, hB, ?_⟩
        rw [getD_set_ne false hns]
        exact (hoth _ hne).trans hh
      | put _ => trivial
      | free => trivial
      | any R => exact absurd hj (hna j R)
      | blk g' z' f' sts' T' =>
        obtain ⟨G', hG', hgg, hB, hh⟩ := h
        by_cases hja : j = al
        · subst hja
          rw [hblk] at hj
          cases hj
          rw [hG] at hG'
          have : G = G' := by
            have := congrArg blkOf hG'
            exact Option.some.inj this
          subst this
          exact ⟨G, hG, hgg, hB, hnew⟩
        · have hne := far rfl hja G' (by rw [hG']; rfl)
          refine ⟨G', hG', hgg, hB, ?_⟩
          rw [mix_ne z' f' sts' (fun x hx => by
            rintro rfl
            have hst := okB_blk hok hj hx
            rw [hk] at hst
            have := Option.some.inj hst
            injection this with this
            exact hja this.symm)]
          exact (hoth _ hne).trans hh
  · intro a b ka kb hab ha hb' oa ob la lb
    have ea : i ≠ a := by rintro rfl; rw [hk] at ha; cases ha; cases oa
    have eb : i ≠ b := by rintro rfl; rw [hk] at hb'; cases hb'; cases ob
    rw [getD_vset_ne ea, getD_vset_ne eb]
    exact hF.ne a b ka kb hab ha hb' oa ob (la.of_set ea) (lb.of_set eb)
  · intro a al' ha la
    by_cases ea : i = a
    · subst ea
      rw [hk] at ha
      have := Option.some.inj ha
      injection this with this
      subst this
      exact hal.mono
    · rw [getD_set_ne false ea] at la
      exact (hF.puts a al' ha la).mono
/-- nothing has come up yet -/
theorem Fs.start (hlen : vs.length = ks.length) (hn : ks.length = n) : Fs nd n ks w rr (Array.replicate n false) vs w.drew :=
  ⟨by simp, hlen, only_of_below (Below.refl _ _).drew rr, fun i k hk h => absurd (h.resolve_left (by have := (List.getElem?_eq_some_iff.1 hk).1; omega)) bit_none, fun i _ k _ _ hk _ _ _ h => absurd (h.resolve_left (by have := (List.getElem?_eq_some_iff.1 hk).1; omega)) bit_none, fun _ _ _ h => absurd h bit_none, fun _ _ h => absurd h bit_none⟩
end

/-- the blocks from before hold what they hold, and are not one another -/
def Far (v : Value) : List RK → List Value → Prop
  | k :: ks, u :: vs => (k.owns = true → blkOf v ≠ blkOf u) ∧ Far v ks vs
  | _, _ => True
def Olds (B : Nat) (W : World) : List RK → List Value → Prop
  | k :: ks, v :: vs => k.holds B #[] v W ∧ (k.owns = true → Far v ks vs) ∧ Olds B W ks vs
  | _, _ => True
theorem far_get {v : Value} : ∀ {ks : List RK} {vs : List Value}, Far v ks vs → vs.length = ks.length → ∀ {i : Nat} {k : RK}, ks[i]? = some k → k.owns = true → blkOf v ≠ blkOf (vs.getD i undef)
  | k :: ks, u :: vs, h, hl, 0, k', hk, ho => by
    cases hk
    exact h.1 ho
  | k :: ks, u :: vs, h, hl, i + 1, k', hk, ho => by
    have := far_get (i := i) h.2 (by simpa using hl) (by simpa using hk) ho
    simpa using this
  | [], _, _, _, i, k', hk, _ => by simp at hk
theorem olds_get {B : Nat} {W : World} : ∀ {ks : List RK} {vs : List Value}, Olds B W ks vs → vs.length = ks.length → ∀ {i : Nat} {k : RK}, ks[i]? = some k → k.holds B #[] (vs.getD i undef) W
  | k :: ks, u :: vs, h, hl, 0, k', hk => by
    cases hk
    exact h.1
  | k :: ks, u :: vs, h, hl, i + 1, k', hk => by
    have := olds_get (i := i) h.2.2 (by simpa using hl) (by simpa using hk)
    simpa using this
  | [], _, _, _, i, k', hk => by simp at hk
theorem olds_ne {B : Nat} {W : World} : ∀ {ks : List RK} {vs : List Value}, Olds B W ks vs → vs.length = ks.length → ∀ {i j : Nat} {ki kj : RK}, i < j → ks[i]? = some ki → ks[j]? = some kj → ki.owns = true → kj.owns = true → blkOf (vs.getD i undef) ≠ blkOf (vs.getD j undef)
  | k :: ks, u :: vs, h, hl, 0, j + 1, ki, kj, hij, hi, hj, oi, oj => by
    cases hi
    have := far_get (h.2.1 oi) (by simpa using hl) (i := j) (by simpa using hj) oj
    simpa using this
  | k :: ks, u :: vs, h, hl, i + 1, j + 1, ki, kj, hij, hi, hj, oi, oj => by
    have := olds_ne (i := i) (j := j) h.2.2 (by simpa using hl) (by omega) (by simpa using hi) (by simpa using hj) oi oj
    simpa using this
  | [], _, _, _, i, j, ki, kj, _, hi, _, _, _ => by simp at hi
theorem holds_none {B n : Nat} {v : Value} {W : World} {k : RK} (h : k.holds B #[] v W) : k.holds B (Array.replicate n false) v W := by
  cases k with
  | box g z f T st =>
    obtain ⟨G, hG, hgg, hB, hh⟩ := h
    refine ⟨G, hG, hgg, hB, ?_⟩
    rw [if_neg bit_none]
    simpa using hh
  | pure c => exact h
  | row cs T m => exact h
  | put al => trivial
  | free => trivial
  | any R => exact h
  | blk g z f sts T =>
    obtain ⟨G, hG, hgg, hB, hh⟩ := h
    rw [mix_empty] at hh
    exact ⟨G, hG, hgg, hB, by rw [mix_none]; exact hh⟩
theorem Fs.start_olds {nd : Nat → Nat → Bool} {n : Nat} {ks : List RK} {w W : World} {row : Option Nat} {vs : List Value} (hl : ∀ (i : Nat) (k : RK), ks[i]? = some k → k.lasts) (hlen : vs.length = ks.length) (low : w.grownBy W row) (hO : Olds w.heap.size W (ks.drop n) (vs.drop n)) :
    Fs nd n ks w row (Array.replicate n false) vs W.drew := by
  have hlen' : (vs.drop n).length = (ks.drop n).length := by simp [hlen]
  have hk' : ∀ {i : Nat} {k : RK}, ks[i]? = some k → n ≤ i → (ks.drop n)[i - n]? = some k := by
    intro i k hk hi
    rw [List.getElem?_drop, show n + (i - n) = i by omega]; exact hk
  have hv' : ∀ {i : Nat}, n ≤ i → (vs.drop n).getD (i - n) undef = vs.getD i undef := by
    intro i hi
    simp only [List.getD, List.getElem?_drop]
    rw [show n + (i - n) = i by omega]
  refine ⟨by simp, hlen, below_only low (Below.refl _ _).drew, ?_, ?_, fun _ _ _ h => absurd h bit_none, fun _ _ h => absurd h bit_none⟩
  · intro i k hk h
    have hi := h.resolve_right bit_none
    have h1 := olds_get hO hlen' (hk' hk hi)
    rw [hv' hi] at h1
    have h2 : k.holds w.heap.size (Array.replicate n false) (vs.getD i undef) W := holds_none h1
    cases k with
    | any R => exact hl i _ hk _ _ _ h2 (Below.refl _ _).drew
    | pure c => exact h2
    | row cs T m => exact h2
    | box g z f T st => exact h2
    | blk g z f sts T => exact h2
    | put al => trivial
    | free => trivial
  · intro i j ki kj hij hi hj oi oj li lj
    have ni := li.resolve_right bit_none
    have nj := lj.resolve_right bit_none
    rcases Nat.lt_or_ge i j with h | h
    · have := olds_ne hO hlen' (show i - n < j - n by omega) (hk' hi ni) (hk' hj nj) oi oj
      rw [hv' ni, hv' nj] at this; exact this
    · have := olds_ne hO hlen' (show j - n < i - n by omega) (hk' hj nj) (hk' hi ni) oj oi
      rw [hv' ni, hv' nj] at this; exact fun e => this e.symm
theorem Fs.unst {nd : Nat → Nat → Bool} {n : Nat} {ks : List RK} {w W : World} {row : Option Nat} {listed : Array Bool} {vs : List Value} (hF : Fs nd n ks w row listed vs W) {st : Nat} (h : n ≤ st) : ¬ listed.getD st false = true := by
  have h1 : ¬ st < listed.size := by rw [hF.lsz]; omega
  simp [h1]
theorem far_of {b c : Nat} {n : Nat} (h : b ≠ c) : blkOf (.pointer (some ⟨b, 0, none⟩)) ≠ blkOf (.pointer (some ⟨c, n, none⟩)) := fun e => h (Option.some.inj e)

/-- the slots laid anew, from what has come up -/
def layT : List (Option Nat) → List Value → Array Value → Array Value
  | some d :: sl, v :: vs, t => layT sl vs (t.setIfInBounds d v)
  | none :: sl, _ :: vs, t => layT sl vs t
  | _, _, t => t
theorem layT_some (d : Nat) (sl : List (Option Nat)) (v : Value) (vs : List Value) (t : Array Value) : layT (some d :: sl) (v :: vs) t = layT sl vs (t.setIfInBounds d v) := rfl
theorem layT_none (sl : List (Option Nat)) (v : Value) (vs : List Value) (t : Array Value) : layT (none :: sl) (v :: vs) t = layT sl vs t := rfl
theorem layT_nil (vs : List Value) (t : Array Value) : layT [] vs t = t := by cases vs <;> rfl
def putO (a : Act) (sl : List (Option Nat)) (vs : List Value) : Act := { a with tmps := layT sl vs a.tmps }

/-- operation i waits for operation j -/
def ndOf (ops : Array Oper) (i j : Nat) : Bool := (needs .any ops i).contains j
theorem wp_region_facts {P : Program} {ops : Array Oper} {Q : Exit → Act → World → Prop} {id : Nat} {a0 : Act} {w W0 : World} {row : Option Nat} (n : Nat) (ks : List RK) (slots : List (Option Nat)) (hm : P.follows .mixedOrders = true) (hb : backB ops = true) (hn : ops.size = n)
    (vs0 : List Value) (h00 : putO a0 slots vs0 = a0) (hF0 : Fs (ndOf ops) n ks w row (Array.replicate n false) vs0 W0.drew)
    (hstep : ∀ listed vs W, Fs (ndOf ops) n ks w row listed vs W → ∀ i, i < n → listed.getD i true = false → (∀ j, ndOf ops i j = true → listed.getD j false = true) → wpOp P ops Q i (fun a' W' => ∃ v, Fs (ndOf ops) n ks w row (listed.setIfInBounds i true) (vs.set i v) W' ∧ a' = putO a0 slots (vs.set i v)) (putO a0 slots vs) W)
    (hdone : ∀ listed vs W, Fs (ndOf ops) n ks w row listed vs W → (∀ j, j < n → listed.getD j false = true) → Q .normal (putO a0 slots vs) W) : (Code.region id ops true).wp P Q a0 W0 := by
  refine wp_region_inv hm (fun listed a W => ∃ vs, Fs (ndOf ops) n ks w row listed vs W ∧ a = putO a0 slots vs) ⟨vs0, by rw [hn]; exact hF0, h00.symm⟩ ?_ ?_
  · rintro listed a W ⟨vs, hF, rfl⟩ i o ho hun hpre
    refine wpOp_mono (fun a' w' h => ?_) (hstep listed vs W hF i (by rw [← hn]; exact (Array.getElem?_eq_some_iff.1 ho).1) hun ?_)
    · obtain ⟨v, hF', rfl⟩ := h
      exact ⟨_, hF', rfl⟩
    · intro j hj
      unfold ndOf needs at hj
      rw [ho] at hj
      simp only [List.contains_iff_mem, List.mem_map, List.mem_filter, Array.mem_toList_iff] at hj
      obtain ⟨e, ⟨he, hbd⟩, rfl⟩ := hj
      exact hpre e he hbd
  · rintro listed a W ⟨vs, hF, rfl⟩ hr
    exact hdone listed vs W hF (by rw [← hn]; exact all_listed (by rw [hF.lsz, hn]) hb hr)

/-- a list of known length, item by item -/
def ExL : Nat → (List Value → Prop) → Prop
  | 0, p => p []
  | n + 1, p => ∃ v, ExL n (fun l => p (v :: l))
theorem exl_of : ∀ (n : Nat) (vs : List Value) (p : List Value → Prop), vs.length = n → p vs → ExL n p
  | 0, [], _, _, h => h
  | n + 1, v :: l, p, h, hp => ⟨v, exl_of n l (fun l => p (v :: l)) (by simpa using h) hp⟩
theorem put2_below {B G : Nat} (h : B ≤ G) (W : World) (x y : Value) : Below B W ((W.setCell ⟨G, 0, none⟩ x).setCell ⟨G, 1, none⟩ y) :=
  ((Below.refl _ _).setCell (p := ⟨G, 0, none⟩) h x).setCell (p := ⟨G, 1, none⟩) h y
theorem put9_below {B G : Nat} (h : B ≤ G) (W : World) (x0 x1 x2 x3 x4 x5 x6 x7 x8 : Value) : Below B W (((((((((W.setCell ⟨G, 0, none⟩ x0).setCell ⟨G, 1, none⟩ x1).setCell ⟨G, 2, none⟩ x2).setCell ⟨G, 3, none⟩ x3).setCell ⟨G, 4, none⟩ x4).setCell ⟨G, 5, none⟩ x5).setCell ⟨G, 6, none⟩ x6).setCell ⟨G, 7, none⟩ x7).setCell ⟨G, 8, none⟩ x8) :=
  ((((((((((Below.refl _ _).setCell (p := ⟨G, 0, none⟩) h x0).setCell (p := ⟨G, 1, none⟩) h x1).setCell (p := ⟨G, 2, none⟩) h x2).setCell (p := ⟨G, 3, none⟩) h x3).setCell (p := ⟨G, 4, none⟩) h x4).setCell (p := ⟨G, 5, none⟩) h x5).setCell (p := ⟨G, 6, none⟩) h x6).setCell (p := ⟨G, 7, none⟩) h x7).setCell (p := ⟨G, 8, none⟩) h x8)
end Go.Proofs.YtnlaecjniellpaaGreatDoor.Num

/- A region that draws its order: the first operations by what each yields, the last ones in each order that is left to them. Plain: of no program. -/
namespace Go.Proofs.YtnlaecjniellpaaGreatDoor.Num
open Go.RowKit Go.Lib

/-- what is left, in each order that the edges leave open; f: how many are left -/
def restOps (P : Program) (ops : Array Oper) (Q : Exit → Act → World → Prop) : Nat → List Nat → Act → World → Prop
  | 0, _, a, w => Q .normal a w
  | f + 1, rem, a, w => ∀ i ∈ rem, (∀ j ∈ rem, ndOf ops i j = false) → wpOp P ops Q i (fun a' w' => restOps P ops Q f (rem.erase i) a' w') a w
theorem bit_ne {listed : Array Bool} {i j : Nat} (h : i ≠ j) : (listed.setIfInBounds i true).getD j false = listed.getD j false := by rw [getD_set_ne false h]
theorem bit_in {listed : Array Bool} {i : Nat} (h : i < listed.size) : (listed.setIfInBounds i true).getD i false = true := by simp [h]
theorem range_from {m n i : Nat} : i ∈ (List.range n).drop m ↔ m ≤ i ∧ i < n := by
  rw [List.range_eq_range', List.drop_range', List.mem_range'_1]
  omega

theorem wp_region_rest {P : Program} {ops : Array Oper} {Q : Exit → Act → World → Prop} {id : Nat} {a0 : Act} {w : World} (m : Nat) (J : Array Bool → Act → World → Prop) (hm : P.follows .mixedOrders = true) (hb : backB ops = true) (hmn : m ≤ ops.size)
    (ht : ((List.range ops.size).all fun i => decide (i < m) || (List.range m).all fun j => ndOf ops i j) = true)
    (h0 : J (Array.replicate ops.size false) a0 w.drew)
    (hstep : ∀ listed a W, J listed a W → ∀ i, i < m → listed.getD i true = false → (∀ j, ndOf ops i j = true → listed.getD j false = true) → wpOp P ops Q i (fun a' W' => J (listed.setIfInBounds i true) a' W') a W)
    (hmid : ∀ listed a W, J listed a W → (∀ j, j < m → listed.getD j false = true) → restOps P ops Q (ops.size - m) ((List.range ops.size).drop m) a W) : (Code.region id ops true).wp P Q a0 w := by
  refine wp_region_inv hm (fun listed a W => listed.size = ops.size ∧ ((∀ i, m ≤ i → i < ops.size → listed.getD i false = false) ∧ J listed a W ∨ ∃ rem : List Nat, rem.Nodup ∧ (∀ i, i < ops.size → (listed.getD i false = false ↔ i ∈ rem)) ∧ (∀ i ∈ rem, i < ops.size) ∧ restOps P ops Q rem.length rem a W)) ⟨by simp, .inl ⟨fun i _ _ => by simp [Array.getD, Array.getElem_replicate], h0⟩⟩ ?_ ?_
  · rintro listed a W ⟨hsz, hI⟩ i o ho hun hpre0
    have hi : i < ops.size := (Array.getElem?_eq_some_iff.1 ho).1
    have hil : i < listed.size := by omega
    have hoffi : listed.getD i false = false := by simp [hil] at hun ⊢; exact hun
    have hpre : ∀ j, ndOf ops i j = true → listed.getD j false = true := by
      intro j hj
      unfold ndOf needs at hj
      rw [ho] at hj
      simp only [List.contains_iff_mem, List.mem_map, List.mem_filter, Array.mem_toList_iff] at hj
      obtain ⟨e, ⟨he, hbd⟩, rfl⟩ := hj
      exact hpre0 e he hbd
    have go : ∀ rem : List Nat, rem.Nodup → (∀ k, k < ops.size → (listed.getD k false = false ↔ k ∈ rem)) → (∀ k ∈ rem, k < ops.size) → restOps P ops Q rem.length rem a W → wpOp P ops Q i (fun a' W' => (listed.setIfInBounds i true).size = ops.size ∧ ((∀ j, m ≤ j → j < ops.size → (listed.setIfInBounds i true).getD j false = false) ∧ J (listed.setIfInBounds i true) a' W' ∨ ∃ rem : List Nat, rem.Nodup ∧ (∀ k, k < ops.size → ((listed.setIfInBounds i true).getD k false = false ↔ k ∈ rem)) ∧ (∀ k ∈ rem, k < ops.size) ∧ restOps P ops Q rem.length rem a' W')) a W := by
      intro rem hnd hiff hlt hs
      have him := (hiff i hi).1 hoffi
      obtain ⟨f, hf⟩ : ∃ f, rem.length = f + 1 := ⟨rem.length - 1, by have := List.length_pos_of_mem him; omega⟩
      rw [hf] at hs
      refine wpOp_mono (fun a' W' h => ⟨by simpa using hsz, .inr ⟨rem.erase i, hnd.erase i, fun k hk => ?_, fun k hk => hlt k (List.mem_of_mem_erase hk), ?_⟩⟩) (hs i him fun j hj => ?_)
      · by_cases e : i = k
        · subst e
          rw [bit_in hil]
          exact ⟨fun h => (by cases h), fun h => absurd h (hnd.not_mem_erase)⟩
        · rw [bit_ne e, hiff k hk]
          exact (List.mem_erase_of_ne (fun h => e h.symm)).symm
      · rw [List.length_erase_of_mem him, hf, Nat.add_sub_cancel]; exact h
      · cases hn : ndOf ops i j with
        | false => rfl
        | true =>
          have h1 := hpre j hn
          rw [(hiff j (hlt j hj)).2 hj] at h1
          cases h1
    rcases hI with ⟨hoff, hJ⟩ | ⟨rem, hnd, hiff, hlt, hs⟩
    · rcases Nat.lt_or_ge i m with h | h
      · exact wpOp_mono (fun a' W' hJ' => ⟨by simpa using hsz, .inl ⟨fun j h1 h2 => by rw [bit_ne (by omega)]; exact hoff j h1 h2, hJ'⟩⟩) (hstep listed a W hJ i h hun hpre)
      · have hall : ∀ j, j < m → listed.getD j false = true := fun j hj => hpre j (by
          have h1 := List.all_eq_true.1 ht i (List.mem_range.2 hi)
          rw [Bool.or_eq_true] at h1
          rcases h1 with h1 | h1
          · have := of_decide_eq_true h1; omega
          · exact List.all_eq_true.1 h1 j (List.mem_range.2 hj))
        refine go ((List.range ops.size).drop m) (List.nodup_range.sublist (List.drop_sublist _ _)) (fun k hk => ?_) (fun k hk => (range_from.1 hk).2) ?_
        · constructor
          · intro hk0
            refine range_from.2 ⟨?_, hk⟩
            rcases Nat.lt_or_ge k m with h2 | h2
            · rw [hall k h2] at hk0; cases hk0
            · exact h2
          · intro hk0
            exact hoff k (range_from.1 hk0).1 hk
        · rw [List.length_drop, List.length_range]
          exact hmid listed a W hJ hall
    · exact go rem hnd hiff hlt hs
  · rintro listed a W ⟨hsz, hI⟩ hr
    have hall := all_listed hsz hb hr
    rcases hI with ⟨hoff, hJ⟩ | ⟨rem, hnd, hiff, hlt, hs⟩
    · have e : m = ops.size := by
        rcases Nat.lt_or_ge m ops.size with h | h
        · have := hoff m (Nat.le_refl _) h
          rw [hall m h] at this
          cases this
        · omega
      have := hmid listed a W hJ (fun j hj => hall j (by omega))
      rw [e, Nat.sub_self] at this
      exact this
    · have e : rem = [] := by
        cases rem with
        | nil => rfl
        | cons k r =>
          have h1 := hall k (hlt k List.mem_cons_self)
          rw [(hiff k (hlt k List.mem_cons_self)).2 List.mem_cons_self] at h1
          cases h1
      subst e
      exact hs
theorem wp_region_facts_tail {P : Program} {ops : Array Oper} {Q : Exit → Act → World → Prop} {id : Nat} {a0 : Act} {w W0 : World} {row : Option Nat} (m f n : Nat) (rem : List Nat) (ks : List RK) (slots : List (Option Nat)) (hm : P.follows .mixedOrders = true) (hb : backB ops = true) (ht : ((List.range ops.size).all fun i => decide (i < m) || (List.range m).all fun j => ndOf ops i j) = true) (hn : ops.size = n) (hf : n - m = f) (hmn : m ≤ n) (hrem : (List.range n).drop m = rem)
    (vs0 : List Value) (h00 : putO a0 slots vs0 = a0) (hF0 : Fs (ndOf ops) n ks w row (Array.replicate n false) vs0 W0.drew)
    (hstep : ∀ listed vs W, Fs (ndOf ops) n ks w row listed vs W → ∀ i, i < m → listed.getD i true = false → (∀ j, ndOf ops i j = true → listed.getD j false = true) → wpOp P ops Q i (fun a' W' => ∃ v, Fs (ndOf ops) n ks w row (listed.setIfInBounds i true) (vs.set i v) W' ∧ a' = putO a0 slots (vs.set i v)) (putO a0 slots vs) W)
    (hdone : ∀ listed vs W, Fs (ndOf ops) n ks w row listed vs W → (∀ j, j < m → listed.getD j false = true) → restOps P ops Q f rem (putO a0 slots vs) W) : (Code.region id ops true).wp P Q a0 W0 := by
  refine wp_region_rest m (fun listed a W => ∃ vs, Fs (ndOf ops) n ks w row listed vs W ∧ a = putO a0 slots vs) hm hb (by omega) ht ⟨vs0, by rw [hn]; exact hF0, h00.symm⟩ ?_ ?_
  · rintro listed a W ⟨vs, hF, rfl⟩ i hi hun hpre
    refine wpOp_mono (fun a' w' h => ?_) (hstep listed vs W hF i hi hun hpre)
    obtain ⟨v, hF', rfl⟩ := h
    exact ⟨_, hF', rfl⟩
  · rintro listed a W ⟨vs, hF, rfl⟩ hall
    rw [hn, hf, hrem]
    exact hdone listed vs W hF hall
/-- operation i waits for operation j, at once or over others -/
def reachB (ops : Array Oper) : Nat → Nat → Nat → Bool
  | 0, i, j => ndOf ops i j
  | f + 1, i, j => ndOf ops i j || (List.range ops.size).any fun k => ndOf ops i k && reachB ops f k j
theorem reach_listed {ops : Array Oper} {listed : Array Bool} (hb : ∀ i j, listed.getD i false = true → ndOf ops i j = true → listed.getD j false = true) : ∀ (f i j : Nat), (∀ j, ndOf ops i j = true → listed.getD j false = true) → reachB ops f i j = true → listed.getD j false = true
  | 0, _, j, h, hr => h j hr
  | f + 1, i, j, h, hr => by
    have hr : (ndOf ops i j || (List.range ops.size).any fun k => ndOf ops i k && reachB ops f k j) = true := hr
    rw [Bool.or_eq_true] at hr
    rcases hr with hr | hr
    · exact h j hr
    · obtain ⟨k, _, hk⟩ := List.any_eq_true.1 hr
      rw [Bool.and_eq_true] at hk
      exact reach_listed hb f k j (fun l hl => hb k l (h k hk.1) hl) hk.2
theorem wp_region_rest_r {P : Program} {ops : Array Oper} {Q : Exit → Act → World → Prop} {id : Nat} {a0 : Act} {w : World} (m : Nat) (J : Array Bool → Act → World → Prop) (hm : P.follows .mixedOrders = true) (hb : backB ops = true) (hmn : m ≤ ops.size)
    (fu : Nat) (hback : ∀ listed a W, J listed a W → ∀ i j, listed.getD i false = true → ndOf ops i j = true → listed.getD j false = true) (ht : ((List.range ops.size).all fun i => decide (i < m) || (List.range m).all fun j => reachB ops fu i j) = true)
    (h0 : J (Array.replicate ops.size false) a0 w.drew)
    (hstep : ∀ listed a W, J listed a W → ∀ i, i < m → listed.getD i true = false → (∀ j, ndOf ops i j = true → listed.getD j false = true) → wpOp P ops Q i (fun a' W' => J (listed.setIfInBounds i true) a' W') a W)
    (hmid : ∀ listed a W, J listed a W → (∀ j, j < m → listed.getD j false = true) → restOps P ops Q (ops.size - m) ((List.range ops.size).drop m) a W) : (Code.region id ops true).wp P Q a0 w := by
  refine wp_region_inv hm (fun listed a W => listed.size = ops.size ∧ ((∀ i, m ≤ i → i < ops.size → listed.getD i false = false) ∧ J listed a W ∨ ∃ rem : List Nat, rem.Nodup ∧ (∀ i, i < ops.size → (listed.getD i false = false ↔ i ∈ rem)) ∧ (∀ i ∈ rem, i < ops.size) ∧ restOps P ops Q rem.length rem a W)) ⟨by simp, .inl ⟨fun i _ _ => by simp [Array.getD, Array.getElem_replicate], h0⟩⟩ ?_ ?_
  · rintro listed a W ⟨hsz, hI⟩ i o ho hun hpre0
    have hi : i < ops.size := (Array.getElem?_eq_some_iff.1 ho).1
    have hil : i < listed.size := by omega
    have hoffi : listed.getD i false = false := by simp [hil] at hun ⊢; exact hun
    have hpre : ∀ j, ndOf ops i j = true → listed.getD j false = true := by
      intro j hj
      unfold ndOf needs at hj
      rw [ho] at hj
      simp only [List.contains_iff_mem, List.mem_map, List.mem_filter, Array.mem_toList_iff] at hj
      obtain ⟨e, ⟨he, hbd⟩, rfl⟩ := hj
      exact hpre0 e he hbd
    have go : ∀ rem : List Nat, rem.Nodup → (∀ k, k < ops.size → (listed.getD k false = false ↔ k ∈ rem)) → (∀ k ∈ rem, k < ops.size) → restOps P ops Q rem.length rem a W → wpOp P ops Q i (fun a' W' => (listed.setIfInBounds i true).size = ops.size ∧ ((∀ j, m ≤ j → j < ops.size → (listed.setIfInBounds i true).getD j false = false) ∧ J (listed.setIfInBounds i true) a' W' ∨ ∃ rem : List Nat, rem.Nodup ∧ (∀ k, k < ops.size → ((listed.setIfInBounds i true).getD k false = false ↔ k ∈ rem)) ∧ (∀ k ∈ rem, k < ops.size) ∧ restOps P ops Q rem.length rem a' W')) a W := by
      intro rem hnd hiff hlt hs
      have him := (hiff i hi).1 hoffi
      obtain ⟨f, hf⟩ : ∃ f, rem.length = f + 1 := ⟨rem.length - 1, by have := List.length_pos_of_mem him; omega⟩
      rw [hf] at hs
      refine wpOp_mono (fun a' W' h => ⟨by simpa using hsz, .inr ⟨rem.erase i, hnd.erase i, fun k hk => ?_, fun k hk => hlt k (List.mem_of_mem_erase hk), ?_⟩⟩) (hs i him fun j hj => ?_)
      · by_cases e : i = k
        · subst e
          rw [bit_in hil]
          exact ⟨fun h => (by cases h), fun h => absurd h (hnd.not_mem_erase)⟩
        · rw [bit_ne e, hiff k hk]
          exact (List.mem_erase_of_ne (fun h => e h.symm)).symm
      · rw [List.length_erase_of_mem him, hf, Nat.add_sub_cancel]; exact h
      · cases hn : ndOf ops i j with
        | false => rfl
        | true =>
          have h1 := hpre j hn
          rw [(hiff j (hlt j hj)).2 hj] at h1
          cases h1
    rcases hI with ⟨hoff, hJ⟩ | ⟨rem, hnd, hiff, hlt, hs⟩
    · rcases Nat.lt_or_ge i m with h | h
      · exact wpOp_mono (fun a' W' hJ' => ⟨by simpa using hsz, .inl ⟨fun j h1 h2 => by rw [bit_ne (by omega)]; exact hoff j h1 h2, hJ'⟩⟩) (hstep listed a W hJ i h hun hpre)
      · have hall : ∀ j, j < m → listed.getD j false = true := fun j hj => reach_listed (hback listed a W hJ) fu i j hpre (by
          have h1 := List.all_eq_true.1 ht i (List.mem_range.2 hi)
          rw [Bool.or_eq_true] at h1
          rcases h1 with h1 | h1
          · have := of_decide_eq_true h1; omega
          · exact List.all_eq_true.1 h1 j (List.mem_range.2 hj))
        refine go ((List.range ops.size).drop m) (List.nodup_range.sublist (List.drop_sublist _ _)) (fun k hk => ?_) (fun k hk => (range_from.1 hk).2) ?_
        · constructor
          · intro hk0
            refine range_from.2 ⟨?_, hk⟩
            rcases Nat.lt_or_ge k m with h2 | h2
            · rw [hall k h2] at hk0; cases hk0
            · exact h2
          · intro hk0
            exact hoff k (range_from.1 hk0).1 hk
        · rw [List.length_drop, List.length_range]
          exact hmid listed a W hJ hall
    · exact go rem hnd hiff hlt hs
  · rintro listed a W ⟨hsz, hI⟩ hr
    have hall := all_listed hsz hb hr
    rcases hI with ⟨hoff, hJ⟩ | ⟨rem, hnd, hiff, hlt, hs⟩
    · have e : m = ops.size := by
        rcases Nat.lt_or_ge m ops.size with h | h
        · have := hoff m (Nat.le_refl _) h
          rw [hall m h] at this
          cases this
        · omega
      have := hmid listed a W hJ (fun j hj => hall j (by omega))
      rw [e, Nat.sub_self] at this
      exact this
    · have e : rem = [] := by
        cases rem with
        | nil => rfl
        | cons k r =>
          have h1 := hall k (hlt k List.mem_cons_self)
          rw [(hiff k (hlt k List.mem_cons_self)).2 List.mem_cons_self] at h1
          cases h1
      subst e
      exact hs
theorem wp_region_facts_tail_r {P : Program} {ops : Array Oper} {Q : Exit → Act → World → Prop} {id : Nat} {a0 : Act} {w W0 : World} {row : Option Nat} (fu m f n : Nat) (rem : List Nat) (ks : List RK) (slots : List (Option Nat)) (hm : P.follows .mixedOrders = true) (hb : backB ops = true) (ht : ((List.range ops.size).all fun i => decide (i < m) || (List.range m).all fun j => reachB ops fu i j) = true) (hn : ops.size = n) (hf : n - m = f) (hmn : m ≤ n) (hrem : (List.range n).drop m = rem)
    (vs0 : List Value) (h00 : putO a0 slots vs0 = a0) (hF0 : Fs (ndOf ops) n ks w row (Array.replicate n false) vs0 W0.drew)
    (hstep : ∀ listed vs W, Fs (ndOf ops) n ks w row listed vs W → ∀ i, i < m → listed.getD i true = false → (∀ j, ndOf ops i j = true → listed.getD j false = true) → wpOp P ops Q i (fun a' W' => ∃ v, Fs (ndOf ops) n ks w row (listed.setIfInBounds i true) (vs.set i v) W' ∧ a' = putO a0 slots (vs.set i v)) (putO a0 slots vs) W)
    (hdone : ∀ listed vs W, Fs (ndOf ops) n ks w row listed vs W → (∀ j, j < m → listed.getD j false = true) → restOps P ops Q f rem (putO a0 slots vs) W) : (Code.region id ops true).wp P Q a0 W0 := by
  refine wp_region_rest_r m (fun listed a W => ∃ vs, Fs (ndOf ops) n ks w row listed vs W ∧ a = putO a0 slots vs) hm hb (by omega) fu (fun listed a W hJ => by obtain ⟨vs, hF, _⟩ := hJ; exact hF.back) ht ⟨vs0, by rw [hn]; exact hF0, h00.symm⟩ ?_ ?_
  · rintro listed a W ⟨vs, hF, rfl⟩ i hi hun hpre
    refine wpOp_mono (fun a' w' h => ?_) (hstep listed vs W hF i hi hun hpre)
    obtain ⟨v, hF', rfl⟩ := h
    exact ⟨_, hF', rfl⟩
  · rintro listed a W ⟨vs, hF, rfl⟩ hall
    rw [hn, hf, hrem]
    exact hdone listed vs W hF hall
section
variable {P : Program} {ops : Array Oper} {Q : Exit → Act → World → Prop} {f i j : Nat} {rem remi remj : List Nat} {a : Act} {w : World}
/-- only number i may come next -/
theorem rest_one (i : Nat) (o : Oper) (ho : ops[i]? = some o) (hr : (rem.all fun k => k == i || rem.any fun j => ndOf ops k j) = true) (he : rem.erase i = remi)
    (h : ∀ K' : Act → World → Prop, Shut (∀ a w, restOps P ops Q f remi a w → K' a w) → if Region.wanted o (yielded ops a.tmps) = true then Oper.wp P o a w K' Q else K' (a.put o.dst undef) w) : restOps P ops Q (f + 1) rem a w := by
  subst he
  intro k hk hready
  have h1 := List.all_eq_true.1 hr k hk
  rw [Bool.or_eq_true] at h1
  rcases h1 with h1 | h1
  · rw [beq_iff_eq] at h1
    subst h1
    exact step_of o ho h
  · obtain ⟨j, hj, hn⟩ := List.any_eq_true.1 h1
    rw [hready j hj] at hn
    cases hn
/-- number i or number j may come next -/
theorem rest_two (i j : Nat) (oi oj : Oper) (hoi : ops[i]? = some oi) (hoj : ops[j]? = some oj) (hr : (rem.all fun k => k == i || k == j || rem.any fun j => ndOf ops k j) = true) (hei : rem.erase i = remi) (hej : rem.erase j = remj)
    (hi : ∀ K' : Act → World → Prop, Shut (∀ a w, restOps P ops Q f remi a w → K' a w) → if Region.wanted oi (yielded ops a.tmps) = true then Oper.wp P oi a w K' Q else K' (a.put oi.dst undef) w)
    (hj : ∀ K' : Act → World → Prop, Shut (∀ a w, restOps P ops Q f remj a w → K' a w) → if Region.wanted oj (yielded ops a.tmps) = true then Oper.wp P oj a w K' Q else K' (a.put oj.dst undef) w) : restOps P ops Q (f + 1) rem a w := by
  subst hei
  subst hej
  intro k hk hready
  have h1 := List.all_eq_true.1 hr k hk
  rw [Bool.or_eq_true, Bool.or_eq_true] at h1
  rcases h1 with (h1 | h1) | h1
  · rw [beq_iff_eq] at h1
    subst h1
    exact step_of oi hoi hi
  · rw [beq_iff_eq] at h1
    subst h1
    exact step_of oj hoj hj
  · obtain ⟨j, hj, hn⟩ := List.any_eq_true.1 h1
    rw [hready j hj] at hn
    cases hn
theorem rest_end (h : Q .normal a w) : restOps P ops Q 0 rem a w := h
end
end Go.Proofs.YtnlaecjniellpaaGreatDoor.Num

/- A region that draws its order, by what each operation yields, the frame under one name: each operation reads the frame by facts. Plain: of no program. -/
namespace Go.Proofs.YtnlaecjniellpaaGreatDoor.Num
open Go.RowKit Go.Lib

/-- the slots are not one another -/
def distO : List (Option Nat) → Bool
  | [] => true
  | none :: r => distO r
  | some d :: r => !r.contains (some d) && distO r
theorem layT_size : ∀ (sl : List (Option Nat)) (vs : List Value) (t : Array Value), (layT sl vs t).size = t.size
  | [], vs, t => by rw [layT_nil]
  | none :: sl, [], t => rfl
  | some d :: sl, [], t => rfl
  | none :: sl, v :: vs, t => layT_size sl vs t
  | some d :: sl, v :: vs, t => by rw [layT_some, layT_size sl vs]; simp
theorem layT_out : ∀ (sl : List (Option Nat)) (vs : List Value) (t : Array Value) (d : Nat), sl.contains (some d) = false → (layT sl vs t)[d]? = t[d]?
  | [], vs, t, d, _ => by rw [layT_nil]
  | none :: sl, [], t, d, _ => rfl
  | some e :: sl, [], t, d, _ => rfl
  | none :: sl, v :: vs, t, d, h => by
    rw [layT_none]
    exact layT_out sl vs t d (by simpa using h)
  | some e :: sl, v :: vs, t, d, h => by
    have h2 : d ≠ e ∧ sl.contains (some d) = false := by simpa using h
    rw [layT_some, layT_out sl vs _ d h2.2, Array.getElem?_setIfInBounds_ne (Ne.symm h2.1)]
theorem layT_in : ∀ (sl : List (Option Nat)) (vs : List Value) (t : Array Value) (i d : Nat) (v : Value), distO sl = true → sl[i]? = some (some d) → vs[i]? = some v → d < t.size → (layT sl vs t)[d]? = some v
  | [], _, _, i, _, _, _, h, _, _ => by simp at h
  | _ :: _, [], _, i, _, _, _, _, h, _ => by simp at h
  | none :: sl, u :: vs, t, 0, d, v, _, h, _, _ => by simp at h
  | none :: sl, u :: vs, t, i + 1, d, v, hd, h, hv, ht => by
    rw [layT_none]
    exact layT_in sl vs t i d v hd (by simpa using h) (by simpa using hv) ht
  | some e :: sl, u :: vs, t, 0, d, v, hd, h, hv, ht => by
    have h1 : e = d := by simpa using h
    have h2 : u = v := by simpa using hv
    subst h1
    subst h2
    have hd : (!sl.contains (some e) && distO sl) = true := hd
    rw [Bool.and_eq_true, Bool.not_eq_true'] at hd
    rw [layT_some, layT_out sl vs _ e hd.1, Array.getElem?_setIfInBounds_self_of_lt ht]
  | some e :: sl, u :: vs, t, i + 1, d, v, hd, h, hv, ht => by
    have hd : (!sl.contains (some e) && distO sl) = true := hd
    rw [Bool.and_eq_true] at hd
    rw [layT_some]
    exact layT_in sl vs _ i d v hd.2 (by simpa using h) (by simpa using hv) (by simpa using ht)
theorem layT_comm : ∀ (sl : List (Option Nat)) (vs : List Value) (t : Array Value) (d : Nat) (v : Value), sl.contains (some d) = false → (layT sl vs t).setIfInBounds d v = layT sl vs (t.setIfInBounds d v)
  | [], vs, t, d, v, _ => by rw [layT_nil, layT_nil]
  | none :: sl, [], t, d, v, _ => rfl
  | some e :: sl, [], t, d, v, _ => rfl
  | none :: sl, u :: vs, t, d, v, h => by
    rw [layT_none, layT_none]
    exact layT_comm sl vs t d v (by simpa using h)
  | some e :: sl, u :: vs, t, d, v, h => by
    have h2 : d ≠ e ∧ sl.contains (some d) = false := by simpa using h
    rw [layT_some, layT_some, layT_comm sl vs _ d v h2.2, Array.setIfInBounds_comm _ _ (Ne.symm h2.1)]
theorem layT_put : ∀ (sl : List (Option Nat)) (vs : List Value) (t : Array Value) (i d : Nat) (v : Value), distO sl = true → sl[i]? = some (some d) → i < vs.length → (layT sl vs t).setIfInBounds d v = layT sl (vs.set i v) t
  | [], _, _, i, _, _, _, h, _ => by simp at h
  | _ :: _, [], _, i, _, _, _, _, h => by simp at h
  | none :: sl, u :: vs, t, 0, d, v, _, h, _ => by simp at h
  | none :: sl, u :: vs, t, i + 1, d, v, hd, h, hv => by
    rw [layT_none, List.set_cons_succ, layT_none]
    exact layT_put sl vs t i d v hd (by simpa using h) (by simpa using hv)
  | some e :: sl, u :: vs, t, 0, d, v, hd, h, hv => by
    have h1 : e = d := by simpa using h
    subst h1
    have hd : (!sl.contains (some e) && distO sl) = true := hd
    rw [Bool.and_eq_true, Bool.not_eq_true'] at hd
    rw [layT_some, List.set_cons_zero, layT_some, layT_comm sl vs _ e v hd.1]
    simp
  | some e :: sl, u :: vs, t, i + 1, d, v, hd, h, hv => by
    have hd : (!sl.contains (some e) && distO sl) = true := hd
    rw [Bool.and_eq_true] at hd
    rw [layT_some, List.set_cons_succ, layT_some]
    exact layT_put sl vs _ i d v hd.2 (by simpa using h) (by simpa using hv)
theorem layT_skip : ∀ (sl : List (Option Nat)) (vs : List Value) (t : Array Value) (i : Nat) (v : Value), sl[i]? = some none → layT sl (vs.set i v) t = layT sl vs t
  | [], _, _, i, _, h => by simp at h
  | _ :: _, [], _, i, _, _ => rfl
  | none :: sl, u :: vs, t, 0, v, _ => rfl
  | some e :: sl, u :: vs, t, 0, v, h => by simp at h
  | none :: sl, u :: vs, t, i + 1, v, h => by
    rw [layT_none, List.set_cons_succ, layT_none]
    exact layT_skip sl vs t i v (by simpa using h)
  | some e :: sl, u :: vs, t, i + 1, v, h => by
    rw [layT_some, List.set_cons_succ, layT_some]
    exact layT_skip sl vs _ i v (by simpa using h)
/-- what operation i leaves of the frame -/
def putI (A : Act) (sl : List (Option Nat)) (i : Nat) (v : Value) : Act :=
  match sl[i]? with
  | some (some d) => { A with tmps := A.tmps.setIfInBounds d v }
  | _ => A
theorem putI_is {a0 : Act} {sl : List (Option Nat)} {vs : List Value} {i : Nat} (hd : distO sl = true) (hi : i < vs.length) (hs : i < sl.length) (v : Value) : putI (putO a0 sl vs) sl i v = putO a0 sl (vs.set i v) := by
  unfold putI
  obtain ⟨x, hx⟩ : ∃ x, sl[i]? = some x := ⟨sl[i], List.getElem?_eq_getElem hs⟩
  rw [hx]
  cases x with
  | none =>
    show putO a0 sl vs = putO a0 sl (vs.set i v)
    unfold putO
    rw [layT_skip sl vs _ i v hx]
  | some d =>
    show ({ putO a0 sl vs with tmps := (putO a0 sl vs).tmps.setIfInBounds d v } : Act) = putO a0 sl (vs.set i v)
    unfold putO
    simp only []
    rw [layT_put sl vs _ i d v hd hx hi]
/-- what the frame holds: in the region's own slots, and in the others that it reads -/
structure Reads (A : Act) (sl : List (Option Nat)) (vs : List Value) (outs : List (Nat × Value)) : Prop where
  own : ∀ (i d : Nat) (v : Value), sl[i]? = some (some d) → vs[i]? = some v → A.tmps[d]? = some v
  out : ∀ (k : Nat) (x : Nat × Value), outs[k]? = some x → A.tmps[x.1]? = some x.2
/-- the conditions on slots, in one Boolean: distinct, within the frame; what is read besides lies outside of them -/
def slotsOk (sl : List (Option Nat)) (size : Nat) (outs : List Nat) : Bool :=
  distO sl && (sl.all fun | some d => decide (d < size) | none => true) && outs.all fun d => !sl.contains (some d)
theorem reads_of {a0 : Act} {sl : List (Option Nat)} {vs : List Value} {outs : List (Nat × Value)} {size : Nat} (ok : slotsOk sl size (outs.map (·.1)) = true) (hsz : a0.tmps.size = size) (ho : ∀ (k : Nat) (x : Nat × Value), outs[k]? = some x → a0.tmps[x.1]? = some x.2) : Reads (putO a0 sl vs) sl vs outs := by
  unfold slotsOk at ok
  rw [Bool.and_eq_true, Bool.and_eq_true] at ok
  obtain ⟨⟨h1, h2⟩, h3⟩ := ok
  refine ⟨fun i d v hs hv => layT_in sl vs _ i d v h1 hs hv ?_, fun k x hk => ?_⟩
  · have := List.all_eq_true.1 h2 (some d) (List.mem_of_getElem? hs)
    simp only [decide_eq_true_eq] at this
    rw [hsz]; exact this
  · have hm : x.1 ∈ outs.map (·.1) := List.mem_map.2 ⟨x, List.mem_of_getElem? hk, rfl⟩
    have := List.all_eq_true.1 h3 x.1 hm
    rw [Bool.not_eq_true'] at this
    show (layT sl vs a0.tmps)[x.1]? = some x.2
    rw [layT_out sl vs _ x.1 this]
    exact ho k x hk
/-- wp_region_facts_tail, the frame under one name in each operation -/
theorem wp_region_facts_abs {P : Program} {ops : Array Oper} {Q : Exit → Act → World → Prop} {id : Nat} {a0 : Act} {w W0 : World} {row : Option Nat} (m f n : Nat) (rem : List Nat) (ks : List RK) (slots : List (Option Nat)) (outs : List (Nat × Value)) (size : Nat)
    (hm : P.follows .mixedOrders = true) (hb : backB ops = true) (ht : ((List.range ops.size).all fun i => decide (i < m) || (List.range m).all fun j => ndOf ops i j) = true) (hn : ops.size = n) (hf : n - m = f) (hmn : m ≤ n) (hrem : (List.range n).drop m = rem)
    (hso : slotsOk slots size (outs.map (·.1)) = true) (hsl : slots.length = n) (hkl : n ≤ ks.length) (hsz : a0.tmps.size = size) (hout : ∀ (k : Nat) (x : Nat × Value), outs[k]? = some x → a0.tmps[x.1]? = some x.2)
    (vs0 : List Value) (h00 : putO a0 slots vs0 = a0) (hF0 : Fs (ndOf ops) n ks w row (Array.replicate n false) vs0 W0.drew)
    (hstep : ∀ A listed vs W, Fs (ndOf ops) n ks w row listed vs W → Reads A slots vs outs → ∀ i, i < m → listed.getD i true = false → (∀ j, ndOf ops i j = true → listed.getD j false = true) → wpOp P ops Q i (fun a' W' => ∃ v, Fs (ndOf ops) n ks w row (listed.setIfInBounds i true) (vs.set i v) W' ∧ a' = putI A slots i v) A W)
    (hdone : ∀ listed vs W, Fs (ndOf ops) n ks w row listed vs W → (∀ j, j < m → listed.getD j false = true) → restOps P ops Q f rem (putO a0 slots vs) W) : (Code.region id ops true).wp P Q a0 W0 := by
  refine wp_region_facts_tail m f n rem ks slots hm hb ht hn hf hmn hrem vs0 h00 hF0 ?_ hdone
  intro listed vs W hF i hi hun hpre
  refine wpOp_mono (fun a' W' h => ?_) (hstep (putO a0 slots vs) listed vs W hF (reads_of hso hsz hout) i hi hun hpre)
  obtain ⟨v, hF', ha⟩ := h
  refine ⟨v, hF', ha.trans (putI_is ?_ ?_ ?_ v)⟩
  · unfold slotsOk at hso
    rw [Bool.and_eq_true, Bool.and_eq_true] at hso
    exact hso.1.1
  · rw [hF.len]; omega
  · rw [hsl]; omega
/-- the same; the last operations may wait for the first over others -/
theorem wp_region_facts_abs_r {P : Program} {ops : Array Oper} {Q : Exit → Act → World → Prop} {id : Nat} {a0 : Act} {w W0 : World} {row : Option Nat} (fu m f n : Nat) (rem : List Nat) (ks : List RK) (slots : List (Option Nat)) (outs : List (Nat × Value)) (size : Nat)
    (hm : P.follows .mixedOrders = true) (hb : backB ops = true) (ht : ((List.range ops.size).all fun i => decide (i < m) || (List.range m).all fun j => reachB ops fu i j) = true) (hn : ops.size = n) (hf : n - m = f) (hmn : m ≤ n) (hrem : (List.range n).drop m = rem)
    (hso : slotsOk slots size (outs.map (·.1)) = true) (hsl : slots.length = n) (hkl : n ≤ ks.length) (hsz : a0.tmps.size = size) (hout : ∀ (k : Nat) (x : Nat × Value), outs[k]? = some x → a0.tmps[x.1]? = some x.2)
    (vs0 : List Value) (h00 : putO a0 slots vs0 = a0) (hF0 : Fs (ndOf ops) n ks w row (Array.replicate n false) vs0 W0.drew)
    (hstep : ∀ A listed vs W, Fs (ndOf ops) n ks w row listed vs W → Reads A slots vs outs → ∀ i, i < m → listed.getD i true = false → (∀ j, ndOf ops i j = true → listed.getD j false = true) → wpOp P ops Q i (fun a' W' => ∃ v, Fs (ndOf ops) n ks w row (listed.setIfInBounds i true) (vs.set i v) W' ∧ a' = putI A slots i v) A W)
    (hdone : ∀ listed vs W, Fs (ndOf ops) n ks w row listed vs W → (∀ j, j < m → listed.getD j false = true) → restOps P ops Q f rem (putO a0 slots vs) W) : (Code.region id ops true).wp P Q a0 W0 := by
  refine wp_region_facts_tail_r fu m f n rem ks slots hm hb ht hn hf hmn hrem vs0 h00 hF0 ?_ hdone
  intro listed vs W hF i hi hun hpre
  refine wpOp_mono (fun a' W' h => ?_) (hstep (putO a0 slots vs) listed vs W hF (reads_of hso hsz hout) i hi hun hpre)
  obtain ⟨v, hF', ha⟩ := h
  refine ⟨v, hF', ha.trans (putI_is ?_ ?_ ?_ v)⟩
  · unfold slotsOk at hso
    rw [Bool.and_eq_true, Bool.and_eq_true] at hso
    exact hso.1.1
  · rw [hF.len]; omega
  · rw [hsl]; omega
end Go.Proofs.YtnlaecjniellpaaGreatDoor.Num

/- Short words for walks over drawn regions. No conditions. -/
namespace Go.Proofs.YtnlaecjniellpaaGreatDoor.Num.Mt
open Go.RowKit Go.Lib Num

theorem eqi {i k : Nat} (h : i < k + 1) (g : k ≤ i) : i = k := Nat.le_antisymm (Nat.le_of_lt_succ h) g
set_option linter.defProp false in
def layL := And.intro @layT_some (And.intro @layT_none (And.intro @layT_nil (And.intro (@List.setIfInBounds_toArray Value) (And.intro (@List.set_cons_zero Value) (@List.set_cons_succ Value)))))
theorem same_one (p : Rat) (W : World) : Calls Tryz.prog 8 #[.agg #[.int .i64 1, .string (numS p), .string (denS p), .string { data := #[] }, .bool false, .int .i64 0, .int .i64 0, .int .i64 0, .slice none 0 0], .agg #[.int .i64 1, .string (numS p), .string (denS p), .string { data := #[] }, .bool false, .int .i64 0, .int .i64 0, .int .i64 0, .slice none 0 0]] W fun e w' => e = .returned (.bool true) ∧ Below W.heap.size W w' := by
  refine (same_num p p W).mono ?_
  rintro e w' ⟨rfl, h⟩
  exact ⟨by rw [decide_eq_true rfl], h⟩
end Go.Proofs.YtnlaecjniellpaaGreatDoor.Num.Mt
