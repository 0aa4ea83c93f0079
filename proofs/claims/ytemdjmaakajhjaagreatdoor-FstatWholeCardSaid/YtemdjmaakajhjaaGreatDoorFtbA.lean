/- Numbers as texts of digits, fractions, values and the functions of fmath: contracts of the program's functions, joined from smaller texts. Conditions stand at each theorem. -/
import Derived.Test.YtemdjmaakajhjaaGreatDoorFtaA
import Derived.Test.YtemdjmaakajhjaaGreatDoorFtaB
import Derived.Test.YtemdjmaakajhjaaGreatDoorFtaC
import Derived.Test.YtemdjmaakajhjaaGreatDoorFtaD
import Derived.Laws.AppendOwn
import Derived.Test.YtemdjmaakajhjaaGreatDoorNumH

/- A region that draws its order: the first operations by what each yields, the last ones in each order that is left to them. Plain: of no program. -/
namespace Go.Proofs.YtemdjmaakajhjaaGreatDoor.Num
open Go.RowKit Go.Lib

/-- what is left, in each order that the edges leave open; f: how many are left -/
def restOps (P : Program) (ops : Array Oper) (Q : Exit → Act → World → Prop) : Nat → List Nat → Act → World → Prop
  | 0, _, a, w => Q .normal a w
  | f + 1, rem, a, w => ∀ i ∈ rem, (∀ j ∈ rem, ndOf ops i j = false) → wpOp P ops Q i (fun a' w' => restOps P ops Q f (rem.erase i) a' w') a w
theorem bit_ne {listed : Array Bool} {i j : Nat} (h : i ≠ j) : (listed.setIfInBounds i true).getD j false = listed.getD j false := by rw [getD_set_ne false h]
theorem bit_in {listed : Array Bool} {i : Nat} (h : i < listed.size) : (listed.setIfInBounds i true).getD i false = true := by simp [h]
theorem range_from {m n i : Nat} : i ∈ (List.range n).drop m ↔ m ≤ i ∧ i < n := by
  rw [List.range_eq_range', List.drop_range', List.mem_range'_1]
  omega

theorem wp_region_rest {P : Program} {ops : Array Oper} {Q : Exit → Act → World → Prop} {id : Nat} {a0 : Act} {w : World} (m : Nat) (J : Array Bool → Act → World → Prop) (hm : P.follows .mixedOrders = true) (hb : backB ops = true) (hmn : m ≤ ops.size)
    (ht : ((List.range ops.size).all fun i => decide (i < m) || (List.range m).all fun j => ndOf ops i j) = true)
    (h0 : J (Array.replicate ops.size false) a0 w.drew)
    (hstep : ∀ listed a W, J listed a W → ∀ i, i < m → listed.getD i true = false → (∀ j, ndOf ops i j = true → listed.getD j false = true) → wpOp P ops Q i (fun a' W' => J (listed.setIfInBounds i true) a' W') a W)
    (hmid : ∀ listed a W, J listed a W → (∀ j, j < m → listed.getD j false = true) → restOps P ops Q (ops.size - m) ((List.range ops.size).drop m) a W) : (Code.region id ops true).wp P Q a0 w := by
  refine wp_region_inv hm (fun listed a W => listed.size = ops.size ∧ ((∀ i, m ≤ i → i < ops.size → listed.getD i false = false) ∧ J listed a W ∨ ∃ rem : List Nat, rem.Nodup ∧ (∀ i, i < ops.size → (listed.getD i false = false ↔ i ∈ rem)) ∧ (∀ i ∈ rem, i < ops.size) ∧ restOps P ops Q rem.length rem a W)) ⟨by simp, .inl ⟨fun i _ _ => by simp [Array.getD, Array.getElem_replicate], h0⟩⟩ ?_ ?_
  · rintro listed a W ⟨hsz, hI⟩ i o ho hun hpre0
    have hi : i < ops.size := (Array.getElem?_eq_some_iff.1 ho).1
    have hil : i < listed.size := by omega
    have hoffi : listed.getD i false = false := by simp [hil] at hun ⊢; exact hun
    have hpre : ∀ j, ndOf ops i j = true → listed.getD j false = true := by
      intro j hj
      unfold ndOf needs at hj
      rw [ho] at hj
      simp only [List.contains_iff_mem, List.mem_map, List.mem_filter, Array.mem_toList_iff] at hj
      obtain ⟨e, ⟨he, hbd⟩, rfl⟩ := hj
      exact hpre0 e he hbd
    have go : ∀ rem : List Nat, rem.Nodup → (∀ k, k < ops.size → (listed.getD k false = false ↔ k ∈ rem)) → (∀ k ∈ rem, k < ops.size) → restOps P ops Q rem.length rem a W → wpOp P ops Q i (fun a' W' => (listed.setIfInBounds i true).size = ops.size ∧ ((∀ j, m ≤ j → j < ops.size → (listed.setIfInBounds i true).getD j false = false) ∧ J (listed.setIfInBounds i true) a' W' ∨ ∃ rem : List Nat, rem.Nodup ∧ (∀ k, k < ops.size → ((listed.setIfInBounds i true).getD k false = false ↔ k ∈ rem)) ∧ (∀ k ∈ rem, k < ops.size) ∧ restOps P ops Q rem.length rem a' W')) a W := by
      intro rem hnd hiff hlt hs
      have him := (hiff i hi).1 hoffi
      obtain ⟨f, hf⟩ : ∃ f, rem.length = f + 1 := ⟨rem.length - 1, by have := List.length_pos_of_mem him; omega⟩
      rw [hf] at hs
      refine wpOp_mono (fun a' W' h => ⟨by simpa using hsz, .inr ⟨rem.erase i, hnd.erase i, fun k hk => ?_, fun k hk => hlt k (List.mem_of_mem_erase hk), ?_⟩⟩) (hs i him fun j hj => ?_)
      · by_cases e : i = k
        · subst e
          rw [bit_in hil]
          exact ⟨fun h => (by cases h), fun h => absurd h (hnd.not_mem_erase)⟩
        · rw [bit_ne e, hiff k hk]
          exact (List.mem_erase_of_ne (fun h => e h.symm)).symm
      · rw [List.length_erase_of_mem him, hf, Nat.add_sub_cancel]; exact h
      · cases hn : ndOf ops i j with
        | false => rfl
        | true =>
          have h1 := hpre j hn
          rw [(hiff j (hlt j hj)).2 hj] at h1
          cases h1
    rcases hI with ⟨hoff, hJ⟩ | ⟨rem, hnd, hiff, hlt, hs⟩
    · rcases Nat.lt_or_ge i m with h | h
      · exact wpOp_mono (fun a' W' hJ' => ⟨by simpa using hsz, .inl ⟨fun j h1 h2 => by rw [bit_ne (by omega)]; exact hoff j h1 h2, hJ'⟩⟩) (hstep listed a W hJ i h hun hpre)
      · have hall : ∀ j, j < m → listed.getD j false = true := fun j hj => hpre j (by
          have h1 := List.all_eq_true.1 ht i (List.mem_range.2 hi)
          rw [Bool.or_eq_true] at h1
          rcases h1 with h1 | h1
          · have := of_decide_eq_true h1; omega
          · exact List.all_eq_true.1 h1 j (List.mem_range.2 hj))
        refine go ((List.range ops.size).drop m) (List.nodup_range.sublist (List.drop_sublist _ _)) (fun k hk => ?_) (fun k hk => (range_from.1 hk).2) ?_
        · constructor
          · intro hk0
            refine range_from.2 ⟨?_, hk⟩
            rcases Nat.lt_or_ge k m with h2 | h2
            · rw [hall k h2] at hk0; cases hk0
            · exact h2
          · intro hk0
            exact hoff k (range_from.1 hk0).1 hk
        · rw [List.length_drop, List.length_range]
          exact hmid listed a W hJ hall
    · exact go rem hnd hiff hlt hs
  · rintro listed a W ⟨hsz, hI⟩ hr
    have hall := all_listed hsz hb hr
    rcases hI with ⟨hoff, hJ⟩ | ⟨rem, hnd, hiff, hlt, hs⟩
    · have e : m = ops.size := by
        rcases Nat.lt_or_ge m ops.size with h | h
        · have := hoff m (Nat.le_refl _) h
          rw [hall m h] at this
          cases this
        · omega
      have := hmid listed a W hJ (fun j hj => hall j (by omega))
      rw [e, Nat.sub_self] at this
      exact this
    · have e : rem = [] := by
        cases rem with
        | nil => rfl
        | cons k r =>
          have h1 := hall k (hlt k List.mem_cons_self)
          rw [(hiff k (hlt k List.mem_cons_self)).2 List.mem_cons_self] at h1
          cases h1
      subst e
      exact hs
theorem wp_region_facts_tail {P : Program} {ops : Array Oper} {Q : Exit → Act → World → Prop} {id : Nat} {a0 : Act} {w W0 : World} {row : Option Nat} (m f n : Nat) (rem : List Nat) (ks : List RK) (slots : List (Option Nat)) (hm : P.follows .mixedOrders = true) (hb : backB ops = true) (ht : ((List.range ops.size).all fun i => decide (i < m) || (List.range m).all fun j => ndOf ops i j) = true) (hn : ops.size = n) (hf : n - m = f) (hmn : m ≤ n) (hrem : (List.range n).drop m = rem)
    (vs0 : List Value) (h00 : putO a0 slots vs0 = a0) (hF0 : Fs (ndOf ops) n ks w row (Array.replicate n false) vs0 W0.drew)
    (hstep : ∀ listed vs W, Fs (ndOf ops) n ks w row listed vs W → ∀ i, i < m → listed.getD i true = false → (∀ j, ndOf ops i j = true → listed.getD j false = true) → wpOp P ops Q i (fun a' W' => ∃ v, Fs (ndOf ops) n ks w row (listed.setIfInBounds i true) (vs.set i v) W' ∧ a' = putO a0 slots (vs.set i v)) (putO a0 slots vs) W)
    (hdone : ∀ listed vs W, Fs (ndOf ops) n ks w row listed vs W → (∀ j, j < m → listed.getD j false = true) → restOps P ops Q f rem (putO a0 slots vs) W) : (Code.region id ops true).wp P Q a0 W0 := by
  refine wp_region_rest m (fun listed a W => ∃ vs, Fs (ndOf ops) n ks w row listed vs W ∧ a = putO a0 slots vs) hm hb (by omega) ht ⟨vs0, by rw [hn]; exact hF0, h00.symm⟩ ?_ ?_
  · rintro listed a W ⟨vs, hF, rfl⟩ i hi hun hpre
    refine wpOp_mono (fun a' w' h => ?_) (hstep listed vs W hF i hi hun hpre)
    obtain ⟨v, hF', rfl⟩ := h
    exact ⟨_, hF', rfl⟩
  · rintro listed a W ⟨vs, hF, rfl⟩ hall
    rw [hn, hf, hrem]
    exact hdone listed vs W hF hall
/-- operation i waits for operation j, at once or over others -/
def reachB (ops : Array Oper) : Nat → Nat → Nat → Bool
  | 0, i, j => ndOf ops i j
  | f + 1, i, j => ndOf ops i j || (List.range ops.size).any fun k => ndOf ops i k && reachB ops f k j
theorem reach_listed {ops : Array Oper} {listed : Array Bool} (hb : ∀ i j, listed.getD i false = true → ndOf ops i j = true → listed.getD j false = true) : ∀ (f i j : Nat), (∀ j, ndOf ops i j = true → listed.getD j false = true) → reachB ops f i j = true → listed.getD j false = true
  | 0, _, j, h, hr => h j hr
  | f + 1, i, j, h, hr => by
    have hr : (ndOf ops i j || (List.range ops.size).any fun k => ndOf ops i k && reachB ops f k j) = true := hr
    rw [Bool.or_eq_true] at hr
    rcases hr with hr | hr
    · exact h j hr
    · obtain ⟨k, _, hk⟩ := List.any_eq_true.1 hr
      rw [Bool.and_eq_true] at hk
      exact reach_listed hb f k j (fun l hl => hb k l (h k hk.1) hl) hk.2
theorem wp_region_rest_r {P : Program} {ops : Array Oper} {Q : Exit → Act → World → Prop} {id : Nat} {a0 : Act} {w : World} (m : Nat) (J : Array Bool → Act → World → Prop) (hm : P.follows .mixedOrders = true) (hb : backB ops = true) (hmn : m ≤ ops.size)
    (fu : Nat) (hback : ∀ listed a W, J listed a W → ∀ i j, listed.getD i false = true → ndOf ops i j = true → listed.getD j false = true) (ht : ((List.range ops.size).all fun i => decide (i < m) || (List.range m).all fun j => reachB ops fu i j) = true)
    (h0 : J (Array.replicate ops.size false) a0 w.drew)
    (hstep : ∀ listed a W, J listed a W → ∀ i, i < m → listed.getD i true = false → (∀ j, ndOf ops i j = true → listed.getD j false = true) → wpOp P ops Q i (fun a' W' => J (listed.setIfInBounds i true) a' W') a W)
    (hmid : ∀ listed a W, J listed a W → (∀ j, j < m → listed.getD j false = true) → restOps P ops Q (ops.size - m) ((List.range ops.size).drop m) a W) : (Code.region id ops true).wp P Q a0 w := by
  refine wp_region_inv hm (fun listed a W => listed.size = ops.size ∧ ((∀ i, m ≤ i → i < ops.size → listed.getD i false = false) ∧ J listed a W ∨ ∃ rem : List Nat, rem.Nodup ∧ (∀ i, i < ops.size → (listed.getD i false = false ↔ i ∈ rem)) ∧ (∀ i ∈ rem, i < ops.size) ∧ restOps P ops Q rem.length rem a W)) ⟨by simp, .inl ⟨fun i _ _ => by simp [Array.getD, Array.getElem_replicate], h0⟩⟩ ?_ ?_
  · rintro listed a W ⟨hsz, hI⟩ i o ho hun hpre0
    have hi : i < ops.size := (Array.getElem?_eq_some_iff.1 ho).1
    have hil : i < listed.size := by omega
    have hoffi : listed.getD i false = false := by simp [hil] at hun ⊢; exact hun
    have hpre : ∀ j, ndOf ops i j = true → listed.getD j false = true := by
      intro j hj
      unfold ndOf needs at hj
      rw [ho] at hj
      simp only [List.contains_iff_mem, List.mem_map, List.mem_filter, Array.mem_toList_iff] at hj
      obtain ⟨e, ⟨he, hbd⟩, rfl⟩ := hj
      exact hpre0 e he hbd
    have go : ∀ rem : List Nat, rem.Nodup → (∀ k, k < ops.size → (listed.getD k false = false ↔ k ∈ rem)) → (∀ k ∈ rem, k < ops.size) → restOps P ops Q rem.length rem a W → wpOp P ops Q i (fun a' W' => (listed.setIfInBounds i true).size = ops.size ∧ ((∀ j, m ≤ j → j < ops.size → (listed.setIfInBounds i true).getD j false = false) ∧ J (listed.setIfInBounds i true) a' W' ∨ ∃ rem : List Nat, rem.Nodup ∧ (∀ k, k < ops.size → ((listed.setIfInBounds i true).getD k false = false ↔ k ∈ rem)) ∧ (∀ k ∈ rem, k < ops.size) ∧ restOps P ops Q rem.length rem a' W')) a W := by
      intro rem hnd hiff hlt hs
      have him := (hiff i hi).1 hoffi
      obtain ⟨f, hf⟩ : ∃ f, rem.length = f + 1 := ⟨rem.length - 1, by have := List.length_pos_of_mem him; omega⟩
      rw [hf] at hs
      refine wpOp_mono (fun a' W' h => ⟨by simpa using hsz, .inr ⟨rem.erase i, hnd.erase i, fun k hk => ?_, fun k hk => hlt k (List.mem_of_mem_erase hk), ?_⟩⟩) (hs i him fun j hj => ?_)
      · by_cases e : i = k
        · subst e
          rw [bit_in hil]
          exact ⟨fun h => (by cases h), fun h => absurd h (hnd.not_mem_erase)⟩
        · rw [bit_ne e, hiff k hk]
          exact (List.mem_erase_of_ne (fun h => e h.symm)).symm
      · rw [List.length_erase_of_mem him, hf, Nat.add_sub_cancel]; exact h
      · cases hn : ndOf ops i j with
        | false => rfl
        | true =>
          have h1 := hpre j hn
          rw [(hiff j (hlt j hj)).2 hj] at h1
          cases h1
    rcases hI with ⟨hoff, hJ⟩ | ⟨rem, hnd, hiff, hlt, hs⟩
    · rcases Nat.lt_or_ge i m with h | h
      · exact wpOp_mono (fun a' W' hJ' => ⟨by simpa using hsz, .inl ⟨fun j h1 h2 => by rw [bit_ne (by omega)]; exact hoff j h1 h2, hJ'⟩⟩) (hstep listed a W hJ i h hun hpre)
      · have hall : ∀ j, j < m → listed.getD j false = true := fun j hj => reach_listed (hback listed a W hJ) fu i j hpre (by
          have h1 := List.all_eq_true.1 ht i (List.mem_range.2 hi)
          rw [Bool.or_eq_true] at h1
          rcases h1 with h1 | h1
          · have := of_decide_eq_true h1; omega
          · exact List.all_eq_true.1 h1 j (List.mem_range.2 hj))
        refine go ((List.range ops.size).drop m) (List.nodup_range.sublist (List.drop_sublist _ _)) (fun k hk => ?_) (fun k hk => (range_from.1 hk).2) ?_
        · constructor
          · intro hk0
            refine range_from.2 ⟨?_, hk⟩
            rcases Nat.lt_or_ge k m with h2 | h2
            · rw [hall k h2] at hk0; cases hk0
            · exact h2
          · intro hk0
            exact hoff k (range_from.1 hk0).1 hk
        · rw [List.length_drop, List.length_range]
          exact hmid listed a W hJ hall
    · exact go rem hnd hiff hlt hs
  · rintro listed a W ⟨hsz, hI⟩ hr
    have hall := all_listed hsz hb hr
    rcases hI with ⟨hoff, hJ⟩ | ⟨rem, hnd, hiff, hlt, hs⟩
    · have e : m = ops.size := by
        rcases Nat.lt_or_ge m ops.size with h | h
        · have := hoff m (Nat.le_refl _) h
          rw [hall m h] at this
          cases this
        · omega
      have := hmid listed a W hJ (fun j hj => hall j (by omega))
      rw [e, Nat.sub_self] at this
      exact this
    · have e : rem = [] := by
        cases rem with
        | nil => rfl
        | cons k r =>
          have h1 := hall k (hlt k List.mem_cons_self)
          rw [(hiff k (hlt k List.mem_cons_self)).2 List.mem_cons_self] at h1
          cases h1
      subst e
      exact hs
theorem wp_region_facts_tail_r {P : Program} {ops : Array Oper} {Q : Exit → Act → World → Prop} {id : Nat} {a0 : Act} {w W0 : World} {row : Option Nat} (fu m f n : Nat) (rem : List Nat) (ks : List RK) (slots : List (Option Nat)) (hm : P.follows .mixedOrders = true) (hb : backB ops = true) (ht : ((List.range ops.size).all fun i => decide (i < m) || (List.range m).all fun j => reachB ops fu i j) = true) (hn : ops.size = n) (hf : n - m = f) (hmn : m ≤ n) (hrem : (List.range n).drop m = rem)
    (vs0 : List Value) (h00 : putO a0 slots vs0 = a0) (hF0 : Fs (ndOf ops) n ks w row (Array.replicate n false) vs0 W0.drew)
    (hstep : ∀ listed vs W, Fs (ndOf ops) n ks w row listed vs W → ∀ i, i < m → listed.getD i true = false → (∀ j, ndOf ops i j = true → listed.getD j false = true) → wpOp P ops Q i (fun a' W' => ∃ v, Fs (ndOf ops) n ks w row (listed.setIfInBounds i true) (vs.set i v) W' ∧ a' = putO a0 slots (vs.set i v)) (putO a0 slots vs) W)
    (hdone : ∀ listed vs W, Fs (ndOf ops) n ks w row listed vs W → (∀ j, j < m → listed.getD j false = true) → restOps P ops Q f rem (putO a0 slots vs) W) : (Code.region id ops true).wp P Q a0 W0 := by
  refine wp_region_rest_r m (fun listed a W => ∃ vs, Fs (ndOf ops) n ks w row listed vs W ∧ a = putO a0 slots vs) hm hb (by omega) fu (fun listed a W hJ => by obtain ⟨vs, hF, _⟩ := hJ; exact hF.back) ht ⟨vs0, by rw [hn]; exact hF0, h00.symm⟩ ?_ ?_
  · rintro listed a W ⟨vs, hF, rfl⟩ i hi hun hpre
    refine wpOp_mono (fun a' w' h => ?_) (hstep listed vs W hF i hi hun hpre)
    obtain ⟨v, hF', rfl⟩ := h
    exact ⟨_, hF', rfl⟩
  · rintro listed a W ⟨vs, hF, rfl⟩ hall
    rw [hn, hf, hrem]
    exact hdone listed vs W hF hall
section
variable {P : Program} {ops : Array Oper} {Q : Exit → Act → World → Prop} {f i j : Nat} {rem remi remj : List Nat} {a : Act} {w : World}
/-- only number i may come next -/
theorem rest_one (i : Nat) (o : Oper) (ho : ops[i]? = some o) (hr : (rem.all fun k => k == i || rem.any fun j => ndOf ops k j) = true) (he : rem.erase i = remi)
    (h : ∀ K' : Act → World → Prop, Shut (∀ a w, restOps P ops Q f remi a w → K' a w) → if Region.wanted o (yielded ops a.tmps) = true then Oper.wp P o a w K' Q else K' (a.put o.dst undef) w) : restOps P ops Q (f + 1) rem a w := by
  subst he
  intro k hk hready
  have h1 := List.all_eq_true.1 hr k hk
  rw [Bool.or_eq_true] at h1
  rcases h1 with h1 | h1
  · rw [beq_iff_eq] at h1
    subst h1
    exact step_of o ho h
  · obtain ⟨j, hj, hn⟩ := List.any_eq_true.1 h1
    rw [hready j hj] at hn
    cases hn
/-- number i or number j may come next -/
theorem rest_two (i j : Nat) (oi oj : Oper) (hoi : ops[i]? = some oi) (hoj : ops[j]? = some oj) (hr : (rem.all fun k => k == i || k == j || rem.any fun j => ndOf ops k j) = true) (hei : rem.erase i = remi) (hej : rem.erase j = remj)
    (hi : ∀ K' : Act → World → Prop, Shut (∀ a w, restOps P ops Q f remi a w → K' a w) → if Region.wanted oi (yielded ops a.tmps) = true then Oper.wp P oi a w K' Q else K' (a.put oi.dst undef) w)
    (hj : ∀ K' : Act → World → Prop, Shut (∀ a w, restOps P ops Q f remj a w → K' a w) → if Region.wanted oj (yielded ops a.tmps) = true then Oper.wp P oj a w K' Q else K' (a.put oj.dst undef) w) : restOps P ops Q (f + 1) rem a w := by
  subst hei
  subst hej
  intro k hk hready
  have h1 := List.all_eq_true.1 hr k hk
  rw [Bool.or_eq_true, Bool.or_eq_true] at h1
  rcases h1 with (h1 | h1) | h1
  · rw [beq_iff_eq] at h1
    subst h1
    exact step_of oi hoi hi
  · rw [beq_iff_eq] at h1
    subst h1
    exact step_of oj hoj hj
  · obtain ⟨j, hj, hn⟩ := List.any_eq_true.1 h1
    rw [hready j hj] at hn
    cases hn
theorem rest_end (h : Q .normal a w) : restOps P ops Q 0 rem a w := h
end
end Go.Proofs.YtemdjmaakajhjaaGreatDoor.Num

/- package fstat: the closure that hands all numbers of the arguments to a function of a row. Conditions: one array of numbers; the tables lie as they are laid. -/
namespace Go.Proofs.YtemdjmaakajhjaaGreatDoor.Num.Ft
open Go.RowKit Go.Lib Num

attribute [local irreducible] wpOp
set_option linter.unusedSimpArgs false in
set_option linter.unusedVariables false in
set_option maxHeartbeats 8000000 in
set_option maxRecDepth 100000 in
theorem many1_val (b f : Nat) (F : FuncId) (qs : List Rat) (q : Rat) (r s : Int) (gi Ci g C : Nat) (w : World) (hf : w.cell? ⟨f, 0, none⟩ = some (.func (.func F) #[] #[])) (hfb : f ≠ b) (eF : ∀ args w, (callFunc F args).run Tryz.prog w = .ok (.enter F args) w) (hR : RowF F qs (fracV q)) (hqs : ∀ x ∈ qs, fits x = true) (h0 : 0 < qs.length) (h9 : qs.length ≤ 1000) (ha : ArgsAt w b (some ⟨g, 0, none⟩) 1 C 0) (hv : ValsAt w g 0 [arrVal' r s gi qs.length Ci]) (hav : ValsAt w gi 0 (numVals qs)) (hne : g ≠ b) (hgi : gi ≠ b) (hE : Env w) (hP : Past b) :
    Calls Tryz.prog 142 #[.pointer (some ⟨b, 0, none⟩), .pointer (some ⟨f, 0, none⟩)] w fun e w' => e = .returned (fracV q) ∧ w.grownBy w' (some b) := by
  have hgl : g < w.heap.size := cell_lt (hv.at 0 (show 0 < 1 by decide)).1
  have hgil : gi < w.heap.size := cell_lt (hav.at 0 (by rw [numVals_len]; exact h0)).1
  have hbl : b < w.heap.size := heap_lt ha
  have hb : Below w.heap.size w (w.alloc (.cells #[.string { data := #[] }, .string { data := #[] }] 24)) := (Below.refl _ _).alloc (Nat.le_refl _) _
  have hpart : ∀ (W : World), Below w.heap.size w W → ∀ j (h : j < ([arrVal' r s gi qs.length Ci] : List Val).length) (h' : j < ([qs] : List (List Rat)).length), NArg W b W.heap.size ([arrVal' r s gi qs.length Ci] : List Val)[j] ([qs] : List (List Rat))[j] := by
    intro W hw j h h'
    have h2 : j < 1 := h'
    obtain rfl : j = 0 := by omega
    exact .inr ⟨r, s, gi, Ci, rfl, h0, h9, Nat.lt_of_lt_of_le hgil hw.size, hgi, hav.below hw⟩
  have TN := Lib.hid (fun (W : World) (hw : Below w.heap.size w W) (ga : ArgsAt W b (some ⟨g, 0, none⟩) 1 C 0) (ge : Env W) => numbers_mix [arrVal' r s gi qs.length Ci] [qs] b g C W (show 1 ≤ 300 by decide) rfl (by intro x hx; simp only [List.mem_cons, List.not_mem_nil, or_false] at hx; subst hx; exact h9) (by intro x hx; simp only [List.mem_cons, List.not_mem_nil, or_false] at hx; subst hx; exact hqs) ga (hv.below hw) (hpart W hw) hne (Nat.lt_of_lt_of_le hgl hw.size) ge hP)
  rw [show (([qs] : List (List Rat)).flatten) = qs by simp] at TN
  unfold RowF at hR
  have TR := Lib.hid hR
  have HX := Lib.hid (heap_alloc_new w (.cells #[.string { data := #[] }, .string { data := #[] }] 24))
  have HF := Lib.hid (cell_below hf hb)
  have hfl : f < w.heap.size := cell_lt hf
  have HL := Lib.hid hb
  have HA := Lib.hid (show ArgsAt _ b (some ⟨g, 0, none⟩) 1 C 0 from keep_block ha hb)
  have HE := Lib.hid (hE.below hb)
  have HP := Lib.hid hP
  have H0 := Lib.hid h0
  have HFB := Lib.hid hfb
  have NE := Lib.hid (show w.heap.size ≠ b from Nat.ne_of_gt hbl)
  rw [fracV_is q] at TR ⊢
  obtain ⟨W0, hW0⟩ : ∃ Z, w.alloc (.cells #[.string { data := #[] }, .string { data := #[] }] 24) = Z := ⟨_, rfl⟩
  rw [hW0] at HX HF HL HA HE
  have EW0 := Lib.hid hW0
  clear hf hR hqs h0 h9 ha hv hav hne hgi hE hP hb hpart hgl hgil hbl hfb hfl hW0
  go_enter Tryz.func142, Tryz.ntmps142
  go_upto_region 1 with fail
  rw [EW0.out]
  refine wp_region_rest 0 (fun _ a W => a = _ ∧ W = W0.drew) (by kernel_rfl) (by kernel_rfl) (Nat.zero_le _) (by kernel_rfl) ⟨rfl, rfl⟩ (fun _ _ _ _ i hi => absurd hi (Nat.not_lt_zero _)) ?_
  rintro listed a W ⟨rfl, rfl⟩ _
  have hq : Below W0.heap.size W0 W0.drew := (Below.refl _ _).drew
  replace HX := Lib.hid (keep_block HX.out hq)
  replace HF := Lib.hid (cell_below HF.out hq)
  replace HA := Lib.hid (show ArgsAt _ b (some ⟨g, 0, none⟩) 1 C 0 from keep_block HA.out hq)
  replace HE := Lib.hid (HE.out.below hq)
  replace HL := Lib.hid (HL.out.trans (hq.mono HL.out.size))
  obtain ⟨V0, hV0⟩ : ∃ Z, W0.drew = Z := ⟨_, rfl⟩
  rw [hV0] at HX HF HA HE HL ⊢
  clear hq hV0
  show restOps _ _ _ 6 [0, 1, 2, 3, 4, 5] _ _
  refine rest_two 0 1 ⟨some 4, _, _, _, _, _⟩ ⟨some 5, _, _, _, _, _⟩ rfl rfl (by kernel_rfl) rfl rfl (fun K' hK => ?_) (fun K' hK => ?_)
  · have xf := HF.out
    go_simp
    refine hK.out _ _ ?_
    clear xf
    refine rest_one 1 ⟨some 5, _, _, _, _, _⟩ rfl (by kernel_rfl) rfl (fun K' hK => ?_)
    go_simp
    refine hK.out _ _ ?_
    refine rest_one 2 ⟨some 6, _, _, _, _, _⟩ rfl (by kernel_rfl) rfl (fun K' hK => ?_)
    go_simp
    go_at_call 50
    (with_reducible refine (TN.out _ HL.out HA.out HE.out).mono ?_)
    rintro e V1 ⟨v, rfl, hown, hE1, hg⟩
    obtain ⟨gF, cap, rfl, hgF, hrow⟩ := hown.rowB H0.out
    have HRW := Lib.hid hrow
    replace HX := Lib.hid (kept_block HX.out hg NE.out)
    replace HF := Lib.hid (kept_cell HF.out hg HFB.out)
    have HG := Lib.hid (kept_trans (kept_below (b := b) HL.out) hg)
    replace HE := Lib.hid hE1
    clear hown hrow hgF hg hE1 HA HL
    refine hK.out _ _ ?_
    refine rest_one 3 ⟨some 7, _, _, _, _, _⟩ rfl (by kernel_rfl) rfl (fun K' hK => ?_)
    go_simp
    go_at_call 143
    (with_reducible refine (some_any _ _ _ _ H0.out).mono ?_)
    rintro e V2 ⟨rfl, hw⟩
    replace hw := hw.symm
    subst hw
    refine hK.out _ _ ?_
    refine rest_one 4 ⟨some 8, _, _, _, _, _⟩ rfl (by kernel_rfl) rfl (fun K' hK => ?_)
    go_simp
    refine (TR.out _ _ _ HRW.out.fracs HE.out).mono ?_
    rintro e V3 ⟨rfl, hq⟩
    replace HX := Lib.hid (keep_block HX.out hq)
    replace HG := Lib.hid (kept_trans HG.out (kept_below hq))
    clear hq
    refine hK.out _ _ ?_
    refine rest_one 5 ⟨none, _, _, _, _, _⟩ rfl (by kernel_rfl) rfl (fun K' hK => ?_)
    obtain ⟨⟨x0, x1⟩, y0, y1⟩ := two_at HX.out
    have HFI := Lib.hid (set2_at HX.out (.string (numS q)) (.string (denS q)))
    have HG2 := Lib.hid (kept2 HG.out (Nat.le_refl _) (.string (numS q)) (.string (denS q)))
    go_simp
    refine hK.out _ _ ?_
    refine rest_end ?_
    obtain ⟨⟨z0, z1⟩, _⟩ := two_at HFI.out
    go_wp2
    refine bodyPost_ret (v := .agg #[.string (numS q), .string (denS q)]) (by simp [results, Tryz.results142, go_sem, z0, z1]) rfl ⟨rfl, HG2.out⟩
  · go_simp
    refine hK.out _ _ ?_
    refine rest_two 0 2 ⟨some 4, _, _, _, _, _⟩ ⟨some 6, _, _, _, _, _⟩ rfl rfl (by kernel_rfl) rfl rfl (fun K' hK => ?_) (fun K' hK => ?_)
    · have xf := HF.out
      go_simp
      refine hK.out _ _ ?_
      clear xf
      refine rest_one 2 ⟨some 6, _, _, _, _, _⟩ rfl (by kernel_rfl) rfl (fun K' hK => ?_)
      go_simp
      go_at_call 50
      (with_reducible refine (TN.out _ HL.out HA.out HE.out).mono ?_)
      rintro e V1 ⟨v, rfl, hown, hE1, hg⟩
      obtain ⟨gF, cap, rfl, hgF, hrow⟩ := hown.rowB H0.out
      have HRW := Lib.hid hrow
      replace HX := Lib.hid (kept_block HX.out hg NE.out)
      replace HF := Lib.hid (kept_cell HF.out hg HFB.out)
      have HG := Lib.hid (kept_trans (kept_below (b := b) HL.out) hg)
      replace HE := Lib.hid hE1
      clear hown hrow hgF hg hE1 HA HL
      refine hK.out _ _ ?_
      refine rest_one 3 ⟨some 7, _, _, _, _, _⟩ rfl (by kernel_rfl) rfl (fun K' hK => ?_)
      go_simp
      go_at_call 143
      (with_reducible refine (some_any _ _ _ _ H0.out).mono ?_)
      rintro e V2 ⟨rfl, hw⟩
      replace hw := hw.symm
      subst hw
      refine hK.out _ _ ?_
      refine rest_one 4 ⟨some 8, _, _, _, _, _⟩ rfl (by kernel_rfl) rfl (fun K' hK => ?_)
      go_simp
      refine (TR.out _ _ _ HRW.out.fracs HE.out).mono ?_
      rintro e V3 ⟨rfl, hq⟩
      replace HX := Lib.hid (keep_block HX.out hq)
      replace HG := Lib.hid (kept_trans HG.out (kept_below hq))
      clear hq
      refine hK.out _ _ ?_
      refine rest_one 5 ⟨none, _, _, _, _, _⟩ rfl (by kernel_rfl) rfl (fun K' hK => ?_)
      obtain ⟨⟨x0, x1⟩, y0, y1⟩ := two_at HX.out
      have HFI := Lib.hid (set2_at HX.out (.string (numS q)) (.string (denS q)))
      have HG2 := Lib.hid (kept2 HG.out (Nat.le_refl _) (.string (numS q)) (.string (denS q)))
      go_simp
      refine hK.out _ _ ?_
      refine rest_end ?_
      obtain ⟨⟨z0, z1⟩, _⟩ := two_at HFI.out
      go_wp2
      refine bodyPost_ret (v := .agg #[.string (numS q), .string (denS q)]) (by simp [results, Tryz.results142, go_sem, z0, z1]) rfl ⟨rfl, HG2.out⟩
    · go_simp
      go_at_call 50
      (with_reducible refine (TN.out _ HL.out HA.out HE.out).mono ?_)
      rintro e V1 ⟨v, rfl, hown, hE1, hg⟩
      obtain ⟨gF, cap, rfl, hgF, hrow⟩ := hown.rowB H0.out
      have HRW := Lib.hid hrow
      replace HX := Lib.hid (kept_block HX.out hg NE.out)
      replace HF := Lib.hid (kept_cell HF.out hg HFB.out)
      have HG := Lib.hid (kept_trans (kept_below (b := b) HL.out) hg)
      replace HE := Lib.hid hE1
      clear hown hrow hgF hg hE1 HA HL
      refine hK.out _ _ ?_
      refine rest_two 0 3 ⟨some 4, _, _, _, _, _⟩ ⟨some 7, _, _, _, _, _⟩ rfl rfl (by kernel_rfl) rfl rfl (fun K' hK => ?_) (fun K' hK => ?_)
      · have xf := HF.out
        go_simp
        refine hK.out _ _ ?_
        clear xf
        refine rest_one 3 ⟨some 7, _, _, _, _, _⟩ rfl (by kernel_rfl) rfl (fun K' hK => ?_)
        go_simp
        go_at_call 143
        (with_reducible refine (some_any _ _ _ _ H0.out).mono ?_)
        rintro e V2 ⟨rfl, hw⟩
        replace hw := hw.symm
        subst hw
        refine hK.out _ _ ?_
        refine rest_one 4 ⟨some 8, _, _, _, _, _⟩ rfl (by kernel_rfl) rfl (fun K' hK => ?_)
        go_simp
        refine (TR.out _ _ _ HRW.out.fracs HE.out).mono ?_
        rintro e V3 ⟨rfl, hq⟩
        replace HX := Lib.hid (keep_block HX.out hq)
        replace HG := Lib.hid (kept_trans HG.out (kept_below hq))
        clear hq
        refine hK.out _ _ ?_
        refine rest_one 5 ⟨none, _, _, _, _, _⟩ rfl (by kernel_rfl) rfl (fun K' hK => ?_)
        obtain ⟨⟨x0, x1⟩, y0, y1⟩ := two_at HX.out
        have HFI := Lib.hid (set2_at HX.out (.string (numS q)) (.string (denS q)))
        have HG2 := Lib.hid (kept2 HG.out (Nat.le_refl _) (.string (numS q)) (.string (denS q)))
        go_simp
        refine hK.out _ _ ?_
        refine rest_end ?_
        obtain ⟨⟨z0, z1⟩, _⟩ := two_at HFI.out
        go_wp2
        refine bodyPost_ret (v := .agg #[.string (numS q), .string (denS q)]) (by simp [results, Tryz.results142, go_sem, z0, z1]) rfl ⟨rfl, HG2.out⟩
      · go_simp
        go_at_call 143
        (with_reducible refine (some_any _ _ _ _ H0.out).mono ?_)
        rintro e V2 ⟨rfl, hw⟩
        replace hw := hw.symm
        subst hw
        refine hK.out _ _ ?_
        refine rest_one 0 ⟨some 4, _, _, _, _, _⟩ rfl (by kernel_rfl) rfl (fun K' hK => ?_)
        have xf := HF.out
        go_simp
        refine hK.out _ _ ?_
        clear xf
        refine rest_one 4 ⟨some 8, _, _, _, _, _⟩ rfl (by kernel_rfl) rfl (fun K' hK => ?_)
        go_simp
        refine (TR.out _ _ _ HRW.out.fracs HE.out).mono ?_
        rintro e V3 ⟨rfl, hq⟩
        replace HX := Lib.hid (keep_block HX.out hq)
        replace HG := Lib.hid (kept_trans HG.out (kept_below hq))
        clear hq
        refine hK.out _ _ ?_
        refine rest_one 5 ⟨none, _, _, _, _, _⟩ rfl (by kernel_rfl) rfl (fun K' hK => ?_)
        obtain ⟨⟨x0, x1⟩, y0, y1⟩ := two_at HX.out
        have HFI := Lib.hid (set2_at HX.out (.string (numS q)) (.string (denS q)))
        have HG2 := Lib.hid (kept2 HG.out (Nat.le_refl _) (.string (numS q)) (.string (denS q)))
        go_simp
        refine hK.out _ _ ?_
        refine rest_end ?_
        obtain ⟨⟨z0, z1⟩, _⟩ := two_at HFI.out
        go_wp2
        refine bodyPost_ret (v := .agg #[.string (numS q), .string (denS q)]) (by simp [results, Tryz.results142, go_sem, z0, z1]) rfl ⟨rfl, HG2.out⟩
end Go.Proofs.YtemdjmaakajhjaaGreatDoor.Num.Ft

/- package value and fmath: Size, List, Inside, faults at arguments that are numbers or arrays. Conditions: all numbers fit; the tables lie as they are laid. -/
namespace Go.Proofs.YtemdjmaakajhjaaGreatDoor.Num
open Go.RowKit Go.Lib

/-- a number, or an array of r rows and s columns -/
def PArg (W : World) (v : Val) (r s : Int) (qs : List Rat) : Prop :=
  (∃ q, v = numVal' q ∧ qs = [q] ∧ r = 1 ∧ s = 1) ∨ ∃ g C, v = arrVal' r s g qs.length C ∧ 1 ≤ r ∧ r ≤ 1000 ∧ 1 ≤ s ∧ s ≤ 1000 ∧ r * s = (qs.length : Int) ∧ 0 < qs.length ∧ qs.length ≤ 1000 ∧ ValsAt W g 0 (numVals qs)
theorem PArg.below {W W' : World} {v : Val} {r s : Int} {qs : List Rat} (h : PArg W v r s qs) (hb : Below W.heap.size W W') : PArg W' v r s qs := by
  rcases h with h | ⟨g, C, h1, h2, h3, h4, h5, h6, h7, h8, h9⟩
  · exact .inl h
  · exact .inr ⟨g, C, h1, h2, h3, h4, h5, h6, h7, h8, h9.below hb⟩
theorem PArg.aarg {W : World} {v : Val} {r s : Int} {qs : List Rat} (h : PArg W v r s qs) : AArg W v qs := by
  rcases h with ⟨q, h1, h2, _⟩ | ⟨g, C, h⟩
  · exact .inl ⟨q, h1, h2⟩
  · exact .inr ⟨r, s, g, C, h⟩
theorem PArg.pos {W : World} {v : Val} {r s : Int} {qs : List Rat} (h : PArg W v r s qs) : 0 < qs.length ∧ qs.length ≤ 1000 ∧ r * s = (qs.length : Int) ∧ 1 ≤ r ∧ 1 ≤ s ∧ r ≤ 1000 ∧ s ≤ 1000 := by
  rcases h with ⟨q, h1, rfl, rfl, rfl⟩ | ⟨g, C, h1, h2, h3, h4, h5, h6, h7, h8, h9⟩
  · simp
  · exact ⟨h7, h8, h6, h2, h4, h3, h5⟩
/-- a block elsewhere has turned -/
theorem PArg.other {W W' : World} {v : Val} {r s : Int} {qs : List Rat} {B : Nat} (h : PArg W v r s qs) (hB : ∀ g, v.A = some ⟨g, 0, none⟩ → g < B) (ho : ∀ k, k < B → W'.heap[k]? = W.heap[k]?) : PArg W' v r s qs := by
  rcases h with h | ⟨g, C, rfl, h2, h3, h4, h5, h6, h7, h8, h9⟩
  · exact .inl h
  · exact .inr ⟨g, C, rfl, h2, h3, h4, h5, h6, h7, h8, vals_other h9 (ho g (hB g rfl))⟩
theorem PArg.lt {W : World} {v : Val} {r s : Int} {qs : List Rat} (h : PArg W v r s qs) : ∀ g, v.A = some ⟨g, 0, none⟩ → g < W.heap.size := by
  intro g hg
  rcases h with ⟨q, rfl, _⟩ | ⟨g', C, rfl, h2, h3, h4, h5, h6, h7, h8, h9⟩
  · simp [numVal'] at hg
  · simp [arrVal'] at hg
    subst hg
    exact items_lt h9 h7

set_option maxHeartbeats 4000000 in
set_option maxRecDepth 100000 in
theorem size_arr (r s : Int) (g L C : Nat) (w : World) :
    Calls Tryz.prog 283 #[.agg #[.int .i64 5, .string { data := #[] }, .string { data := #[] }, .string { data := #[] }, .bool false, .int .i64 0, .int .i64 r, .int .i64 s, .slice (some ⟨g, 0, none⟩) L C]] w fun e w' => e = .returned (.tuple #[.int .i64 r, .int .i64 s]) ∧ Below w.heap.size w w' := by
  have hb : Below w.heap.size w (w.alloc (.cells #[.int .i64 5, .string { data := #[] }, .string { data := #[] }, .string { data := #[] }, .bool false, .int .i64 0, .int .i64 r, .int .i64 s, .slice (some ⟨g, 0, none⟩) L C] 27)) := (Below.refl _ _).alloc (Nat.le_refl _) _
  have HL := Lib.hid hb
  have HX := Lib.hid (heap_alloc_new w (.cells #[.int .i64 5, .string { data := #[] }, .string { data := #[] }, .string { data := #[] }, .bool false, .int .i64 0, .int .i64 r, .int .i64 s, .slice (some ⟨g, 0, none⟩) L C] 27))
  obtain ⟨W1, hW1⟩ : ∃ W1, w.alloc (.cells #[.int .i64 5, .string { data := #[] }, .string { data := #[] }, .string { data := #[] }, .bool false, .int .i64 0, .int .i64 r, .int .i64 s, .slice (some ⟨g, 0, none⟩) L C] 27) = W1 := ⟨_, rfl⟩
  rw [hW1] at HX HL
  have HW := Lib.hid hW1
  clear hb hW1
  go_enter Tryz.func283, Tryz.ntmps283
  go_wp2_with fail
  rw [HW.out]
  obtain ⟨⟨x0, x1, x2, x3, x4, x5, x6, x7, x8⟩, _⟩ := nine_at HX.out
  go_quiet (fail)
  go_wp2
  go_ret2
  exact ⟨rfl, below_drewN HL.out _⟩

set_option maxHeartbeats 4000000 in
set_option maxRecDepth 100000 in
theorem size_num (q : Rat) (w : World) :
    Calls Tryz.prog 283 #[.agg #[.int .i64 1, .string (numS q), .string (denS q), .string { data := #[] }, .bool false, .int .i64 0, .int .i64 0, .int .i64 0, .slice none 0 0]] w fun e w' => e = .returned (.tuple #[.int .i64 1, .int .i64 1]) ∧ Below w.heap.size w w' := by
  go_enter Tryz.func283, Tryz.ntmps283
  go_wp2
  go_ret2
  exact ⟨rfl, (Below.refl _ _).alloc (Nat.le_refl _) _⟩

theorem size_val {v : Val} {r s : Int} {qs : List Rat} (W : World) (h : PArg W v r s qs) :
    Calls Tryz.prog 283 #[.agg #[.int .i64 v.k, .string v.n, .string v.d, .string v.t, .bool v.on, .int .i64 v.c, .int .i64 v.r, .int .i64 v.s, .slice v.A v.L v.C]] W fun e w' => e = .returned (.tuple #[.int .i64 r, .int .i64 s]) ∧ Below W.heap.size W w' := by
  rcases h with ⟨q, rfl, rfl, rfl, rfl⟩ | ⟨g, C, rfl, h⟩
  · exact size_num q W
  · exact size_arr r s g qs.length C W
theorem list_val {v : Val} {r s : Int} {qs : List Rat} (W : World) (h : PArg W v r s qs) :
    Calls Tryz.prog 135 #[.agg #[.int .i64 v.k, .string v.n, .string v.d, .string v.t, .bool v.on, .int .i64 v.c, .int .i64 v.r, .int .i64 v.s, .slice v.A v.L v.C]] W fun e w' => ∃ g C, e = .returned (.slice (some ⟨g, 0, none⟩) qs.length C) ∧ ValsAt w' g 0 (numVals qs) ∧ Below W.heap.size W w' := by
  rcases h with ⟨q, rfl, rfl, rfl, rfl⟩ | ⟨g, C, rfl, h2, h3, h4, h5, h6, h7, h8, h9⟩
  · exact (list_num q W).mono fun e w' ⟨g, h1, h2, h3⟩ => ⟨g, 1, h1, h2, h3⟩
  · exact (list_arr r s g qs.length C W).mono fun e w' ⟨h1, h2⟩ => ⟨g, C, h1, h9.below h2, h2⟩
theorem inside_val {v : Val} {r s : Int} {qs : List Rat} (W : World) (h : PArg W v r s qs) (hE : Env W) :
    Calls Tryz.prog 71 #[.agg #[.int .i64 v.k, .string v.n, .string v.d, .string v.t, .bool v.on, .int .i64 v.c, .int .i64 v.r, .int .i64 v.s, .slice v.A v.L v.C]] W fun e w' => ∃ u, e = .returned u ∧ Below W.heap.size W w' := by
  rcases h with ⟨q, rfl, rfl, rfl, rfl⟩ | ⟨g, C, rfl, h2, h3, h4, h5, h6, h7, h8, h9⟩
  · exact (inside_num q W hE).mono fun e w' ⟨u, h1, h2, h3, h4⟩ => ⟨u, h1, h4⟩
  · exact (inside_arr qs r s g C W h8 h7 h9 hE).mono fun e w' ⟨u, h1, h2, h3, h4⟩ => ⟨u, h1, h4⟩

/-- arguments in a row, each with its shape -/
def PArgs (W : World) (vs : List Val) : Prop := ∀ j (h : j < vs.length), ∃ r s qs, PArg W vs[j] r s qs
theorem PArgs.below {W W' : World} {vs : List Val} (h : PArgs W vs) (hb : Below W.heap.size W W') : PArgs W' vs := fun j hj => by
  obtain ⟨r, s, qs, h⟩ := h j hj
  exact ⟨r, s, qs, h.below hb⟩
structure FauI (w : World) (g : Nat) (vs : List Val) (W : World) : Prop where
  vals : ValsAt W g 0 vs
  parts : PArgs W vs
  env : Env W
  low : Below w.heap.size w W
theorem FauI.step {w W W' : World} {g : Nat} {vs : List Val} (h : FauI w g vs W) (hb : Below W.heap.size W W') : FauI w g vs W' :=
  ⟨h.vals.below hb, h.parts.below hb, h.env.below hb, h.low.trans (hb.mono h.low.size)⟩
/-- the cells of value i -/
theorem val_at {W : World} {g : Nat} {vs : List Val} (h : ValsAt W g 0 vs) (i : Nat) (hi : i < vs.length) (v : Val) (hv : vs[i] = v) :
    W.cell? ⟨g, i * 9, none⟩ = some (.int .i64 v.k) ∧ W.cell? ⟨g, i * 9 + 1, none⟩ = some (.string v.n) ∧ W.cell? ⟨g, i * 9 + 2, none⟩ = some (.string v.d) ∧ W.cell? ⟨g, i * 9 + 3, none⟩ = some (.string v.t) ∧ W.cell? ⟨g, i * 9 + 4, none⟩ = some (.bool v.on) ∧ W.cell? ⟨g, i * 9 + 5, none⟩ = some (.int .i64 v.c) ∧ W.cell? ⟨g, i * 9 + 6, none⟩ = some (.int .i64 v.r) ∧ W.cell? ⟨g, i * 9 + 7, none⟩ = some (.int .i64 v.s) ∧ W.cell? ⟨g, i * 9 + 8, none⟩ = some (.slice v.A v.L v.C) := by
  have := h.at i hi
  rw [hv, Nat.zero_add] at this
  exact this

set_option maxHeartbeats 4000000 in
set_option maxRecDepth 100000 in
theorem faults_any (vs : List Val) (g C : Nat) (w : World) (h9 : vs.length ≤ 100000) (hv : ValsAt w g 0 vs) (hp : PArgs w vs) (hE : Env w) :
    Calls Tryz.prog 284 #[.slice (some ⟨g, 0, none⟩) vs.length C] w fun e w' => e = .returned (.tuple #[]) ∧ Below w.heap.size w w' := by
  have HI0 := Lib.hid (show FauI w g vs w from ⟨hv, hp, hE, Below.refl _ _⟩)
  obtain ⟨L, hL⟩ : ∃ L, vs.length = L := ⟨_, rfl⟩
  have HLL := Lib.hid hL
  rw [hL] at h9 ⊢
  clear hv hp hE hL
  go_enter Tryz.func284, Tryz.ntmps284
  go_wp2_with fail
  go_loopg [6] L (fun gh v6 wx => ∃ k : Nat, v6 = .int .i64 (k : Int) ∧ k ≤ L ∧ gh = L - k ∧ FauI w g vs wx)
  case atStart => exact ⟨0, rfl, Nat.zero_le _, rfl, HI0.out⟩
  case round =>
    clear HI0
    obtain ⟨k, rfl, hk, rfl, hti⟩ := hrel
    have HTI := Lib.hid hti
    clear hti
    by_cases hlt : k < L
    · have hd : decide ((k : Int) < (L : Int)) = true := decide_eq_true (by omega)
      have hd2 : decide (k < L) = true := decide_eq_true hlt
      have hkq : k < vs.length := by rw [HLL.out]; exact hlt
      obtain ⟨v, hvv⟩ : ∃ v, vs[k] = v := ⟨_, rfl⟩
      obtain ⟨r, s, qs, hpa⟩ := HTI.out.parts k hkq
      rw [hvv] at hpa
      have HPA := Lib.hid hpa
      obtain ⟨c0, c1, c2, c3, c4, c5, c6, c7, c8⟩ := val_at HTI.out.vals k hkq v hvv
      have hi0 : (0 : Int) ≤ (k : Int) := by omega
      have hi1 : (k : Int) < (L : Int) := by omega
      clear hpa hvv
      have hq := (Below.refl wr.heap.size wr).alloc (Nat.le_refl _) (.cells #[.int .i64 v.k, .string v.n, .string v.d, .string v.t, .bool v.on, .int .i64 v.c, .int .i64 v.r, .int .i64 v.s, .slice v.A v.L v.C] 27)
      have HTA := Lib.hid (HTI.out.step hq)
      replace HPA := Lib.hid (HPA.out.below hq)
      clear hq
      go_wp2_with fail
      refine (inside_val _ HPA.out HTA.out.env).mono ?_
      rintro e w2 ⟨u, rfl, hb⟩
      have HT2 := Lib.hid (HTA.out.step hb)
      clear hb c0 c1 c2 c3 c4 c5 c6 c7 c8
      go_wp2
      go_roundg (L - (k + 1))
      case measure => omega
      case rel => exact ⟨k + 1, by go_num, by omega, by omega, HT2.out⟩
    · have hd : decide ((k : Int) < (L : Int)) = false := decide_eq_false (by omega)
      have hd2 : decide (k < L) = false := decide_eq_false hlt
      clear hlt
      go_wp2
      go_end0
      exact ⟨rfl, HTI.out.low⟩
end Go.Proofs.YtemdjmaakajhjaaGreatDoor.Num

/- Two arguments, one argument: numbers or arrays of numbers. No conditions. -/
namespace Go.Proofs.YtemdjmaakajhjaaGreatDoor.Num
open Go.RowKit Go.Lib

theorem args2_two {W : World} {va vb : Val} {qa qb : List Rat} (ha : AArg W va qa) (hb : AArg W vb qb) : Args2 W [va, vb] [qa, qb] := by
  refine ⟨rfl, fun j h h' => ?_⟩
  match j, h with
  | 0, _ => exact ha
  | 1, _ => exact hb
theorem args2_one {W : World} {va : Val} {qa : List Rat} (ha : AArg W va qa) : Args2 W [va] [qa] := by
  refine ⟨rfl, fun j h h' => ?_⟩
  match j, h with
  | 0, _ => exact ha
end Go.Proofs.YtemdjmaakajhjaaGreatDoor.Num

/- A row of the call's own lies behind what stood. No conditions. -/
namespace Go.Proofs.YtemdjmaakajhjaaGreatDoor.Num
open Go

theorem owned_lt {B n z : Nat} {S : TypeId} {xs : List Value} {W : World} {v : Value} (h : W.ownsRow B S z v n xs) : ∀ r, v.ownBlock = some r → B ≤ r := by
  intro r hr
  rcases h.2 with ⟨rfl, _⟩ | ⟨g, cap, cur, rfl, hb, _⟩
  · simp [Value.ownBlock] at hr
  · simp [Value.ownBlock] at hr; omega
end Go.Proofs.YtemdjmaakajhjaaGreatDoor.Num

/- package fstat: the entry of a row that 'many' wraps, and the law's own call at one array. Conditions: one array of numbers that all fit; the tables lie as they are laid. -/
namespace Go.Proofs.YtemdjmaakajhjaaGreatDoor.Num.Ft
open Go.RowKit Go.Lib Go.MapKept Num

set_option maxHeartbeats 4000000 in
set_option maxRecDepth 100000 in
theorem entrym_val (r : Row) (g cap e : Nat) (vs : List Val) (q : Rat) (w : World) (hr : r.num = true) (hfn : FnAt w e r) (hE : Env w) (hv : ValsAt w g 0 vs) (hq : fits q = true)
    (hF : ∀ W b, Below w.heap.size w W → Env W → Past b → w.heap.size ≤ b → b < W.heap.size → ArgsAt W b (some ⟨g, 0, none⟩) vs.length cap 0 → ValsAt W g 0 vs → g ≠ b → ∀ f, f ≠ b → W.cell? ⟨f, 0, none⟩ = some (.func (.func r.fn) #[] #[]) → Calls Tryz.prog 142 #[.pointer (some ⟨b, 0, none⟩), .pointer (some ⟨f, 0, none⟩)] W fun e w' => e = .returned (fracV q) ∧ W.grownBy w' (some b)) (hv0 : 0 < vs.length) :
    Calls Tryz.prog 133 #[.slice (some ⟨g, 0, none⟩) vs.length cap, .pointer (some ⟨e, 0, none⟩)] w fun e w' => e = .returned (numVal q) ∧ Below w.heap.size w w' := by
  unfold FnAt at hfn
  rw [if_pos hr] at hfn
  obtain ⟨f, he, hf⟩ := hfn
  have hfl : f < w.heap.size := cell_lt hf
  obtain ⟨hR, hB, hb⟩ := two_new w (.cells #[.int .i64 0, .string { data := #[] }, .string { data := #[] }, .string { data := #[] }, .bool false, .int .i64 0, .int .i64 0, .int .i64 0, .slice none 0 0] 27) (.cells #[.slice (some ⟨g, 0, none⟩) vs.length cap, .int .i64 0] 99)
  have HR := Lib.hid hR
  have HL := Lib.hid hb
  have HX := Lib.hid (cell_below he ((Below.refl w.heap.size w).alloc (Nat.le_refl _) (.cells #[.int .i64 0, .string { data := #[] }, .string { data := #[] }, .string { data := #[] }, .bool false, .int .i64 0, .int .i64 0, .int .i64 0, .slice none 0 0] 27)))
  have HE := Lib.hid (hE.below hb)
  have hgl : g < w.heap.size := cell_lt (hv.at 0 hv0).1
  have TN := Lib.hid ((fun W h => hF W (w.heap.size + 1) (hb.trans (h.mono hb.size)) ((hE.below hb).below h) (hE.past (Nat.le_succ _)) (Nat.le_succ _) (by have := h.size; simp at this; omega) (keep_block hB h) ((hv.below hb).below h) (by omega) f (by omega) (cell_below (cell_below hf hb) h)) _ (Below.refl _ _))
  have hqf := hq
  have HP := Lib.hid (hE.past (Nat.le_succ _) (b := w.heap.size + 1))
  have TV := Lib.hid (fun W g => number_any q W hqf g)
  rw [numVal_is q] at TV ⊢
  rw [fracV_is q] at TV TN
  clear hR hB hb he hF hE hv hgl hqf hq hf hfl
  obtain x0 := HX.out
  go_enter Tryz.func133, Tryz.ntmps133
  go_wp2_with fail
  refine TN.out.mono ?_
  rintro e W1 ⟨rfl, hg⟩
  replace HR := Lib.hid (kept_block HR.out hg (by omega))
  have HG := Lib.hid (below_map HL.out (Nat.le_succ _) hg)
  replace HE := Lib.hid (HE.out.kept hg HP.out)
  clear hg x0 HX
  go_wp2_with fail
  refine (TV.out _ HE.out).mono ?_
  rintro e W2 ⟨rfl, hb⟩
  replace HR := Lib.hid (keep_block HR.out hb)
  replace HG := Lib.hid (HG.out.trans (hb.mono HG.out.size))
  clear hb
  obtain ⟨⟨r0, r1, r2, r3, r4, r5, r6, r7, r8⟩, g0, g1, g2, g3, g4, g5, g6, g7, g8⟩ := nine_at HR.out
  obtain ⟨nb, z0, z1, z2, z3, z4, z5, z6, z7, z8⟩ := nine_end (x0 := (.int .i64 1)) (x1 := (.string (numS q))) (x2 := (.string (denS q))) (x3 := (.string { data := #[] })) (x4 := (.bool false)) (x5 := (.int .i64 0)) (x6 := (.int .i64 0)) (x7 := (.int .i64 0)) (x8 := (.slice none 0 0)) HR.out HG.out (Nat.le_refl _)
  go_wp2
  refine bodyPost_ret (v := .agg #[.int .i64 1, .string (numS q), .string (denS q), .string { data := #[] }, .bool false, .int .i64 0, .int .i64 0, .int .i64 0, .slice none 0 0]) (by simp [results, Tryz.results133, go_sem, z0, z1, z2, z3, z4, z5, z6, z7, z8]) rfl ⟨rfl, nb⟩

set_option maxHeartbeats 4000000 in
set_option maxRecDepth 100000 in
theorem entryn2_val (r : Row) (g cap e : Nat) (vs : List Val) (q : Rat) (w : World) (hr : r.num = false) (hfn : FnAt w e r) (eF : ∀ args w, (callFunc r.fn args).run Tryz.prog w = .ok (.enter r.fn args) w) (hE : Env w) (hv : ValsAt w g 0 vs) (hq : fits q = true)
    (hF : ∀ W b, Below w.heap.size w W → Env W → Past b → w.heap.size ≤ b → b < W.heap.size → ArgsAt W b (some ⟨g, 0, none⟩) vs.length cap 0 → ValsAt W g 0 vs → g ≠ b → Calls Tryz.prog r.fn #[.pointer (some ⟨b, 0, none⟩)] W fun e w' => e = .returned (fracV q) ∧ W.grownBy w' (some b)) (hv0 : 0 < vs.length) :
    Calls Tryz.prog 133 #[.slice (some ⟨g, 0, none⟩) vs.length cap, .pointer (some ⟨e, 0, none⟩)] w fun e w' => e = .returned (numVal q) ∧ Below w.heap.size w w' := by
  unfold FnAt at hfn
  rw [if_neg (by rw [hr]; decide)] at hfn
  have he := hfn
  obtain ⟨hR, hB, hb⟩ := two_new w (.cells #[.int .i64 0, .string { data := #[] }, .string { data := #[] }, .string { data := #[] }, .bool false, .int .i64 0, .int .i64 0, .int .i64 0, .slice none 0 0] 27) (.cells #[.slice (some ⟨g, 0, none⟩) vs.length cap, .int .i64 0] 99)
  have HR := Lib.hid hR
  have HL := Lib.hid hb
  have HX := Lib.hid (cell_below he ((Below.refl w.heap.size w).alloc (Nat.le_refl _) (.cells #[.int .i64 0, .string { data := #[] }, .string { data := #[] }, .string { data := #[] }, .bool false, .int .i64 0, .int .i64 0, .int .i64 0, .slice none 0 0] 27)))
  have HE := Lib.hid (hE.below hb)
  have hgl : g < w.heap.size := cell_lt (hv.at 0 hv0).1
  have TN := Lib.hid ((fun W h => hF W (w.heap.size + 1) (hb.trans (h.mono hb.size)) ((hE.below hb).below h) (hE.past (Nat.le_succ _)) (Nat.le_succ _) (by have := h.size; simp at this; omega) (keep_block hB h) ((hv.below hb).below h) (by omega)) _ (Below.refl _ _))
  have hqf := hq
  have HP := Lib.hid (hE.past (Nat.le_succ _) (b := w.heap.size + 1))
  have TV := Lib.hid (fun W g => number_any q W hqf g)
  rw [numVal_is q] at TV ⊢
  rw [fracV_is q] at TV TN
  clear hR hB hb he hF hE hv hgl hqf hq
  obtain x0 := HX.out
  go_enter Tryz.func133, Tryz.ntmps133
  go_wp2_with fail
  refine TN.out.mono ?_
  rintro e W1 ⟨rfl, hg⟩
  replace HR := Lib.hid (kept_block HR.out hg (by omega))
  have HG := Lib.hid (below_map HL.out (Nat.le_succ _) hg)
  replace HE := Lib.hid (HE.out.kept hg HP.out)
  clear hg x0 HX
  go_wp2_with fail
  refine (TV.out _ HE.out).mono ?_
  rintro e W2 ⟨rfl, hb⟩
  replace HR := Lib.hid (keep_block HR.out hb)
  replace HG := Lib.hid (HG.out.trans (hb.mono HG.out.size))
  clear hb
  obtain ⟨⟨r0, r1, r2, r3, r4, r5, r6, r7, r8⟩, g0, g1, g2, g3, g4, g5, g6, g7, g8⟩ := nine_at HR.out
  obtain ⟨nb, z0, z1, z2, z3, z4, z5, z6, z7, z8⟩ := nine_end (x0 := (.int .i64 1)) (x1 := (.string (numS q))) (x2 := (.string (denS q))) (x3 := (.string { data := #[] })) (x4 := (.bool false)) (x5 := (.int .i64 0)) (x6 := (.int .i64 0)) (x7 := (.int .i64 0)) (x8 := (.slice none 0 0)) HR.out HG.out (Nat.le_refl _)
  go_wp2
  refine bodyPost_ret (v := .agg #[.int .i64 1, .string (numS q), .string (denS q), .string { data := #[] }, .bool false, .int .i64 0, .int .i64 0, .int .i64 0, .slice none 0 0]) (by simp [results, Tryz.results133, go_sem, z0, z1, z2, z3, z4, z5, z6, z7, z8]) rfl ⟨rfl, nb⟩


/-- the law's stat at a row that 'many' wraps, over one array -/
theorem stat_m (i : Nat) (r : Row) (hi : i < allRows.length) (hr : allRows[i] = r) (hraw : isRaw r.fn = false) (hkd : r.kinds = { data := #[97] }) (hfr : ∀ j (hj : j < i), (allRows[i].name == (allRows[j]'(by omega)).name) = false) (hnum : r.num = true) (hc1 : r.least = 1) (hc2 : r.most = 255) (eF : ∀ args w, (callFunc r.fn args).run Tryz.prog w = .ok (.enter r.fn args) w) (qs : List Rat) (q : Rat) (hRow : RowF r.fn qs (fracV q)) (rr ss : Int) (gi Ci ab ao C : Nat) (w : World) (hA : AArg w (arrVal' rr ss gi qs.length Ci) qs) (hav : ValsAt w gi 0 (numVals qs)) (h0 : 0 < qs.length) (h9 : qs.length ≤ 1000) (hqs : ∀ x ∈ qs, fits x = true) (hq : fits q = true) (hv : ValsAt w ab ao [arrVal' rr ss gi qs.length Ci]) (hE : Env w) :
    Calls Tryz.prog 9 #[.string r.name, .slice (some ⟨ab, ao, none⟩) 1 C] w fun e w' => e = .returned (numVal q) ∧ Below w.heap.size w w' :=
  math_of r.name (.slice (some ⟨ab, ao, none⟩) 1 C) (numVal' q) w ⟨_, _, _, rfl⟩ (fun W b hb hT =>
    run_a_val i r hi hr hraw hkd hfr [arrVal' rr ss gi qs.length Ci] b ab ao C (numVal' q) W (show 0 < 1 by decide) (show 1 ≤ 300 by decide) (by rw [hc1]; exact (show (1 : Int) ≤ ((1 : Nat) : Int) by decide)) (by rw [hc2]; exact (show ((1 : Nat) : Int) ≤ 255 by decide)) (hv.below hb) (hE.below hb) hT ⟨rfl, rfl, rfl, rfl, rfl⟩ (fun W g => check_num q W hq g)
      (fun v hv' W' h => by
        simp only [List.mem_cons, List.not_mem_nil, or_false] at hv'
        subst hv'
        exact (hA.below (hb.trans (h.mono hb.size))).check hqs ((hE.below hb).below h))
      (fun W' e g cap hb' hE' hfn hva => entrym_val r g cap e [arrVal' rr ss gi qs.length Ci] q W' hnum hfn hE' hva hq (fun W'' b' hb'' hE'' hP hbl hlt ha hva' hne f hfb hf =>
        have hB := hb.trans ((hb'.trans (hb''.mono hb'.size)).mono hb.size)
        have hgi : gi ≠ b' := by
          have h2 : gi < w.heap.size := cell_lt (hav.at 0 (by rw [numVals_len]; exact h0)).1
          have h3 := hb.size
          have h4 := hb'.size
          omega
        many1_val b' f r.fn qs q rr ss gi Ci g cap W'' hf hfb eF hRow hqs h0 h9 ha hva' (hav.below hB) hne hgi hE'' hP) (show 0 < 1 by decide)))
end Go.Proofs.YtemdjmaakajhjaaGreatDoor.Num.Ft

/- package fstat: AVERAGE over its arguments. Conditions: one array of numbers that all fit; the tables lie as they are laid. -/
namespace Go.Proofs.YtemdjmaakajhjaaGreatDoor.Num.Ft
open Go.RowKit Go.Lib Num

set_option linter.unusedSimpArgs false in
set_option linter.unusedVariables false in
set_option maxHeartbeats 8000000 in
set_option maxRecDepth 100000 in
theorem average_walk (b : Nat) (qs : List Rat) (sm n q : Rat) (r s : Int) (gi Ci g C : Nat) (w : World) (hR : RowF 52 qs (fracV sm))
    (c0 : Fun1 29 (.int .i64 ((qs.length : Int))) (fracV n)) (c1 : Fun2 51 (fracV sm) (fracV n) (fracV q))
    (hqs : ∀ x ∈ qs, fits x = true) (h0 : 0 < qs.length) (h9 : qs.length ≤ 1000) (ha : ArgsAt w b (some ⟨g, 0, none⟩) 1 C 0) (hv : ValsAt w g 0 [arrVal' r s gi qs.length Ci]) (hav : ValsAt w gi 0 (numVals qs)) (hne : g ≠ b) (hgi : gi ≠ b) (hE : Env w) (hP : Past b) :
    Calls Tryz.prog 49 #[.pointer (some ⟨b, 0, none⟩)] w fun e w' => e = .returned (fracV q) ∧ w.grownBy w' (some b) := by
  have hgl : g < w.heap.size := cell_lt (hv.at 0 (show 0 < 1 by decide)).1
  have hgil : gi < w.heap.size := cell_lt (hav.at 0 (by rw [numVals_len]; exact h0)).1
  have hbl : b < w.heap.size := heap_lt ha
  have hb : Below w.heap.size w (w.alloc (.cells #[.string { data := #[] }, .string { data := #[] }] 24)) := (Below.refl _ _).alloc (Nat.le_refl _) _
  have hpart : ∀ (W : World), Below w.heap.size w W → ∀ j (h : j < ([arrVal' r s gi qs.length Ci] : List Val).length) (h' : j < ([qs] : List (List Rat)).length), NArg W b W.heap.size ([arrVal' r s gi qs.length Ci] : List Val)[j] ([qs] : List (List Rat))[j] := by
    intro W hw j h h'
    have h2 : j < 1 := h'
    obtain rfl : j = 0 := by omega
    exact .inr ⟨r, s, gi, Ci, rfl, h0, h9, Nat.lt_of_lt_of_le hgil hw.size, hgi, hav.below hw⟩
  have TN := Lib.hid (fun (W : World) (hw : Below w.heap.size w W) (ga : ArgsAt W b (some ⟨g, 0, none⟩) 1 C 0) (ge : Env W) => numbers_mix [arrVal' r s gi qs.length Ci] [qs] b g C W (show 1 ≤ 300 by decide) rfl (by intro x hx; simp only [List.mem_cons, List.not_mem_nil, or_false] at hx; subst hx; exact h9) (by intro x hx; simp only [List.mem_cons, List.not_mem_nil, or_false] at hx; subst hx; exact hqs) ga (hv.below hw) (hpart W hw) hne (Nat.lt_of_lt_of_le hgl hw.size) ge hP)
  rw [show (([qs] : List (List Rat)).flatten) = qs by simp] at TN
  unfold RowF at hR
  have TR := Lib.hid hR
  have HX := Lib.hid (heap_alloc_new w (.cells #[.string { data := #[] }, .string { data := #[] }] 24))
  have HL := Lib.hid hb
  have HA := Lib.hid (show ArgsAt _ b (some ⟨g, 0, none⟩) 1 C 0 from keep_block ha hb)
  have HE := Lib.hid (hE.below hb)
  have HP := Lib.hid hP
  have H0 := Lib.hid h0
  have NE := Lib.hid (show w.heap.size ≠ b from Nat.ne_of_gt hbl)
  obtain ⟨L, hLL⟩ : ∃ L, qs.length = L := ⟨_, rfl⟩
  have HLL := Lib.hid hLL
  have T0 := Lib.hid c0
  unfold Fun1 at T0
  have T1 := Lib.hid c1
  unfold Fun2 at T1
  rw [fracV_is sm] at TR T1
  rw [fracV_is n] at T0 T1
  rw [fracV_is q] at T1 ⊢
  obtain ⟨W0, hW0⟩ : ∃ Z, w.alloc (.cells #[.string { data := #[] }, .string { data := #[] }] 24) = Z := ⟨_, rfl⟩
  rw [hW0] at HX HL HA HE
  have EW0 := Lib.hid hW0
  rw [hLL] at T0 TR
  clear hR hqs h0 ha hv hav hne hgi hE hP hb hpart hgl hgil hbl c0 c1 hW0
  rw [hLL] at h9
  clear hLL
  go_enter Tryz.func49, Tryz.ntmps49
  go_wp2_with fail
  rw [EW0.out]
  refine (TN.out _ HL.out HA.out HE.out).mono ?_
  rintro e V1 ⟨v, rfl, hown, hE1, hg⟩
  obtain ⟨gF, cap, rfl, hgF, hrow⟩ := hown.rowB H0.out
  have HRW := Lib.hid hrow
  replace HX := Lib.hid (kept_block HX.out hg NE.out)
  have HG := Lib.hid (kept_trans (kept_below (b := b) HL.out) hg)
  replace HE := Lib.hid hE1
  clear hown hrow hgF hg hE1 HA HL
  rw [HLL.out]
  go_wp2_with fail
  refine (TR.out _ _ _ HRW.out.fracs HE.out).mono ?_
  rintro e V2 ⟨rfl, hq⟩
  replace HX := Lib.hid (keep_block HX.out hq)
  replace HE := Lib.hid (HE.out.below hq)
  replace HG := Lib.hid (kept_trans HG.out (kept_below hq))
  clear hq
  go_wp2_with fail
  refine (T0.out _ HE.out).mono ?_
  rintro e V3 ⟨rfl, hq⟩
  replace HX := Lib.hid (keep_block HX.out hq)
  replace HE := Lib.hid (HE.out.below hq)
  replace HG := Lib.hid (kept_trans HG.out (kept_below hq))
  clear hq
  go_wp2_with fail
  refine (T1.out _ HE.out).mono ?_
  rintro e V4 ⟨rfl, hq⟩
  replace HX := Lib.hid (keep_block HX.out hq)
  replace HG := Lib.hid (kept_trans HG.out (kept_below hq))
  clear hq
  obtain ⟨⟨x0, x1⟩, y0, y1⟩ := two_at HX.out
  have HFI := Lib.hid (set2_at HX.out (.string (numS q)) (.string (denS q)))
  have HG2 := Lib.hid (kept2 HG.out (Nat.le_refl _) (.string (numS q)) (.string (denS q)))
  obtain ⟨⟨z0, z1⟩, _⟩ := two_at HFI.out
  go_wp2
  refine bodyPost_ret (v := .agg #[.string (numS q), .string (denS q)]) (by simp [results, Tryz.results49, go_sem, z0, z1]) rfl ⟨rfl, HG2.out⟩
end Go.Proofs.YtemdjmaakajhjaaGreatDoor.Num.Ft
