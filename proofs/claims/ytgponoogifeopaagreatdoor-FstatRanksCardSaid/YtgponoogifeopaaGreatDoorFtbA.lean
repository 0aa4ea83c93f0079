/- Numbers as texts of digits, fractions, values and the functions of fmath: contracts of the program's functions, joined from smaller texts. Conditions stand at each theorem. -/
import Derived.Test.YtgponoogifeopaaGreatDoorFtaA
import Derived.Test.YtgponoogifeopaaGreatDoorFtaB
import Derived.Test.YtgponoogifeopaaGreatDoorFtaC
import Derived.Test.YtgponoogifeopaaGreatDoorFtaD
import Derived.Laws.AppendOwn
import Derived.Test.YtgponoogifeopaaGreatDoorNumH

/- A region that draws its order: the first operations by what each yields, the last ones in each order that is left to them. Plain: of no program. -/
namespace Go.Proofs.YtgponoogifeopaaGreatDoor.Num
open Go.RowKit Go.Lib

/-- what is left, in each order that the edges leave open; f: how many are left -/
def restOps (P : Program) (ops : Array Oper) (Q : Exit → Act → World → Prop) : Nat → List Nat → Act → World → Prop
  | 0, _, a, w => Q .normal a w
  | f + 1, rem, a, w => ∀ i ∈ rem, (∀ j ∈ rem, ndOf ops i j = false) → wpOp P ops Q i (fun a' w' => restOps P ops Q f (rem.erase i) a' w') a w
theorem bit_ne {listed : Array Bool} {i j : Nat} (h : i ≠ j) : (listed.setIfInBounds i true).getD j false = listed.getD j false := by rw [getD_set_ne false h]
theorem bit_in {listed : Array Bool} {i : Nat} (h : i < listed.size) : (listed.setIfInBounds i true).getD i false = true := by simp [h]
theorem range_from {m n i : Nat} : i ∈ (List.range n).drop m ↔ m ≤ i ∧ i < n := by
  rw [List.range_eq_range', List.drop_range', List.mem_range'_1]
  omega

theorem wp_region_rest {P : Program} {ops : Array Oper} {Q : Exit → Act → World → Prop} {id : Nat} {a0 : Act} {w : World} (m : Nat) (J : Array Bool → Act → World → Prop) (hm : P.follows .mixedOrders = true) (hb : backB ops = true) (hmn : m ≤ ops.size)
    (ht : ((List.range ops.size).all fun i => decide (i < m) || (List.range m).all fun j => ndOf ops i j) = true)
    (h0 : J (Array.replicate ops.size false) a0 w.drew)
    (hstep : ∀ listed a W, J listed a W → ∀ i, i < m → listed.getD i true = false → (∀ j, ndOf ops i j = true → listed.getD j false = true) → wpOp P ops Q i (fun a' W' => J (listed.setIfInBounds i true) a' W') a W)
    (hmid : ∀ listed a W, J listed a W → (∀ j, j < m → listed.getD j false = true) → restOps P ops Q (ops.size - m) ((List.range ops.size).drop m) a W) : (Code.region id ops true).wp P Q a0 w := by
  refine wp_region_inv hm (fun listed a W => listed.size = ops.size ∧ ((∀ i, m ≤ i → i < ops.size → listed.getD i false = false) ∧ J listed a W ∨ ∃ rem : List Nat, rem.Nodup ∧ (∀ i, i < ops.size → (listed.getD i false = false ↔ i ∈ rem)) ∧ (∀ i ∈ rem, i < ops.size) ∧ restOps P ops Q rem.length rem a W)) ⟨by simp, .inl ⟨fun i _ _ => by simp [Array.getD, Array.getElem_replicate], h0⟩⟩ ?_ ?_
  · rintro listed a W ⟨hsz, hI⟩ i o ho hun hpre0
    have hi : i < ops.size := (Array.getElem?_eq_some_iff.1 ho).1
    have hil : i < listed.size := by omega
    have hoffi : listed.getD i false = false := by simp [hil] at hun ⊢; exact hun
    have hpre : ∀ j, ndOf ops i j = true → listed.getD j false = true := by
      intro j hj
      unfold ndOf needs at hj
      rw [ho] at hj
      simp only [List.contains_iff_mem, List.mem_map, List.mem_filter, Array.mem_toList_iff] at hj
      obtain ⟨e, ⟨he, hbd⟩, rfl⟩ := hj
      exact hpre0 e he hbd
    have go : ∀ rem : List Nat, rem.Nodup → (∀ k, k < ops.size → (listed.getD k false = false ↔ k ∈ rem)) → (∀ k ∈ rem, k < ops.size) → restOps P ops Q rem.length rem a W → wpOp P ops Q i (fun a' W' => (listed.setIfInBounds i true).size = ops.size ∧ ((∀ j, m ≤ j → j < ops.size → (listed.setIfInBounds i true).getD j false = false) ∧ J (listed.setIfInBounds i true) a' W' ∨ ∃ rem : List Nat, rem.Nodup ∧ (∀ k, k < ops.size → ((listed.setIfInBounds i true).getD k false = false ↔ k ∈ rem)) ∧ (∀ k ∈ rem, k < ops.size) ∧ restOps P ops Q rem.length rem a' W')) a W := by
      intro rem hnd hiff hlt hs
      have him := (hiff i hi).1 hoffi
      obtain ⟨f, hf⟩ : ∃ f, rem.length = f + 1 := ⟨rem.length - 1, by have := List.length_pos_of_mem him; omega⟩
      rw [hf] at hs
      refine wpOp_mono (fun a' W' h => ⟨by simpa using hsz, .inr ⟨rem.erase i, hnd.erase i, fun k hk => ?_, fun k hk => hlt k (List.mem_of_mem_erase hk), ?_⟩⟩) (hs i him fun j hj => ?_)
      · by_cases e : i = k
        · subst e
          rw [bit_in hil]
          exact ⟨fun h => (by cases h), fun h => absurd h (hnd.not_mem_erase)⟩
        · rw [bit_ne e, hiff k hk]
          exact (List.mem_erase_of_ne (fun h => e h.symm)).symm
      · rw [List.length_erase_of_mem him, hf, Nat.add_sub_cancel]; exact h
      · cases hn : ndOf ops i j with
        | false => rfl
        | true =>
          have h1 := hpre j hn
          rw [(hiff j (hlt j hj)).2 hj] at h1
          cases h1
    rcases hI with ⟨hoff, hJ⟩ | ⟨rem, hnd, hiff, hlt, hs⟩
    · rcases Nat.lt_or_ge i m with h | h
      · exact wpOp_mono (fun a' W' hJ' => ⟨by simpa using hsz, .inl ⟨fun j h1 h2 => by rw [bit_ne (by omega)]; exact hoff j h1 h2, hJ'⟩⟩) (hstep listed a W hJ i h hun hpre)
      · have hall : ∀ j, j < m → listed.getD j false = true := fun j hj => hpre j (by
          have h1 := List.all_eq_true.1 ht i (List.mem_range.2 hi)
          rw [Bool.or_eq_true] at h1
          rcases h1 with h1 | h1
          · have := of_decide_eq_true h1; omega
          · exact List.all_eq_true.1 h1 j (List.mem_range.2 hj))
        refine go ((List.range ops.size).drop m) (List.nodup_range.sublist (List.drop_sublist _ _)) (fun k hk => ?_) (fun k hk => (range_from.1 hk).2) ?_
        · constructor
          · intro hk0
            refine range_from.2 ⟨?_, hk⟩
            rcases Nat.lt_or_ge k m with h2 | h2
            · rw [hall k h2] at hk0; cases hk0
            · exact h2
          · intro hk0
            exact hoff k (range_from.1 hk0).1 hk
        · rw [List.length_drop, List.length_range]
          exact hmid listed a W hJ hall
    · exact go rem hnd hiff hlt hs
  · rintro listed a W ⟨hsz, hI⟩ hr
    have hall := all_listed hsz hb hr
    rcases hI with ⟨hoff, hJ⟩ | ⟨rem, hnd, hiff, hlt, hs⟩
    · have e : m = ops.size := by
        rcases Nat.lt_or_ge m ops.size with h | h
        · have := hoff m (Nat.le_refl _) h
          rw [hall m h] at this
          cases this
        · omega
      have := hmid listed a W hJ (fun j hj => hall j (by omega))
      rw [e, Nat.sub_self] at this
      exact this
    · have e : rem = [] := by
        cases rem with
        | nil => rfl
        | cons k r =>
          have h1 := hall k (hlt k List.mem_cons_self)
          rw [(hiff k (hlt k List.mem_cons_self)).2 List.mem_cons_self] at h1
          cases h1
      subst e
      exact hs
theorem wp_region_facts_tail {P : Program} {ops : Array Oper} {Q : Exit → Act → World → Prop} {id : Nat} {a0 : Act} {w W0 : World} {row : Option Nat} (m f n : Nat) (rem : List Nat) (ks : List RK) (slots : List (Option Nat)) (hm : P.follows .mixedOrders = true) (hb : backB ops = true) (ht : ((List.range ops.size).all fun i => decide (i < m) || (List.range m).all fun j => ndOf ops i j) = true) (hn : ops.size = n) (hf : n - m = f) (hmn : m ≤ n) (hrem : (List.range n).drop m = rem)
    (vs0 : List Value) (h00 : putO a0 slots vs0 = a0) (hF0 : Fs (ndOf ops) n ks w row (Array.replicate n false) vs0 W0.drew)
    (hstep : ∀ listed vs W, Fs (ndOf ops) n ks w row listed vs W → ∀ i, i < m → listed.getD i true = false → (∀ j, ndOf ops i j = true → listed.getD j false = true) → wpOp P ops Q i (fun a' W' => ∃ v, Fs (ndOf ops) n ks w row (listed.setIfInBounds i true) (vs.set i v) W' ∧ a' = putO a0 slots (vs.set i v)) (putO a0 slots vs) W)
    (hdone : ∀ listed vs W, Fs (ndOf ops) n ks w row listed vs W → (∀ j, j < m → listed.getD j false = true) → restOps P ops Q f rem (putO a0 slots vs) W) : (Code.region id ops true).wp P Q a0 W0 := by
  refine wp_region_rest m (fun listed a W => ∃ vs, Fs (ndOf ops) n ks w row listed vs W ∧ a = putO a0 slots vs) hm hb (by omega) ht ⟨vs0, by rw [hn]; exact hF0, h00.symm⟩ ?_ ?_
  · rintro listed a W ⟨vs, hF, rfl⟩ i hi hun hpre
    refine wpOp_mono (fun a' w' h => ?_) (hstep listed vs W hF i hi hun hpre)
    obtain ⟨v, hF', rfl⟩ := h
    exact ⟨_, hF', rfl⟩
  · rintro listed a W ⟨vs, hF, rfl⟩ hall
    rw [hn, hf, hrem]
    exact hdone listed vs W hF hall
section
variable {P : Program} {ops : Array Oper} {Q : Exit → Act → World → Prop} {f i j : Nat} {rem remi remj : List Nat} {a : Act} {w : World}
/-- only number i may come next -/
theorem rest_one (i : Nat) (o : Oper) (ho : ops[i]? = some o) (hr : (rem.all fun k => k == i || rem.any fun j => ndOf ops k j) = true) (he : rem.erase i = remi)
    (h : ∀ K' : Act → World → Prop, Shut (∀ a w, restOps P ops Q f remi a w → K' a w) → if Region.wanted o (yielded ops a.tmps) = true then Oper.wp P o a w K' Q else K' (a.put o.dst undef) w) : restOps P ops Q (f + 1) rem a w := by
  subst he
  intro k hk hready
  have h1 := List.all_eq_true.1 hr k hk
  rw [Bool.or_eq_true] at h1
  rcases h1 with h1 | h1
  · rw [beq_iff_eq] at h1
    subst h1
    exact step_of o ho h
  · obtain ⟨j, hj, hn⟩ := List.any_eq_true.1 h1
    rw [hready j hj] at hn
    cases hn
/-- number i or number j may come next -/
theorem rest_two (i j : Nat) (oi oj : Oper) (hoi : ops[i]? = some oi) (hoj : ops[j]? = some oj) (hr : (rem.all fun k => k == i || k == j || rem.any fun j => ndOf ops k j) = true) (hei : rem.erase i = remi) (hej : rem.erase j = remj)
    (hi : ∀ K' : Act → World → Prop, Shut (∀ a w, restOps P ops Q f remi a w → K' a w) → if Region.wanted oi (yielded ops a.tmps) = true then Oper.wp P oi a w K' Q else K' (a.put oi.dst undef) w)
    (hj : ∀ K' : Act → World → Prop, Shut (∀ a w, restOps P ops Q f remj a w → K' a w) → if Region.wanted oj (yielded ops a.tmps) = true then Oper.wp P oj a w K' Q else K' (a.put oj.dst undef) w) : restOps P ops Q (f + 1) rem a w := by
  subst hei
  subst hej
  intro k hk hready
  have h1 := List.all_eq_true.1 hr k hk
  rw [Bool.or_eq_true, Bool.or_eq_true] at h1
  rcases h1 with (h1 | h1) | h1
  · rw [beq_iff_eq] at h1
    subst h1
    exact step_of oi hoi hi
  · rw [beq_iff_eq] at h1
    subst h1
    exact step_of oj hoj hj
  · obtain ⟨j, hj, hn⟩ := List.any_eq_true.1 h1
    rw [hready j hj] at hn
    cases hn
theorem rest_end (h : Q .normal a w) : restOps P ops Q 0 rem a w := h
end
end Go.Proofs.YtgponoogifeopaaGreatDoor.Num

/- package fstat: the closure that hands all numbers of the arguments to a function of a row. Conditions: one array of numbers; the tables lie as they are laid. -/
namespace Go.Proofs.YtgponoogifeopaaGreatDoor.Num.Ft
open Go.RowKit Go.Lib Num

attribute [local irreducible] wpOp
end Go.Proofs.YtgponoogifeopaaGreatDoor.Num.Ft

/- package value and fmath: Size, List, Inside, faults at arguments that are numbers or arrays. Conditions: all numbers fit; the tables lie as they are laid. -/
namespace Go.Proofs.YtgponoogifeopaaGreatDoor.Num
open Go.RowKit Go.Lib

/-- a number, or an array of r rows and s columns -/
def PArg (W : World) (v : Val) (r s : Int) (qs : List Rat) : Prop :=
  (∃ q, v = numVal' q ∧ qs = [q] ∧ r = 1 ∧ s = 1) ∨ ∃ g C, v = arrVal' r s g qs.length C ∧ 1 ≤ r ∧ r ≤ 1000 ∧ 1 ≤ s ∧ s ≤ 1000 ∧ r * s = (qs.length : Int) ∧ 0 < qs.length ∧ qs.length ≤ 1000 ∧ ValsAt W g 0 (numVals qs)
theorem PArg.below {W W' : World} {v : Val} {r s : Int} {qs : List Rat} (h : PArg W v r s qs) (hb : Below W.heap.size W W') : PArg W' v r s qs := by
  rcases h with h | ⟨g, C, h1, h2, h3, h4, h5, h6, h7, h8, h9⟩
  · exact .inl h
  · exact .inr ⟨g, C, h1, h2, h3, h4, h5, h6, h7, h8, h9.below hb⟩
theorem PArg.pos {W : World} {v : Val} {r s : Int} {qs : List Rat} (h : PArg W v r s qs) : 0 < qs.length ∧ qs.length ≤ 1000 ∧ r * s = (qs.length : Int) ∧ 1 ≤ r ∧ 1 ≤ s ∧ r ≤ 1000 ∧ s ≤ 1000 := by
  rcases h with ⟨q, h1, rfl, rfl, rfl⟩ | ⟨g, C, h1, h2, h3, h4, h5, h6, h7, h8, h9⟩
  · simp
  · exact ⟨h7, h8, h6, h2, h4, h3, h5⟩
/-- a block elsewhere has turned -/
theorem PArg.other {W W' : World} {v : Val} {r s : Int} {qs : List Rat} {B : Nat} (h : PArg W v r s qs) (hB : ∀ g, v.A = some ⟨g, 0, none⟩ → g < B) (ho : ∀ k, k < B → W'.heap[k]? = W.heap[k]?) : PArg W' v r s qs := by
  rcases h with h | ⟨g, C, rfl, h2, h3, h4, h5, h6, h7, h8, h9⟩
  · exact .inl h
  · exact .inr ⟨g, C, rfl, h2, h3, h4, h5, h6, h7, h8, vals_other h9 (ho g (hB g rfl))⟩
theorem PArg.lt {W : World} {v : Val} {r s : Int} {qs : List Rat} (h : PArg W v r s qs) : ∀ g, v.A = some ⟨g, 0, none⟩ → g < W.heap.size := by
  intro g hg
  rcases h with ⟨q, rfl, _⟩ | ⟨g', C, rfl, h2, h3, h4, h5, h6, h7, h8, h9⟩
  · simp [numVal'] at hg
  · simp [arrVal'] at hg
    subst hg
    exact items_lt h9 h7

/-- arguments in a row, each with its shape -/
def PArgs (W : World) (vs : List Val) : Prop := ∀ j (h : j < vs.length), ∃ r s qs, PArg W vs[j] r s qs
theorem PArgs.below {W W' : World} {vs : List Val} (h : PArgs W vs) (hb : Below W.heap.size W W') : PArgs W' vs := fun j hj => by
  obtain ⟨r, s, qs, h⟩ := h j hj
  exact ⟨r, s, qs, h.below hb⟩
structure FauI (w : World) (g : Nat) (vs : List Val) (W : World) : Prop where
  vals : ValsAt W g 0 vs
  parts : PArgs W vs
  env : Env W
  low : Below w.heap.size w W
theorem FauI.step {w W W' : World} {g : Nat} {vs : List Val} (h : FauI w g vs W) (hb : Below W.heap.size W W') : FauI w g vs W' :=
  ⟨h.vals.below hb, h.parts.below hb, h.env.below hb, h.low.trans (hb.mono h.low.size)⟩
end Go.Proofs.YtgponoogifeopaaGreatDoor.Num

/- Two arguments, one argument: numbers or arrays of numbers. No conditions. -/
namespace Go.Proofs.YtgponoogifeopaaGreatDoor.Num
open Go.RowKit Go.Lib

end Go.Proofs.YtgponoogifeopaaGreatDoor.Num

/- A row of the call's own lies behind what stood. No conditions. -/
namespace Go.Proofs.YtgponoogifeopaaGreatDoor.Num
open Go

theorem owned_lt {B n z : Nat} {S : TypeId} {xs : List Value} {W : World} {v : Value} (h : W.ownsRow B S z v n xs) : ∀ r, v.ownBlock = some r → B ≤ r := by
  intro r hr
  rcases h.2 with ⟨rfl, _⟩ | ⟨g, cap, cur, rfl, hb, _⟩
  · simp [Value.ownBlock] at hr
  · simp [Value.ownBlock] at hr; omega
end Go.Proofs.YtgponoogifeopaaGreatDoor.Num

/- package fstat: the entry of a row that 'many' wraps, and the law's own call at one array. Conditions: one array of numbers that all fit; the tables lie as they are laid. -/
namespace Go.Proofs.YtgponoogifeopaaGreatDoor.Num.Ft
open Go.RowKit Go.Lib Go.MapKept Num

set_option maxHeartbeats 4000000 in
set_option maxRecDepth 100000 in
theorem entrym_val (r : Row) (g cap e : Nat) (vs : List Val) (q : Rat) (w : World) (hr : r.num = true) (hfn : FnAt w e r) (hE : Env w) (hv : ValsAt w g 0 vs) (hq : fits q = true)
    (hF : ∀ W b, Below w.heap.size w W → Env W → Past b → w.heap.size ≤ b → b < W.heap.size → ArgsAt W b (some ⟨g, 0, none⟩) vs.length cap 0 → ValsAt W g 0 vs → g ≠ b → ∀ f, f ≠ b → W.cell? ⟨f, 0, none⟩ = some (.func (.func r.fn) #[] #[]) → Calls Tryz.prog 185 #[.pointer (some ⟨b, 0, none⟩), .pointer (some ⟨f, 0, none⟩)] W fun e w' => e = .returned (fracV q) ∧ W.grownBy w' (some b)) (hv0 : 0 < vs.length) :
    Calls Tryz.prog 180 #[.slice (some ⟨g, 0, none⟩) vs.length cap, .pointer (some ⟨e, 0, none⟩)] w fun e w' => e = .returned (numVal q) ∧ Below w.heap.size w w' := by
  unfold FnAt at hfn
  rw [if_pos hr] at hfn
  obtain ⟨f, he, hf⟩ := hfn
  have hfl : f < w.heap.size := cell_lt hf
  obtain ⟨hR, hB, hb⟩ := two_new w (.cells #[.int .i64 0, .string { data := #[] }, .string { data := #[] }, .string { data := #[] }, .bool false, .int .i64 0, .int .i64 0, .int .i64 0, .slice none 0 0] 27) (.cells #[.slice (some ⟨g, 0, none⟩) vs.length cap, .int .i64 0] 92)
  have HR := Lib.hid hR
  have HL := Lib.hid hb
  have HX := Lib.hid (cell_below he ((Below.refl w.heap.size w).alloc (Nat.le_refl _) (.cells #[.int .i64 0, .string { data := #[] }, .string { data := #[] }, .string { data := #[] }, .bool false, .int .i64 0, .int .i64 0, .int .i64 0, .slice none 0 0] 27)))
  have HE := Lib.hid (hE.below hb)
  have hgl : g < w.heap.size := cell_lt (hv.at 0 hv0).1
  have TN := Lib.hid ((fun W h => hF W (w.heap.size + 1) (hb.trans (h.mono hb.size)) ((hE.below hb).below h) (hE.past (Nat.le_succ _)) (Nat.le_succ _) (by have := h.size; simp at this; omega) (keep_block hB h) ((hv.below hb).below h) (by omega) f (by omega) (cell_below (cell_below hf hb) h)) _ (Below.refl _ _))
  have hqf := hq
  have HP := Lib.hid (hE.past (Nat.le_succ _) (b := w.heap.size + 1))
  have TV := Lib.hid (fun W g => number_any q W hqf g)
  rw [numVal_is q] at TV ⊢
  rw [fracV_is q] at TV TN
  clear hR hB hb he hF hE hv hgl hqf hq hf hfl
  obtain x0 := HX.out
  go_enter Tryz.func180, Tryz.ntmps180
  go_wp2_with fail
  refine TN.out.mono ?_
  rintro e W1 ⟨rfl, hg⟩
  replace HR := Lib.hid (kept_block HR.out hg (by omega))
  have HG := Lib.hid (below_map HL.out (Nat.le_succ _) hg)
  replace HE := Lib.hid (HE.out.kept hg HP.out)
  clear hg x0 HX
  go_wp2_with fail
  refine (TV.out _ HE.out).mono ?_
  rintro e W2 ⟨rfl, hb⟩
  replace HR := Lib.hid (keep_block HR.out hb)
  replace HG := Lib.hid (HG.out.trans (hb.mono HG.out.size))
  clear hb
  obtain ⟨⟨r0, r1, r2, r3, r4, r5, r6, r7, r8⟩, g0, g1, g2, g3, g4, g5, g6, g7, g8⟩ := nine_at HR.out
  obtain ⟨nb, z0, z1, z2, z3, z4, z5, z6, z7, z8⟩ := nine_end (x0 := (.int .i64 1)) (x1 := (.string (numS q))) (x2 := (.string (denS q))) (x3 := (.string { data := #[] })) (x4 := (.bool false)) (x5 := (.int .i64 0)) (x6 := (.int .i64 0)) (x7 := (.int .i64 0)) (x8 := (.slice none 0 0)) HR.out HG.out (Nat.le_refl _)
  go_wp2
  refine bodyPost_ret (v := .agg #[.int .i64 1, .string (numS q), .string (denS q), .string { data := #[] }, .bool false, .int .i64 0, .int .i64 0, .int .i64 0, .slice none 0 0]) (by simp [results, Tryz.results180, go_sem, z0, z1, z2, z3, z4, z5, z6, z7, z8]) rfl ⟨rfl, nb⟩

set_option maxHeartbeats 4000000 in
set_option maxRecDepth 100000 in
theorem entryn2_val (r : Row) (g cap e : Nat) (vs : List Val) (q : Rat) (w : World) (hr : r.num = false) (hfn : FnAt w e r) (eF : ∀ args w, (callFunc r.fn args).run Tryz.prog w = .ok (.enter r.fn args) w) (hE : Env w) (hv : ValsAt w g 0 vs) (hq : fits q = true)
    (hF : ∀ W b, Below w.heap.size w W → Env W → Past b → w.heap.size ≤ b → b < W.heap.size → ArgsAt W b (some ⟨g, 0, none⟩) vs.length cap 0 → ValsAt W g 0 vs → g ≠ b → Calls Tryz.prog r.fn #[.pointer (some ⟨b, 0, none⟩)] W fun e w' => e = .returned (fracV q) ∧ W.grownBy w' (some b)) (hv0 : 0 < vs.length) :
    Calls Tryz.prog 180 #[.slice (some ⟨g, 0, none⟩) vs.length cap, .pointer (some ⟨e, 0, none⟩)] w fun e w' => e = .returned (numVal q) ∧ Below w.heap.size w w' := by
  unfold FnAt at hfn
  rw [if_neg (by rw [hr]; decide)] at hfn
  have he := hfn
  obtain ⟨hR, hB, hb⟩ := two_new w (.cells #[.int .i64 0, .string { data := #[] }, .string { data := #[] }, .string { data := #[] }, .bool false, .int .i64 0, .int .i64 0, .int .i64 0, .slice none 0 0] 27) (.cells #[.slice (some ⟨g, 0, none⟩) vs.length cap, .int .i64 0] 92)
  have HR := Lib.hid hR
  have HL := Lib.hid hb
  have HX := Lib.hid (cell_below he ((Below.refl w.heap.size w).alloc (Nat.le_refl _) (.cells #[.int .i64 0, .string { data := #[] }, .string { data := #[] }, .string { data := #[] }, .bool false, .int .i64 0, .int .i64 0, .int .i64 0, .slice none 0 0] 27)))
  have HE := Lib.hid (hE.below hb)
  have hgl : g < w.heap.size := cell_lt (hv.at 0 hv0).1
  have TN := Lib.hid ((fun W h => hF W (w.heap.size + 1) (hb.trans (h.mono hb.size)) ((hE.below hb).below h) (hE.past (Nat.le_succ _)) (Nat.le_succ _) (by have := h.size; simp at this; omega) (keep_block hB h) ((hv.below hb).below h) (by omega)) _ (Below.refl _ _))
  have hqf := hq
  have HP := Lib.hid (hE.past (Nat.le_succ _) (b := w.heap.size + 1))
  have TV := Lib.hid (fun W g => number_any q W hqf g)
  rw [numVal_is q] at TV ⊢
  rw [fracV_is q] at TV TN
  clear hR hB hb he hF hE hv hgl hqf hq
  obtain x0 := HX.out
  go_enter Tryz.func180, Tryz.ntmps180
  go_wp2_with fail
  refine TN.out.mono ?_
  rintro e W1 ⟨rfl, hg⟩
  replace HR := Lib.hid (kept_block HR.out hg (by omega))
  have HG := Lib.hid (below_map HL.out (Nat.le_succ _) hg)
  replace HE := Lib.hid (HE.out.kept hg HP.out)
  clear hg x0 HX
  go_wp2_with fail
  refine (TV.out _ HE.out).mono ?_
  rintro e W2 ⟨rfl, hb⟩
  replace HR := Lib.hid (keep_block HR.out hb)
  replace HG := Lib.hid (HG.out.trans (hb.mono HG.out.size))
  clear hb
  obtain ⟨⟨r0, r1, r2, r3, r4, r5, r6, r7, r8⟩, g0, g1, g2, g3, g4, g5, g6, g7, g8⟩ := nine_at HR.out
  obtain ⟨nb, z0, z1, z2, z3, z4, z5, z6, z7, z8⟩ := nine_end (x0 := (.int .i64 1)) (x1 := (.string (numS q))) (x2 := (.string (denS q))) (x3 := (.string { data := #[] })) (x4 := (.bool false)) (x5 := (.int .i64 0)) (x6 := (.int .i64 0)) (x7 := (.int .i64 0)) (x8 := (.slice none 0 0)) HR.out HG.out (Nat.le_refl _)
  go_wp2
  refine bodyPost_ret (v := .agg #[.int .i64 1, .string (numS q), .string (denS q), .string { data := #[] }, .bool false, .int .i64 0, .int .i64 0, .int .i64 0, .slice none 0 0]) (by simp [results, Tryz.results180, go_sem, z0, z1, z2, z3, z4, z5, z6, z7, z8]) rfl ⟨rfl, nb⟩


end Go.Proofs.YtgponoogifeopaaGreatDoor.Num.Ft

/- package fstat: AVERAGE over its arguments. Conditions: one array of numbers that all fit; the tables lie as they are laid. -/
namespace Go.Proofs.YtgponoogifeopaaGreatDoor.Num.Ft
open Go.RowKit Go.Lib Num

end Go.Proofs.YtgponoogifeopaaGreatDoor.Num.Ft
