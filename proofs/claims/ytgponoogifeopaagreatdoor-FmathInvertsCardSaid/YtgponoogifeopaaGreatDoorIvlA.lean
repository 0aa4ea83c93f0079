/- Numbers as texts of digits, fractions, values and the functions of fmath: contracts of the program's functions, joined from smaller texts. Conditions stand at each theorem. -/
import Derived.Test.YtgponoogifeopaaGreatDoorNumH
import Derived.Test.YtgponoogifeopaaGreatDoorLayA
import Derived.ProofKit
import Derived.OpenShut
import Derived.Test.YtgponoogifeopaaGreatDoorIveA
import Derived.Test.YtgponoogifeopaaGreatDoorIvrA
import Derived.Deep.DeepCutAuto
import Derived.Deep.RegionLaw

/- A slice of whole numbers that came in. No conditions. -/
namespace Go.Proofs.YtgponoogifeopaaGreatDoor.Num
open Go.ChangeShapes Go.WideShapes Go.ChangeAt Go.RowKit Go.Lib

/-- whole numbers that came in -/
def CameI (W : World) (A : Addr) (ns : List Int) : Prop := ∀ i (h : i < ns.length), W.cell? (A.add i) = some (.int .i64 ns[i])
theorem CameI.below {W W' : World} {A : Addr} {ns : List Int} (h : CameI W A ns) (hb : Below W.heap.size W W') : CameI W' A ns := fun i hi => cell_below (h i hi) hb
/-- a slice of ints as it came in: where it lies, and its numbers -/
structure IntsIn (W : World) (A : Option Addr) (L C : Nat) (zs : List Int) : Prop where
  len : zs.length = L
  max : L ≤ 9223372036854775807
  cap : L ≤ C
  src : 0 < L → ∃ A', A = some A' ∧ CameI W A' zs
  rng : ∀ z ∈ zs, -9223372036854775808 ≤ z ∧ z ≤ 9223372036854775807
theorem IntsIn.below {W W' : World} {A : Option Addr} {L C : Nat} {zs : List Int} (h : IntsIn W A L C zs) (hb : Below W.heap.size W W') : IntsIn W' A L C zs :=
  ⟨h.len, h.max, h.cap, fun h0 => by obtain ⟨A', e, c⟩ := h.src h0; exact ⟨A', e, c.below hb⟩, h.rng⟩

set_option maxRecDepth 100000 in
theorem ints_in {H : Type} {enc : TypeId × Value → H} {W : World} {base base2 : Nat} {held : Bool} {v : Value} {d : DataW H} {p : List MemPlace} (hok : Value.okWide Tryz.prog W .any base2 22 v) (h : DataW.Trod enc Tryz.prog W base (fun _ => true) held 22 v d p) :
    ∃ A L C zs, v = .slice A L C ∧ IntsIn W A L C zs ∧ ∀ W', Below W.heap.size W W' → DataW.Trod enc Tryz.prog W' base (fun b => decide (b < W.heap.size)) held 22 v d p := by
  obtain ⟨a, len, cap, rfl⟩ := okWide_slice Tryz.underlying22 hok
  obtain ⟨fuel, hf⟩ := h
  rcases open_ints Tryz.underlying22 Tryz.underlying3 (by kernel_rfl) hf with ⟨hcs, hx⟩ | ⟨a', len', cap', zs, hcs, hb, hl, hm, hz, hx, hcell, hwz⟩
  · have hcs' : (Value.slice a len cap) = .slice none 0 0 := by simpa [Value.cells] using hcs
    injection hcs' with h1 h2 h3
    subst h1; subst h2; subst h3
    injection hx with h1 h2
    subst h1; subst h2
    exact ⟨none, 0, 0, [], rfl, ⟨rfl, by decide, Nat.le_refl _, fun h => absurd h (by decide), fun z h => (by cases h)⟩, fun W' _ => shut_slice_nil Tryz.underlying22⟩
  · have hcs' : (Value.slice a len cap) = .slice (some a') len' cap' := by simpa [Value.cells] using hcs
    injection hcs' with h1 h2 h3
    subst h1; subst h2; subst h3
    injection hx with h1 h2
    subst h1; subst h2
    have hz0 : zs.length = cap := by simpa using hz
    have hzl : len ≤ zs.length := by omega
    have hz2 : zs.length = (if decide (a'.block < W.heap.size) then cap else len) := by
      by_cases hc : 0 < cap
      · have h1 : (a'.add 0).block < W.heap.size := cell_lt (hcell 0 (by omega))
        rw [block_add] at h1
        rw [if_pos (decide_eq_true h1)]; exact hz0
      · split <;> omega
    refine ⟨some a', len, cap, zs.take len, rfl, ⟨by rw [List.length_take]; omega, by unfold maxLen at hm; omega, hl, fun _ => ⟨a', rfl, ?_⟩, fun n hn => i64_range (hwz n (List.mem_of_mem_take hn))⟩, fun W' hb' => ⟨2, shut_ints 0 Tryz.underlying22 Tryz.underlying3 (by kernel_rfl) hb hl hm hz2 (fun i hi => cell_below (hcell i hi) hb') hwz⟩⟩
    intro i hi
    have hi' : i < zs.length := by rw [List.length_take] at hi; omega
    have := hcell i hi'
    rw [List.getD_eq_getElem?_getD, List.getElem?_eq_getElem hi', Option.getD_some] at this
    rw [this, List.getElem_take]
end Go.Proofs.YtgponoogifeopaaGreatDoor.Num

/- The law FmathInverts: its own walk. Conditions: what its calls give; the tables lie as they are laid. -/
namespace Go.Proofs.YtgponoogifeopaaGreatDoor.Num.Mt
open Go.RowKit Go.Lib Num

/-- the law's numbers -/
def xInt (zs : List Int) (i : Nat) : Int := if i < zs.length then zs.getD i 0 % 19 - 9 else (i : Int) * (i : Int)
/-- the value's block, the row of its items -/
structure VbI (w : World) (n : Nat) (bv v : Value) (done : List Rat) (W : World) : Prop where
  box : W.heap[w.heap.size]? = some (.cells #[.int .i64 5, .string { data := #[] }, .string { data := #[] }, .string { data := #[] }, .bool false, .int .i64 0, .int .i64 (n : Int), .int .i64 (n : Int), bv] 27 (0, 0))
  low : Below w.heap.size w W
  own : W.ownsRow (w.heap.size + 1) 27 9 v done.length (flat (numVals done))
theorem VbI.step {w W W' : World} {n : Nat} {bv v : Value} {done : List Rat} (h : VbI w n bv v done W) (hb : Below W.heap.size W W') : VbI w n bv v done W' :=
  ⟨keep_block h.box hb, h.low.trans (hb.mono h.low.size), h.own.kept (only_of_below hb none) (by cases v.ownBlock <;> simp)⟩
theorem VbI.size {w W : World} {n : Nat} {bv v : Value} {done : List Rat} (h : VbI w n bv v done W) : w.heap.size + 1 ≤ W.heap.size := heap_lt h.box
theorem VbI.push {w W W' : World} {n : Nat} {bv v v' : Value} {done : List Rat} {q : Rat} (h : VbI w n bv v done W) (ho : W'.ownsRow (w.heap.size + 1) 27 9 v' (done.length + 1) (flat (numVals done) ++ (numVal' q).cells)) (hg : W.grownBy W' v.ownBlock) : VbI w n bv v' (done ++ [q]) W' := by
  have hge := own_lt_row h.own
  exact ⟨(hg.block _ h.size (fun e => by have := hge _ e.symm; omega)).trans h.box, h.low.grown hg h.low.size (fun r hr => by have := hge r hr; omega), by rw [numVals_snoc, List.length_append]; exact ho⟩
theorem VbI.store {w W : World} {n : Nat} {bv v : Value} {done : List Rat} (h : VbI w n bv v done W) : VbI w n v v done (W.setCell ⟨w.heap.size, 8, none⟩ v) := by
  refine ⟨?_, h.low.setCell (p := ⟨w.heap.size, 8, none⟩) (Nat.le_refl _) _, ownsRow_setCell_below h.own (a := ⟨w.heap.size, 8, none⟩) (Nat.lt_succ_self _) v⟩
  have := heap_setCell_at h.box 8 v
  rw [this]; rfl
/-- an array of numbers that was made: it lasts -/
def ArrR (n NN : Nat) (its : List Rat) (v : Value) (W : World) : Prop := ∃ lg cap, v = .agg #[.int .i64 5, .string { data := #[] }, .string { data := #[] }, .string { data := #[] }, .bool false, .int .i64 0, .int .i64 (n : Int), .int .i64 (n : Int), .slice (some ⟨lg, 0, none⟩) NN cap] ∧ ValsAt W lg 0 (numVals its)
theorem vals_lasts {n NN : Nat} {its : List Rat} : (RK.any (ArrR n NN its)).lasts := fun _ _ _ ⟨lg, cap, e, h⟩ hb => ⟨lg, cap, e, h.below hb⟩
theorem row_one {W : World} {G n NN lg lc : Nat} (h : W.heap[G]? = some (.cells #[.int .i64 5, .string { data := #[] }, .string { data := #[] }, .string { data := #[] }, .bool false, .int .i64 0, .int .i64 (n : Int), .int .i64 (n : Int), .slice (some ⟨lg, 0, none⟩) NN lc] 27 (0, 0))) : ValsAt W G 0 [arrVal' (n : Int) (n : Int) lg NN lc] := vals_of_block h rfl
theorem row_two {W : World} {G n NN lg lc lg2 c2 : Nat} (h : W.heap[G]? = some (.cells #[.int .i64 5, .string { data := #[] }, .string { data := #[] }, .string { data := #[] }, .bool false, .int .i64 0, .int .i64 (n : Int), .int .i64 (n : Int), .slice (some ⟨lg, 0, none⟩) NN lc, .int .i64 5, .string { data := #[] }, .string { data := #[] }, .string { data := #[] }, .bool false, .int .i64 0, .int .i64 (n : Int), .int .i64 (n : Int), .slice (some ⟨lg2, 0, none⟩) NN c2] 27 (0, 0))) : ValsAt W G 0 [arrVal' (n : Int) (n : Int) lg NN lc, arrVal' (n : Int) (n : Int) lg2 NN c2] := vals_of_block h rfl
theorem row_nums {W : World} {G : Nat} {q : Rat} (h : W.heap[G]? = some (.cells #[.int .i64 1, .string (numS q), .string (denS q), .string { data := #[] }, .bool false, .int .i64 0, .int .i64 0, .int .i64 0, .slice none 0 0] 27 (0, 0))) : ValsAt W G 0 (numVals [q]) := vals_of_block h rfl
theorem row_nums2 {W : World} {G : Nat} {p q : Rat} (h : W.heap[G]? = some (.cells #[.int .i64 1, .string (numS p), .string (denS p), .string { data := #[] }, .bool false, .int .i64 0, .int .i64 0, .int .i64 0, .slice none 0 0, .int .i64 1, .string (numS q), .string (denS q), .string { data := #[] }, .bool false, .int .i64 0, .int .i64 0, .int .i64 0, .slice none 0 0] 27 (0, 0))) : ValsAt W G 0 (numVals [p, q]) := vals_of_block h rfl
theorem vals_ne {W : World} {lg b : Nat} {qs : List Rat} {x1 x2 x3 x4 x5 x6 x7 x8 : Value} {T : TypeId} (h : ValsAt W lg 0 (numVals qs)) (h0 : 0 < qs.length) (hb : W.heap[b]? = some (.cells #[.int .i64 0, x1, x2, x3, x4, x5, x6, x7, x8] T (0, 0))) : lg ≠ b := by
  rintro rfl
  have h1 := (item_at h 0 h0 _ rfl).1
  rw [Nat.zero_mul, Lib.cell_of_heap hb 0] at h1
  have h2 := Option.some.inj h1
  injection h2 with _ h2
  cases h2
theorem not_zero {d : Rat} (h : d ≠ 0) : (numS d).toList ≠ [48] := by
  intro e
  have e : (numS d).toList = ({ data := #[48] } : ByteArray).toList := by rw [e, Lib.toList_data]
  apply h
  have h0 : numS (0 : Rat) = { data := #[48] } := by decide +kernel
  have e1 : numText d = numText 0 := by
    rw [← h0, Lib.toList_data, Lib.toList_data] at e
    have := congrArg (fun b : ByteArray => b.data.toList) (ByteArray.ext (Array.toList_inj.1 e) : numS d = numS 0)
    exact this
  have hn : neg d = neg 0 := by rw [← num_minus, ← num_minus, e1]
  have hu : up d = up 0 := by
    apply decDigits_inj
    rw [← num_rest, ← num_rest, e1]
  have hup : up d = 0 := by rw [hu]; rfl
  rw [← ratOf_self d, hup]
  unfold ratOf
  split <;> simp
attribute [local irreducible] wpOp
set_option linter.unusedVariables false in
/-- what the operations of region 11 yield -/
def invertsAKs11 (n NN B4 lg lc : Nat) (d : Rat) (its : List Rat) : List RK :=
  [.pure (.agg #[.int .i64 5, .string { data := #[] }, .string { data := #[] }, .string { data := #[] }, .bool false, .int .i64 0, .int .i64 (n : Int), .int .i64 (n : Int), .slice (some ⟨lg, 0, none⟩) NN lc]),
   .row #[.int .i64 5, .string { data := #[] }, .string { data := #[] }, .string { data := #[] }, .bool false, .int .i64 0, .int .i64 (n : Int), .int .i64 (n : Int), .slice (some ⟨lg, 0, none⟩) NN lc] 27 1,
   .pure (.agg #[.int .i64 1, .string (numS d), .string (denS d), .string { data := #[] }, .bool false, .int .i64 0, .int .i64 0, .int .i64 0, .slice none 0 0]),
   .pure (.agg #[.int .i64 5, .string { data := #[] }, .string { data := #[] }, .string { data := #[] }, .bool false, .int .i64 0, .int .i64 (n : Int), .int .i64 (n : Int), .slice (some ⟨lg, 0, none⟩) NN lc]),
   .row #[.int .i64 5, .string { data := #[] }, .string { data := #[] }, .string { data := #[] }, .bool false, .int .i64 0, .int .i64 (n : Int), .int .i64 (n : Int), .slice (some ⟨lg, 0, none⟩) NN lc] 27 1,
   .any (ArrR n NN its),
   .box none #[.int .i64 0, .string { data := #[] }, .string { data := #[] }, .string { data := #[] }, .bool false, .int .i64 0, .int .i64 0, .int .i64 0, .slice none 0 0] #[.int .i64 0, .string { data := #[] }, .string { data := #[] }, .string { data := #[] }, .bool false, .int .i64 0, .int .i64 0, .int .i64 0, .slice none 0 0] 27 11,
   .box none #[.int .i64 0, .string { data := #[] }, .string { data := #[] }, .string { data := #[] }, .bool false, .int .i64 0, .int .i64 0, .int .i64 0, .slice none 0 0] #[.int .i64 0, .string { data := #[] }, .string { data := #[] }, .string { data := #[] }, .bool false, .int .i64 0, .int .i64 0, .int .i64 0, .slice none 0 0] 27 11,
   .put 0,
   .put 0]
set_option linter.unusedVariables false in
/-- what the operations of region 16 yield -/
def invertsAKs16 (n NN B4 b7 b8 lg lc lg5 cap5 : Nat) (d d2 q1 qn : Rat) (us : List Rat) : List RK :=
  [.pure (.agg #[.int .i64 5, .string { data := #[] }, .string { data := #[] }, .string { data := #[] }, .bool false, .int .i64 0, .int .i64 (n : Int), .int .i64 (n : Int), .slice (some ⟨lg, 0, none⟩) NN lc]),
   .pure (.agg #[.int .i64 5, .string { data := #[] }, .string { data := #[] }, .string { data := #[] }, .bool false, .int .i64 0, .int .i64 (n : Int), .int .i64 (n : Int), .slice (some ⟨lg5, 0, none⟩) NN cap5]),
   .row #[.int .i64 5, .string { data := #[] }, .string { data := #[] }, .string { data := #[] }, .bool false, .int .i64 0, .int .i64 (n : Int), .int .i64 (n : Int), .slice (some ⟨lg, 0, none⟩) NN lc, .int .i64 5, .string { data := #[] }, .string { data := #[] }, .string { data := #[] }, .bool false, .int .i64 0, .int .i64 (n : Int), .int .i64 (n : Int), .slice (some ⟨lg5, 0, none⟩) NN cap5] 27 2,
   .any (ArrR n NN us),
   .pure (.int .i64 (n : Int)),
   .pure (.agg #[.int .i64 1, .string (numS qn), .string (denS qn), .string { data := #[] }, .bool false, .int .i64 0, .int .i64 0, .int .i64 0, .slice none 0 0]),
   .row #[.int .i64 1, .string (numS qn), .string (denS qn), .string { data := #[] }, .bool false, .int .i64 0, .int .i64 0, .int .i64 0, .slice none 0 0] 27 1,
   .any (ArrR n NN us),
   .pure (.bool true),
   .pure (.bool true),
   .pure (.agg #[.int .i64 1, .string (numS d), .string (denS d), .string { data := #[] }, .bool false, .int .i64 0, .int .i64 0, .int .i64 0, .slice none 0 0]),
   .pure (.agg #[.int .i64 5, .string { data := #[] }, .string { data := #[] }, .string { data := #[] }, .bool false, .int .i64 0, .int .i64 (n : Int), .int .i64 (n : Int), .slice (some ⟨lg5, 0, none⟩) NN cap5]),
   .row #[.int .i64 5, .string { data := #[] }, .string { data := #[] }, .string { data := #[] }, .bool false, .int .i64 0, .int .i64 (n : Int), .int .i64 (n : Int), .slice (some ⟨lg5, 0, none⟩) NN cap5] 27 1,
   .pure (.agg #[.int .i64 1, .string (numS d2), .string (denS d2), .string { data := #[] }, .bool false, .int .i64 0, .int .i64 0, .int .i64 0, .slice none 0 0]),
   .row #[.int .i64 1, .string (numS d), .string (denS d), .string { data := #[] }, .bool false, .int .i64 0, .int .i64 0, .int .i64 0, .slice none 0 0, .int .i64 1, .string (numS d2), .string (denS d2), .string { data := #[] }, .bool false, .int .i64 0, .int .i64 0, .int .i64 0, .slice none 0 0] 27 2,
   .pure (.agg #[.int .i64 1, .string (numS q1), .string (denS q1), .string { data := #[] }, .bool false, .int .i64 0, .int .i64 0, .int .i64 0, .slice none 0 0]),
   .pure (.agg #[.int .i64 1, .string (numS q1), .string (denS q1), .string { data := #[] }, .bool false, .int .i64 0, .int .i64 0, .int .i64 0, .slice none 0 0]),
   .pure (.bool true),
   .pure (.bool true),
   .pure (.bool true)]
set_option linter.unusedSimpArgs false in
set_option linter.unusedVariables false in
set_option maxHeartbeats 4000000 in
set_option maxRecDepth 100000 in
theorem inverts_walk (A : Option Addr) (L C : Nat) (zs : List Int) (n NN : Nat) (qs its us : List Rat) (d d2 : Rat) (w : World) (hE : Env w)
    (hi : IntsIn w A L C zs)
    (hn : n = 1 + L % 4)
    (hNN : n * n = NN)
    (hql : qs.length = NN)
    (hqx : ∀ i (h : i < qs.length), qs[i] = ((xInt zs i : Int) : Rat))
    (cDet : ∀ (W : World) (lg lc ab : Nat), ValsAt W lg 0 (numVals qs) → ValsAt W ab 0 [arrVal' (n : Int) (n : Int) lg NN lc] → Env W → Calls Tryz.prog 7 #[.string { data := #[77, 68, 69, 84, 69, 82, 77] }, .slice (some ⟨ab, 0, none⟩) 1 1] W fun e w' => e = .returned (numVal d) ∧ Below W.heap.size W w')
    (hd0 : d ≠ 0)
    (cInv : ∀ (W : World) (lg lc ab : Nat), ValsAt W lg 0 (numVals qs) → ValsAt W ab 0 [arrVal' (n : Int) (n : Int) lg NN lc] → Env W → Calls Tryz.prog 7 #[.string { data := #[77, 73, 78, 86, 69, 82, 83, 69] }, .slice (some ⟨ab, 0, none⟩) 1 1] W fun e w' => ∃ lg' cap', e = .returned (arrVal' (n : Int) (n : Int) lg' NN cap').agg ∧ ValsAt w' lg' 0 (numVals its) ∧ W.heap.size ≤ lg' ∧ Below W.heap.size W w')
    (cMul : ∀ (W : World) (lg lc lg2 c2 ab : Nat), ValsAt W lg 0 (numVals qs) → ValsAt W lg2 0 (numVals its) → ValsAt W ab 0 [arrVal' (n : Int) (n : Int) lg NN lc, arrVal' (n : Int) (n : Int) lg2 NN c2] → Env W → Calls Tryz.prog 7 #[.string { data := #[77, 77, 85, 76, 84] }, .slice (some ⟨ab, 0, none⟩) 2 2] W fun e w' => ∃ lg' cap', e = .returned (arrVal' (n : Int) (n : Int) lg' NN cap').agg ∧ ValsAt w' lg' 0 (numVals us) ∧ W.heap.size ≤ lg' ∧ Below W.heap.size W w')
    (cUnit : ∀ (W : World) (ab : Nat), ValsAt W ab 0 (numVals [((n : Int) : Rat)]) → Env W → Calls Tryz.prog 7 #[.string { data := #[77, 85, 78, 73, 84] }, .slice (some ⟨ab, 0, none⟩) 1 1] W fun e w' => ∃ lg' cap', e = .returned (arrVal' (n : Int) (n : Int) lg' NN cap').agg ∧ ValsAt w' lg' 0 (numVals us) ∧ W.heap.size ≤ lg' ∧ Below W.heap.size W w')
    (hul : us.length = NN)
    (hil : its.length = NN)
    (cDet2 : ∀ (W : World) (lg lc ab : Nat), ValsAt W lg 0 (numVals its) → ValsAt W ab 0 [arrVal' (n : Int) (n : Int) lg NN lc] → Env W → Calls Tryz.prog 7 #[.string { data := #[77, 68, 69, 84, 69, 82, 77] }, .slice (some ⟨ab, 0, none⟩) 1 1] W fun e w' => e = .returned (numVal d2) ∧ Below W.heap.size W w')
    (cPro : ∀ (W : World) (ab : Nat), ValsAt W ab 0 (numVals [d, d2]) → Env W → Calls Tryz.prog 7 #[.string { data := #[80, 82, 79, 68, 85, 67, 84] }, .slice (some ⟨ab, 0, none⟩) 2 2] W fun e w' => e = .returned (numVal ((1 : Int) : Rat)) ∧ Below W.heap.size W w') :
    Calls Tryz.prog 3 #[.slice A L C] w fun e w' => e = .returned (.bool true) ∧ Below w.heap.size w w' := by
  have HI := Lib.hid hi
  have HQL := Lib.hid hql
  have HQX := Lib.hid hqx
  have HEW := Lib.hid hE
  have QcDet := Lib.hid cDet
  have QcInv := Lib.hid cInv
  have QcMul := Lib.hid cMul
  have QcUnit := Lib.hid cUnit
  have QcDet2 := Lib.hid cDet2
  have QcPro := Lib.hid cPro
  have HD0 := Lib.hid hd0
  have HLZ := Lib.hid hi.len
  have hlm := hi.max
  obtain ⟨r, hr⟩ : ∃ r, L % 4 = r := ⟨_, rfl⟩
  have hr4 : r < 4 := by omega
  rw [hr] at hn
  have HNR := Lib.hid hn
  have h1n : 1 ≤ n := by omega
  have h4n : n ≤ 4 := by omega
  have hem : (L : Int) % 4 = (r : Int) := by omega
  have htm : (L : Int).tmod 4 = (r : Int) := by rw [Int.tmod_eq_emod_of_nonneg (by omega)]; exact hem
  have hw1 : IntKind.i64.wrap (r : Int) = (r : Int) := IntWalk.i64_in _ (by omega)
  have hw2 : IntKind.i64.wrap (1 + (r : Int)) = (n : Int) := by rw [show (1 : Int) + (r : Int) = (n : Int) by omega]; exact IntWalk.i64_in _ (by omega)
  have hN16 : NN ≤ 16 := by rw [← hNN]; exact Nat.mul_le_mul h4n h4n
  have h0N : 0 < NN := by rw [← hNN]; exact Nat.mul_pos h1n h1n
  have hw3 : IntKind.i64.wrap ((n : Int) * (n : Int)) = (NN : Int) := by rw [← Int.natCast_mul, hNN]; exact IntWalk.i64_in _ (by omega)
  have HNN := Lib.hid hNN
  have hb0 : Below w.heap.size w (w.alloc (.cells #[.int .i64 5, .string { data := #[] }, .string { data := #[] }, .string { data := #[] }, .bool false, .int .i64 0, .int .i64 (n : Int), .int .i64 (n : Int), .slice none 0 0] 27)) := (Below.refl _ _).alloc (Nat.le_refl _) _
  have HI0 := Lib.hid (show VbI w n (.slice none 0 0) (.slice none 0 0) [] _ from ⟨heap_alloc_new w (.cells #[.int .i64 5, .string { data := #[] }, .string { data := #[] }, .string { data := #[] }, .bool false, .int .i64 0, .int .i64 (n : Int), .int .i64 (n : Int), .slice none 0 0] 27), hb0, World.ownsRow_nil _ _ _ _⟩)
  obtain ⟨i0, hi0', hz0, hz1, hz2⟩ := info_val
  clear hi hn hNN hql hqx hE hd0 hb0 hr cDet cInv cMul cUnit cDet2 cPro
  go_enter Tryz.func3, Tryz.ntmps3
  go_wp2_with fail
  obtain ⟨B4, hB4⟩ : ∃ b, w.heap.size = b := ⟨_, rfl⟩
  have HB4 := Lib.hid hB4
  clear hB4 hem htm hw1 hw2 hw3
  go_loopg [5, 6, 19] NN (fun gh v5 v6 v19 wx => ∃ (i : Nat) (v : Value), v19 = .int .i64 (i : Int) ∧ i ≤ NN ∧ gh = NN - i ∧ VbI w n v v (qs.take i) wx)
  case atStart => exact ⟨0, _, rfl, Nat.zero_le _, rfl, HI0.out⟩
  case round =>
    clear HI0
    obtain ⟨i, v, rfl, hile, hgi, hI⟩ := hrel
    have HV := Lib.hid hI
    by_cases hlt : i < NN
    · skip
      have hdd : decide ((i : Int) < (NN : Int)) = true := decide_eq_true (by omega)
      have hdd2 : decide (i < NN) = true := decide_eq_true hlt
      have hi0 : (0 : Int) ≤ (i : Int) := by omega
      have hi1 : (i : Int) < (NN : Int) := by omega
      have hwk : IntKind.i64.wrap ((i : Int) + 1) = (i : Int) + 1 := IntWalk.i64_in _ (by omega)
      obtain ⟨ii, hii⟩ : ∃ x, i * i = x := ⟨_, rfl⟩
      have hii9 : ii ≤ 225 := by rw [← hii]; exact Nat.le_trans (Nat.mul_le_mul (show i ≤ 15 by omega) (show i ≤ 15 by omega)) (by decide)
      have hwi : IntKind.i64.wrap ((i : Int) * (i : Int)) = (ii : Int) := by rw [← Int.natCast_mul, hii]; exact IntWalk.i64_in _ (by omega)
      obtain ⟨x, hx⟩ : ∃ x, xInt zs i = x := ⟨_, rfl⟩
      have HX := Lib.hid hx
      have HII := Lib.hid hii
      clear hii hx hI
      go_upto_if 28 with fail
      go_cut [6, 19] (fun v6 v19 wx => v6 = .int .i64 x ∧ v19 = .int .i64 (i : Int) ∧ wx = wr)
      case first =>
        by_cases hl : i < L
        · have hl1 : decide ((i : Int) < (L : Int)) = true := decide_eq_true (by omega)
          have hl2 : decide (i < L) = true := decide_eq_true hl
          have hl3 : (i : Int) < (L : Int) := by omega
          obtain ⟨A', hA, hc⟩ := HI.out.src (by omega)
          have hzl : i < zs.length := by have := HLZ.out; omega
          have hcell := cell_below (hc i hzl) HV.out.low
          obtain ⟨hb1, hb2⟩ := HI.out.rng _ (List.getElem_mem hzl)
          obtain ⟨z, hz⟩ : ∃ z, zs[i] = z := ⟨_, rfl⟩
          have hxz : x = z % 19 - 9 := by
            rw [← HX.out, ← hz]
            unfold xInt
            rw [if_pos hzl]
            simp [hzl]
          rw [hz] at hcell hb1 hb2
          subst hA
          have TM := Lib.hid (fun W => kmod_any z 19 hb1 hb2 (by decide) (by decide) W)
          have hws : IntKind.i64.wrap (z % 19 - 9) = x := by rw [← hxz]; exact IntWalk.i64_in _ (by omega)
          have hws2 : IntKind.i64.wrap (z % 19 + -9) = x := by rw [← hws]; rfl
          clear hc hb1 hb2 hz hxz hzl
          rw [hl2]
          go_wp2_with fail
          refine (TM.out _).mono ?_
          intro e W1 hW1
          obtain ⟨hW2, hW3⟩ := hW1
          rw [hW2, hW3]
          clear hW2 hW3 W1 e
          go_wp2
          go_meet
          case rel => exact ⟨rfl, rfl, rfl⟩
        · have hl1 : decide ((i : Int) < (L : Int)) = false := decide_eq_false (by omega)
          have HXI := Lib.hid (show (ii : Int) = x by
            rw [← HX.out]
            unfold xInt
            rw [if_neg (by have := HLZ.out; omega), ← HII.out, Int.natCast_mul])
          have hl2 : decide (i < L) = false := decide_eq_false hl
          rw [hl2]
          go_wp2
          go_meet
          case rel => exact ⟨by rw [HXI.out], rfl, rfl⟩
      case rest =>
        obtain ⟨rfl, rfl, rfl⟩ := hcut
        have hxb : -9 ≤ x ∧ x ≤ 225 := by
          rw [← HX.out]
          unfold xInt
          split
          · omega
          · have := HII.out
            rw [← Int.natCast_mul, HII.out]
            omega
        have hiq : i < qs.length := by have := HQL.out; omega
        obtain ⟨q, hqq⟩ : ∃ q, ((x : Int) : Rat) = q := ⟨_, rfl⟩
        have HTK := Lib.hid (show qs.take (i + 1) = qs.take i ++ [q] by rw [List.take_succ_eq_append_getElem hiq, HQX.out i hiq, HX.out, hqq])
        have HDL := Lib.hid (show (qs.take i).length = i by rw [List.length_take]; omega)
        have TN := (fun W g => kwhole_any x W (by omega) (by omega) g)
        rw [hqq, numVal_is q] at TN
        replace TN := Lib.hid TN
        have hown := HV.out.own
        rw [HDL.out] at hown
        obtain ⟨av, cv, hu⟩ := owns_form hown
        subst hu
        have hml : i + 1 ≤ maxLen := by unfold maxLen; omega
        clear hown hqq hiq hxb
        go_upto_region 9 with fail
        replace HV := Lib.hid (HV.out.step ((Below.refl wc.heap.size wc).drew))
        obtain ⟨⟨x0, x1, x2, x3, x4, x5, x6, x7, x8⟩, y0, y1, y2, y3, y4, y5, y6, y7, y8⟩ := nine_at HV.out.box
        go_region_law (first
          | (have HT3 := Lib.hid (HT2.out.step ((Below.refl W2.heap.size W2).alloc (Nat.le_refl _) (.cells #[.int .i64 1, .string (numS q), .string (denS q), .string { data := #[] }, .bool false, .int .i64 0, .int .i64 0, .int .i64 0, .slice none 0 0] 27)));
             have HOW := Lib.hid (show (W2.alloc (.cells #[.int .i64 1, .string (numS q), .string (denS q), .string { data := #[] }, .bool false, .int .i64 0, .int .i64 0, .int .i64 0, .slice none 0 0] 27)).ownsRow (w.heap.size + 1) 27 9 (.slice av i cv) i (flat (numVals (qs.take i))) from by have := HT3.out.own; rw [HDL.out] at this; exact this);
             have HNW := Lib.hid (World.news_of_block (cs := #[.int .i64 1, .string (numS q), .string (denS q), .string { data := #[] }, .bool false, .int .i64 0, .int .i64 0, .int .i64 0, .slice none 0 0]) (t := 27) (fr := (0, 0)) (heap_alloc_new W2 (.cells #[.int .i64 1, .string (numS q), .string (denS q), .string { data := #[] }, .bool false, .int .i64 0, .int .i64 0, .int .i64 0, .slice none 0 0] 27)));
             refine step_append_own rfl _ _ 25 rfl (w.heap.size + 1) 27 i0 _ 9 112 Tryz.underlying25 hi0' hz0 hz1 hz2 rfl (by decide) (.slice av i cv) i (flat (numVals (qs.take i))) (by simp [Act.eval]) HOW.out ⟨W2.heap.size, 0, none⟩ 1 1 [.int .i64 1, .string (numS q), .string (denS q), .string { data := #[] }, .bool false, .int .i64 0, .int .i64 0, .int .i64 0, .slice none 0 0] (by simp [Act.eval]) rfl HNW.out (by simp [Value.oneCell']) hml (by omega) HT3.out.size ?_;
             intro v5 w5 hown5 hgrow5;
             obtain ⟨a5, c5, hu5⟩ := owns_form hown5;
             subst hu5;
             have HT5 := Lib.hid (HT3.out.push (by rw [HDL.out]; exact hown5) hgrow5);
             rw [← HTK.out] at HT5;
             clear hown5 hgrow5 HT3 HOW HNW;
             obtain ⟨⟨x0, x1, x2, x3, x4, x5, x6, x7, x8⟩, y0, y1, y2, y3, y4, y5, y6, y7, y8⟩ := nine_at HT5.out.box)
          | (go_simp; go_at_call 6; (with_reducible refine (TN.out _ (HEW.out.below HV.out.low)).mono ?_); rintro e W2 ⟨rfl, hb⟩; have HT2 := Lib.hid (HV.out.step hb); clear hb; obtain ⟨⟨x0, x1, x2, x3, x4, x5, x6, x7, x8⟩, y0, y1, y2, y3, y4, y5, y6, y7, y8⟩ := nine_at HT2.out.box; obtain ⟨⟨_, _, _, _, _, _, _, _, z8⟩, _⟩ := nine_at (HT2.out.step ((Below.refl W2.heap.size W2).alloc (Nat.le_refl _) (.cells #[.int .i64 1, .string (numS q), .string (denS q), .string { data := #[] }, .bool false, .int .i64 0, .int .i64 0, .int .i64 0, .slice none 0 0] 27))).box))
        all_goals
          have HT6 := Lib.hid HT5.out.store
          go_wp2
          go_roundg (NN - (i + 1))
          case measure => omega
          case rel => exact ⟨i + 1, _, by go_num, by omega, by omega, HT6.out⟩
    · have hdd : decide ((i : Int) < (NN : Int)) = false := decide_eq_false (by omega)
      have hdd2 : decide (i < NN) = false := decide_eq_false hlt
      have hall : qs.take i = qs := by rw [show i = NN by omega, ← HQL.out, List.take_length]
      have hI2 := HV.out
      rw [hall] at hI2
      have hown := hI2.own
      rw [HQL.out] at hown
      obtain ⟨lg, lc, e, hlg, _, hva⟩ := vals_of_owns hown (by rw [numVals_len]; exact HQL.out) h0N
      subst e
      have HVA := Lib.hid hva
      have H4 := Lib.hid hI2.box
      have HG := Lib.hid hI2.low
      have HE := Lib.hid (HEW.out.below hI2.low)
      rw [HB4.out] at H4
      clear hlt hall hI hI2 hown hlg hva HV
      go_upto_region 11 with fail
      rw [HB4.out]
      have LT4 := Lib.hid (heap_lt H4.out)
      have LTG := Lib.hid (items_lt HVA.out (by rw [HQL.out]; exact h0N))
      go_wp2_with fail
      have hok : okB 10 (invertsAKs11 n NN B4 lg lc d its) = true := by kernel_rfl
      have hla : ∀ (i : Nat) (k : RK), (invertsAKs11 n NN B4 lg lc d its)[i]? = some k → k.lasts := by
        intro i k hk
        match i, hk with
        | 0, hk => have hk := Option.some.inj hk; subst hk; exact trivial
        | 1, hk => have hk := Option.some.inj hk; subst hk; exact trivial
        | 2, hk => have hk := Option.some.inj hk; subst hk; exact trivial
        | 3, hk => have hk := Option.some.inj hk; subst hk; exact trivial
        | 4, hk => have hk := Option.some.inj hk; subst hk; exact trivial
        | 5, hk => have hk := Option.some.inj hk; subst hk; exact vals_lasts
        | 6, hk => have hk := Option.some.inj hk; subst hk; exact trivial
        | 7, hk => have hk := Option.some.inj hk; subst hk; exact trivial
        | 8, hk => have hk := Option.some.inj hk; subst hk; exact trivial
        | 9, hk => have hk := Option.some.inj hk; subst hk; exact trivial
        | _ + 10, hk => exact absurd hk (by simp [invertsAKs11])
      refine wp_region_facts_abs_r (row := none) (w := wr) 10 8 2 10 [8, 9] (invertsAKs11 n NN B4 lg lc d its) [some 43, some 44, some 45, some 46, some 47, some 48, some 7, some 8, none, none] [(4, .pointer (some ⟨B4, 0, none⟩))] 78 (by kernel_rfl) (by kernel_rfl) (by kernel_rfl) rfl rfl (by decide) rfl (by kernel_rfl) rfl (Nat.le_of_eq rfl) rfl ?ho [undef, undef, undef, undef, undef, undef, undef, undef, undef, undef] ?h00 (Fs.start rfl rfl) ?hs ?hd
      case ho =>
        intro k x hk
        match k, hk with
        | 0, hk => have hk := Option.some.inj hk; subst hk; rfl
        | _ + 1, hk => exact absurd hk (by simp)
      case h00 => simp only [putO, layL]
      case hs =>
        rintro A listed vs Wr hF hR i hi hun hpre
        obtain ⟨s0, s1, s2, s3, s4, s5, s6, s7, s8, s9, hvs⟩ := exl_of 10 vs (fun l => vs = l) hF.len rfl
        subst hvs
        have hge := Nat.zero_le i
        rcases Nat.lt_or_ge i 4 with hlt | hgt
        · replace hi := hlt
          clear hlt
          rcases Nat.lt_or_ge i 2 with hlt | hgt
          · replace hi := hlt
            clear hlt
            rcases Nat.lt_or_ge i 1 with hlt | hgt
            · replace hi := hlt
              clear hlt
              obtain rfl := eqi hi hge
              have ro4 : A.tmps[4]? = some (.pointer (some ⟨B4, 0, none⟩)) := hR.out 0 _ rfl
              have hcc := (nine_at (keep_block H4.out (below_none hF.low))).1
              have cH40 := hcc.1
              have cH41 := hcc.2.1
              have cH42 := hcc.2.2.1
              have cH43 := hcc.2.2.2.1
              have cH44 := hcc.2.2.2.2.1
              have cH45 := hcc.2.2.2.2.2.1
              have cH46 := hcc.2.2.2.2.2.2.1
              have cH47 := hcc.2.2.2.2.2.2.2.1
              have cH48 := hcc.2.2.2.2.2.2.2.2
              clear hcc
              refine step_of ⟨some 43, _, _, _, _, _⟩ rfl (fun K' hK => ?_)
              go_simp
              exact hK.out _ _ ⟨_, hF.pure hok hla hpre rfl (Below.refl _ _), rfl⟩
            · replace hge : 1 ≤ i := hgt
              clear hgt
              obtain rfl := eqi hi hge
              have p0 := hpre 0 (by kernel_rfl)
              have e0 : s0 = .agg #[.int .i64 5, .string { data := #[] }, .string { data := #[] }, .string { data := #[] }, .bool false, .int .i64 0, .int .i64 (n : Int), .int .i64 (n : Int), .slice (some ⟨lg, 0, none⟩) NN lc] := hF.get 0 _ rfl (.inr p0)
              subst e0
              have r0 : A.tmps[43]? = some (.agg #[.int .i64 5, .string { data := #[] }, .string { data := #[] }, .string { data := #[] }, .bool false, .int .i64 0, .int .i64 (n : Int), .int .i64 (n : Int), .slice (some ⟨lg, 0, none⟩) NN lc]) := hR.own 0 _ _ rfl rfl
              refine step_of ⟨some 44, _, _, _, _, _⟩ rfl (fun K' hK => ?_)
              go_simp
              exact hK.out _ _ ⟨_, hF.row hok hla hpre rfl, rfl⟩
          · replace hge : 2 ≤ i := hgt
            clear hgt
            rcases Nat.lt_or_ge i 3 with hlt | hgt
            · replace hi := hlt
              clear hlt
              obtain rfl := eqi hi hge
              have p1 := hpre 1 (by kernel_rfl)
              obtain ⟨G1, eG1, _, hGB1⟩ : ∃ G, s1 = .slice (some ⟨G, 0, none⟩) 1 1 ∧ _ ≤ G ∧ Wr.heap[G]? = some (.cells #[.int .i64 5, .string { data := #[] }, .string { data := #[] }, .string { data := #[] }, .bool false, .int .i64 0, .int .i64 (n : Int), .int .i64 (n : Int), .slice (some ⟨lg, 0, none⟩) NN lc] 27 (0, 0)) := hF.get 1 _ rfl (.inr p1)
              subst eG1
              have r1 : A.tmps[44]? = some (.slice (some ⟨G1, 0, none⟩) 1 1) := hR.own 1 _ _ rfl rfl
              refine step_of ⟨some 45, _, _, _, _, _⟩ rfl (fun K' hK => ?_)
              go_simp
              go_at_call 7
              (with_reducible refine (QcDet.out _ lg lc G1 (HVA.out.below (below_none hF.low)) (row_one hGB1) (HE.out.below (below_none hF.low))).mono ?_)
              rintro e Wq ⟨rfl, hq⟩
              exact hK.out _ _ ⟨_, hF.pure hok hla hpre rfl hq, rfl⟩
            · replace hge : 3 ≤ i := hgt
              clear hgt
              obtain rfl := eqi hi hge
              have ro4 : A.tmps[4]? = some (.pointer (some ⟨B4, 0, none⟩)) := hR.out 0 _ rfl
              have hcc := (nine_at (keep_block H4.out (below_none hF.low))).1
              have cH40 := hcc.1
              have cH41 := hcc.2.1
              have cH42 := hcc.2.2.1
              have cH43 := hcc.2.2.2.1
              have cH44 := hcc.2.2.2.2.1
              have cH45 := hcc.2.2.2.2.2.1
              have cH46 := hcc.2.2.2.2.2.2.1
              have cH47 := hcc.2.2.2.2.2.2.2.1
              have cH48 := hcc.2.2.2.2.2.2.2.2
              clear hcc
              refine step_of ⟨some 46, _, _, _, _, _⟩ rfl (fun K' hK => ?_)
              go_simp
              exact hK.out _ _ ⟨_, hF.pure hok hla hpre rfl (Below.refl _ _), rfl⟩
        · replace hge : 4 ≤ i := hgt
          clear hgt
          rcases Nat.lt_or_ge i 6 with hlt | hgt
          · replace hi := hlt
            clear hlt
            rcases Nat.lt_or_ge i 5 with hlt | hgt
            · replace hi := hlt
              clear hlt
              obtain rfl := eqi hi hge
              have p3 := hpre 3 (by kernel_rfl)
              have e3 : s3 = .agg #[.int .i64 5, .string { data := #[] }, .string { data := #[] }, .string { data := #[] }, .bool false, .int .i64 0, .int .i64 (n : Int), .int .i64 (n : Int), .slice (some ⟨lg, 0, none⟩) NN lc] := hF.get 3 _ rfl (.inr p3)
              subst e3
              have r3 : A.tmps[46]? = some (.agg #[.int .i64 5, .string { data := #[] }, .string { data := #[] }, .string { data := #[] }, .bool false, .int .i64 0, .int .i64 (n : Int), .int .i64 (n : Int), .slice (some ⟨lg, 0, none⟩) NN lc]) := hR.own 3 _ _ rfl rfl
              refine step_of ⟨some 47, _, _, _, _, _⟩ rfl (fun K' hK => ?_)
              go_simp
              exact hK.out _ _ ⟨_, hF.row hok hla hpre rfl, rfl⟩
            · replace hge : 5 ≤ i := hgt
              clear hgt
              obtain rfl := eqi hi hge
              have p4 := hpre 4 (by kernel_rfl)
              obtain ⟨G4, eG4, _, hGB4⟩ : ∃ G, s4 = .slice (some ⟨G, 0, none⟩) 1 1 ∧ _ ≤ G ∧ Wr.heap[G]? = some (.cells #[.int .i64 5, .string { data := #[] }, .string { data := #[] }, .string { data := #[] }, .bool false, .int .i64 0, .int .i64 (n : Int), .int .i64 (n : Int), .slice (some ⟨lg, 0, none⟩) NN lc] 27 (0, 0)) := hF.get 4 _ rfl (.inr p4)
              subst eG4
              have r4 : A.tmps[47]? = some (.slice (some ⟨G4, 0, none⟩) 1 1) := hR.own 4 _ _ rfl rfl
              refine step_of ⟨some 48, _, _, _, _, _⟩ rfl (fun K' hK => ?_)
              go_simp
              go_at_call 7
              (with_reducible refine (QcInv.out _ lg lc G4 (HVA.out.below (below_none hF.low)) (row_one hGB4) (HE.out.below (below_none hF.low))).mono ?_)
              rintro e Wq ⟨lq, cq, rfl, hvq, _, hq⟩
              exact hK.out _ _ ⟨_, hF.any hok hla hpre rfl hq ⟨lq, cq, rfl, hvq⟩, rfl⟩
          · replace hge : 6 ≤ i := hgt
            clear hgt
            rcases Nat.lt_or_ge i 7 with hlt | hgt
            · replace hi := hlt
              clear hlt
              obtain rfl := eqi hi hge
              refine step_of ⟨some 7, _, _, _, _, _⟩ rfl (fun K' hK => ?_)
              go_simp
              exact hK.out _ _ ⟨_, hF.box hok hla hpre hun rfl, rfl⟩
            · replace hge : 7 ≤ i := hgt
              clear hgt
              obtain rfl := eqi hi hge
              refine step_of ⟨some 8, _, _, _, _, _⟩ rfl (fun K' hK => ?_)
              go_simp
              exact hK.out _ _ ⟨_, hF.box hok hla hpre hun rfl, rfl⟩
      case hd =>
        rintro listed vs WA hF hall
        obtain ⟨s0, s1, s2, s3, s4, s5, s6, s7, s8, s9, hvs⟩ := exl_of 10 vs (fun l => vs = l) hF.len rfl
        subst hvs
        have e2 : s2 = .agg #[.int .i64 1, .string (numS d), .string (denS d), .string { data := #[] }, .bool false, .int .i64 0, .int .i64 0, .int .i64 0, .slice none 0 0] := hF.get 2 _ rfl (.inr (hall 2 (by decide)))
        subst e2
        obtain ⟨lg5, cap5, e5, hv5⟩ := hF.get 5 _ rfl (.inr (hall 5 (by decide)))
        replace e5 : s5 = .agg #[.int .i64 5, .string { data := #[] }, .string { data := #[] }, .string { data := #[] }, .bool false, .int .i64 0, .int .i64 (n : Int), .int .i64 (n : Int), .slice (some ⟨lg5, 0, none⟩) NN cap5] := e5
        subst e5
        have HV5 := Lib.hid hv5
        obtain ⟨b7, e6, _, gq, k6⟩ : ∃ G, s6 = .pointer (some ⟨G, 0, none⟩) ∧ (∀ k, none = some k → G = k) ∧ _ ≤ G ∧ WA.heap[G]? = some (.cells (if listed.getD 11 false = true then #[.int .i64 0, .string { data := #[] }, .string { data := #[] }, .string { data := #[] }, .bool false, .int .i64 0, .int .i64 0, .int .i64 0, .slice none 0 0] else #[.int .i64 0, .string { data := #[] }, .string { data := #[] }, .string { data := #[] }, .bool false, .int .i64 0, .int .i64 0, .int .i64 0, .slice none 0 0]) 27 (0, 0)) := hF.get 6 _ rfl (.inr (hall 6 (by decide)))
        subst e6
        rw [if_neg (hF.unst (by decide))] at k6
        have H7 := Lib.hid k6
        clear k6
        have ge7 := Lib.hid gq
        clear gq
        obtain ⟨b8, e7, _, gq, k7⟩ : ∃ G, s7 = .pointer (some ⟨G, 0, none⟩) ∧ (∀ k, none = some k → G = k) ∧ _ ≤ G ∧ WA.heap[G]? = some (.cells (if listed.getD 11 false = true then #[.int .i64 0, .string { data := #[] }, .string { data := #[] }, .string { data := #[] }, .bool false, .int .i64 0, .int .i64 0, .int .i64 0, .slice none 0 0] else #[.int .i64 0, .string { data := #[] }, .string { data := #[] }, .string { data := #[] }, .bool false, .int .i64 0, .int .i64 0, .int .i64 0, .slice none 0 0]) 27 (0, 0)) := hF.get 7 _ rfl (.inr (hall 7 (by decide)))
        subst e7
        rw [if_neg (hF.unst (by decide))] at k7
        have H8 := Lib.hid k7
        clear k7
        have ge8 := Lib.hid gq
        clear gq
        have nq := hF.ne 6 7 _ _ (by decide) rfl rfl rfl rfl (.inr (hall 6 (by decide))) (.inr (hall 7 (by decide)))
        have N8_7 : Hid (b7 ≠ b8) := Lib.hid (fun h => nq (congrArg some h))
        clear nq
        have hq := below_none hF.low
        replace H4 := Lib.hid (keep_block H4.out hq)
        replace HVA := Lib.hid (HVA.out.below hq)
        replace HE := Lib.hid (HE.out.below hq)
        replace HG := Lib.hid (HG.out.trans (hq.mono HG.out.size))
        clear hq
        clear hF hall hok hla
        simp only [putO, layL]
        have HVI := HV5
        have NI7 := Lib.hid (vals_ne HVI.out (by rw [hil]; exact h0N) H7.out)
        have NI8 := Lib.hid (vals_ne HVI.out (by rw [hil]; exact h0N) H8.out)
        have qH7 := set9_at H7.out (.int .i64 1) (.string (numS d)) (.string (denS d)) (.string { data := #[] }) (.bool false) (.int .i64 0) (.int .i64 0) (.int .i64 0) (.slice none 0 0)
        have qH8 := (set9_other WA b7 (.int .i64 1) (.string (numS d)) (.string (denS d)) (.string { data := #[] }) (.bool false) (.int .i64 0) (.int .i64 0) (.int .i64 0) (.slice none 0 0) (show b8 ≠ b7 from fun h => N8_7.out h.symm)).trans H8.out
        have qH4 := (set9_other WA b7 (.int .i64 1) (.string (numS d)) (.string (denS d)) (.string { data := #[] }) (.bool false) (.int .i64 0) (.int .i64 0) (.int .i64 0) (.slice none 0 0) (show B4 ≠ b7 from by have := LT4.out; have := ge7.out; omega)).trans H4.out
        have qHVA := vals_other HVA.out (set9_other WA b7 (.int .i64 1) (.string (numS d)) (.string (denS d)) (.string { data := #[] }) (.bool false) (.int .i64 0) (.int .i64 0) (.int .i64 0) (.slice none 0 0) (show lg ≠ b7 from by have := LTG.out; have := ge7.out; omega))
        have qHVI := vals_other HVI.out (set9_other WA b7 (.int .i64 1) (.string (numS d)) (.string (denS d)) (.string { data := #[] }) (.bool false) (.int .i64 0) (.int .i64 0) (.int .i64 0) (.slice none 0 0) (show lg5 ≠ b7 from NI7.out))
        have qHG := HG.out.trans (put9_below (show w.heap.size ≤ b7 by have := ge7.out; have := LT4.out; have := HB4.out; omega) WA (.int .i64 1) (.string (numS d)) (.string (denS d)) (.string { data := #[] }) (.bool false) (.int .i64 0) (.int .i64 0) (.int .i64 0) (.slice none 0 0))
        obtain ⟨⟨a0, a1, a2, a3, a4, a5, a6, a7, a8⟩, f0, f1, f2, f3, f4, f5, f6, f7, f8⟩ := nine_at H7.out
        refine rest_one 8 ⟨none, _, _, _, _, _⟩ rfl (by kernel_rfl) rfl (fun K' hK => ?_)
        go_simp
        refine hK.out _ _ ?_
        clear a0 a1 a2 a3 a4 a5 a6 a7 a8 f0 f1 f2 f3 f4 f5 f6 f7 f8
        obtain ⟨WB, hW⟩ : ∃ Z, (((((((((WA.setCell ⟨b7, 0, none⟩ (.int .i64 1)).setCell ⟨b7, 1, none⟩ (.string (numS d))).setCell ⟨b7, 2, none⟩ (.string (denS d))).setCell ⟨b7, 3, none⟩ (.string { data := #[] })).setCell ⟨b7, 4, none⟩ (.bool false)).setCell ⟨b7, 5, none⟩ (.int .i64 0)).setCell ⟨b7, 6, none⟩ (.int .i64 0)).setCell ⟨b7, 7, none⟩ (.int .i64 0)).setCell ⟨b7, 8, none⟩ (.slice none 0 0)) = Z := ⟨_, rfl⟩
        rw [hW] at qH7 qH8 qH4 qHVA qHVI qHG ⊢
        clear hW
        replace H7 := Lib.hid qH7
        replace H8 := Lib.hid qH8
        replace H4 := Lib.hid qH4
        replace HVA := Lib.hid qHVA
        replace HVI := Lib.hid qHVI
        replace HG := Lib.hid qHG
        replace HE := Lib.hid (HEW.out.below HG.out)
        clear qH7 qH8 qH4 qHVA qHVI qHG
        have qH8 := set9_at H8.out (.int .i64 5) (.string { data := #[] }) (.string { data := #[] }) (.string { data := #[] }) (.bool false) (.int .i64 0) (.int .i64 (n : Int)) (.int .i64 (n : Int)) (.slice (some ⟨lg5, 0, none⟩) NN cap5)
        have qH7 := (set9_other WB b8 (.int .i64 5) (.string { data := #[] }) (.string { data := #[] }) (.string { data := #[] }) (.bool false) (.int .i64 0) (.int .i64 (n : Int)) (.int .i64 (n : Int)) (.slice (some ⟨lg5, 0, none⟩) NN cap5) (show b7 ≠ b8 from N8_7.out)).trans H7.out
        have qH4 := (set9_other WB b8 (.int .i64 5) (.string { data := #[] }) (.string { data := #[] }) (.string { data := #[] }) (.bool false) (.int .i64 0) (.int .i64 (n : Int)) (.int .i64 (n : Int)) (.slice (some ⟨lg5, 0, none⟩) NN cap5) (show B4 ≠ b8 from by have := LT4.out; have := ge8.out; omega)).trans H4.out
        have qHVA := vals_other HVA.out (set9_other WB b8 (.int .i64 5) (.string { data := #[] }) (.string { data := #[] }) (.string { data := #[] }) (.bool false) (.int .i64 0) (.int .i64 (n : Int)) (.int .i64 (n : Int)) (.slice (some ⟨lg5, 0, none⟩) NN cap5) (show lg ≠ b8 from by have := LTG.out; have := ge8.out; omega))
        have qHVI := vals_other HVI.out (set9_other WB b8 (.int .i64 5) (.string { data := #[] }) (.string { data := #[] }) (.string { data := #[] }) (.bool false) (.int .i64 0) (.int .i64 (n : Int)) (.int .i64 (n : Int)) (.slice (some ⟨lg5, 0, none⟩) NN cap5) (show lg5 ≠ b8 from NI8.out))
        have qHG := HG.out.trans (put9_below (show w.heap.size ≤ b8 by have := ge8.out; have := LT4.out; have := HB4.out; omega) WB (.int .i64 5) (.string { data := #[] }) (.string { data := #[] }) (.string { data := #[] }) (.bool false) (.int .i64 0) (.int .i64 (n : Int)) (.int .i64 (n : Int)) (.slice (some ⟨lg5, 0, none⟩) NN cap5))
        obtain ⟨⟨a0, a1, a2, a3, a4, a5, a6, a7, a8⟩, f0, f1, f2, f3, f4, f5, f6, f7, f8⟩ := nine_at H8.out
        refine rest_one 9 ⟨none, _, _, _, _, _⟩ rfl (by kernel_rfl) rfl (fun K' hK => ?_)
        go_simp
        refine hK.out _ _ ?_
        clear a0 a1 a2 a3 a4 a5 a6 a7 a8 f0 f1 f2 f3 f4 f5 f6 f7 f8
        obtain ⟨WC, hW⟩ : ∃ Z, (((((((((WB.setCell ⟨b8, 0, none⟩ (.int .i64 5)).setCell ⟨b8, 1, none⟩ (.string { data := #[] })).setCell ⟨b8, 2, none⟩ (.string { data := #[] })).setCell ⟨b8, 3, none⟩ (.string { data := #[] })).setCell ⟨b8, 4, none⟩ (.bool false)).setCell ⟨b8, 5, none⟩ (.int .i64 0)).setCell ⟨b8, 6, none⟩ (.int .i64 (n : Int))).setCell ⟨b8, 7, none⟩ (.int .i64 (n : Int))).setCell ⟨b8, 8, none⟩ (.slice (some ⟨lg5, 0, none⟩) NN cap5)) = Z := ⟨_, rfl⟩
        rw [hW] at qH8 qH7 qH4 qHVA qHVI qHG ⊢
        clear hW
        replace H8 := Lib.hid qH8
        replace H7 := Lib.hid qH7
        replace H4 := Lib.hid qH4
        replace HVA := Lib.hid qHVA
        replace HVI := Lib.hid qHVI
        replace HG := Lib.hid qHG
        replace HE := Lib.hid (HEW.out.below HG.out)
        clear qH8 qH7 qH4 qHVA qHVI qHG
        refine rest_end ?_
        obtain ⟨⟨a0, a1, a2, a3, a4, a5, a6, a7, a8⟩, _⟩ := nine_at H7.out
        obtain ⟨⟨e0, e1, e2, e3, e4, e5, e6, e7, e8⟩, _⟩ := nine_at H8.out
        have hnz := not_zero HD0.out
        have hnb : ((numS d).toList == [48]) = false := by rw [beq_eq_false_iff_ne]; exact hnz
        have hnn : ((numS d).toList = [48]) = False := eq_false hnz
        have hnd : decide ((numS d).toList = [48]) = false := decide_eq_false hnz
        clear hnz
        go_upto_if 55 with fail
        go_upto_region 16 with fail
        clear a0 a1 a2 a3 a4 a5 a6 a7 a8 e0 e1 e2 e3 e4 e5 e6 e7 e8 hnb hnn hnd
        obtain ⟨q1, hq1⟩ : ∃ x, ((1 : Int) : Rat) = x := ⟨_, rfl⟩
        obtain ⟨qn, hqn⟩ : ∃ x, ((n : Int) : Rat) = x := ⟨_, rfl⟩
        have TN1 := (fun W g => kwhole_any 1 W (by decide) (by decide) g)
        have TNN := (fun W g => kwhole_any (n : Int) W (by omega) (by omega) g)
        rw [hq1, numVal_is q1] at TN1
        rw [hqn, numVal_is qn] at TNN
        rw [hq1, numVal_is q1] at QcPro
        rw [hqn] at QcUnit
        rw [numVal_is d2] at QcDet2
        have TSM := (fun W => same_num q1 q1 W)
        rw [numVal_is q1, show decide (q1 = q1) = true from decide_eq_true rfl] at TSM
        replace TN1 := Lib.hid TN1
        replace TNN := Lib.hid TNN
        replace TSM := Lib.hid TSM
        clear hq1 hqn
        go_wp2_with fail
        have hok : okB 20 (invertsAKs16 n NN B4 b7 b8 lg lc lg5 cap5 d d2 q1 qn us) = true := by kernel_rfl
        have hla : ∀ (i : Nat) (k : RK), (invertsAKs16 n NN B4 b7 b8 lg lc lg5 cap5 d d2 q1 qn us)[i]? = some k → k.lasts := by
          intro i k hk
          match i, hk with
          | 0, hk => have hk := Option.some.inj hk; subst hk; exact trivial
          | 1, hk => have hk := Option.some.inj hk; subst hk; exact trivial
          | 2, hk => have hk := Option.some.inj hk; subst hk; exact trivial
          | 3, hk => have hk := Option.some.inj hk; subst hk; exact vals_lasts
          | 4, hk => have hk := Option.some.inj hk; subst hk; exact trivial
          | 5, hk => have hk := Option.some.inj hk; subst hk; exact trivial
          | 6, hk => have hk := Option.some.inj hk; subst hk; exact trivial
          | 7, hk => have hk := Option.some.inj hk; subst hk; exact vals_lasts
          | 8, hk => have hk := Option.some.inj hk; subst hk; exact trivial
          | 9, hk => have hk := Option.some.inj hk; subst hk; exact trivial
          | 10, hk => have hk := Option.some.inj hk; subst hk; exact trivial
          | 11, hk => have hk := Option.some.inj hk; subst hk; exact trivial
          | 12, hk => have hk := Option.some.inj hk; subst hk; exact trivial
          | 13, hk => have hk := Option.some.inj hk; subst hk; exact trivial
          | 14, hk => have hk := Option.some.inj hk; subst hk; exact trivial
          | 15, hk => have hk := Option.some.inj hk; subst hk; exact trivial
          | 16, hk => have hk := Option.some.inj hk; subst hk; exact trivial
          | 17, hk => have hk := Option.some.inj hk; subst hk; exact trivial
          | 18, hk => have hk := Option.some.inj hk; subst hk; exact trivial
          | 19, hk => have hk := Option.some.inj hk; subst hk; exact trivial
          | _ + 20, hk => exact absurd hk (by simp [invertsAKs16])
        refine wp_region_facts_abs (row := none) (w := WC) 20 0 20 [] (invertsAKs16 n NN B4 b7 b8 lg lc lg5 cap5 d d2 q1 qn us) [some 59, some 60, some 61, some 62, some 63, some 64, some 65, some 66, some 67, some 68, some 69, some 70, some 71, some 72, some 73, some 74, some 75, some 76, some 77, some 2] [(4, .pointer (some ⟨B4, 0, none⟩)), (8, .pointer (some ⟨b8, 0, none⟩)), (3, .int .i64 (n : Int)), (7, .pointer (some ⟨b7, 0, none⟩))] 78 (by kernel_rfl) (by kernel_rfl) (by kernel_rfl) rfl rfl (by decide) rfl (by kernel_rfl) rfl (Nat.le_of_eq rfl) rfl ?ho [undef, undef, undef, undef, undef, undef, undef, undef, undef, undef, undef, undef, undef, undef, undef, undef, undef, undef, undef, .bool false] ?h00 (Fs.start rfl rfl) ?hs ?hd
        case ho =>
          intro k x hk
          match k, hk with
          | 0, hk => have hk := Option.some.inj hk; subst hk; rfl
          | 1, hk => have hk := Option.some.inj hk; subst hk; rfl
          | 2, hk => have hk := Option.some.inj hk; subst hk; rfl
          | 3, hk => have hk := Option.some.inj hk; subst hk; rfl
          | _ + 4, hk => exact absurd hk (by simp)
        case h00 => simp only [putO, layL]
        case hs =>
          rintro A listed vs Wr hF hR i hi hun hpre
          obtain ⟨s0, s1, s2, s3, s4, s5, s6, s7, s8, s9, s10, s11, s12, s13, s14, s15, s16, s17, s18, s19, hvs⟩ := exl_of 20 vs (fun l => vs = l) hF.len rfl
          subst hvs
          have hge := Nat.zero_le i
          rcases Nat.lt_or_ge i 10 with hlt | hgt
          · replace hi := hlt
            clear hlt
            rcases Nat.lt_or_ge i 5 with hlt | hgt
            · replace hi := hlt
              clear hlt
              rcases Nat.lt_or_ge i 2 with hlt | hgt
              · replace hi := hlt
                clear hlt
                rcases Nat.lt_or_ge i 1 with hlt | hgt
                · replace hi := hlt
                  clear hlt
                  obtain rfl := eqi hi hge
                  have ro4 : A.tmps[4]? = some (.pointer (some ⟨B4, 0, none⟩)) := hR.out 0 _ rfl
                  have hcc := (nine_at (keep_block H4.out (below_none hF.low))).1
                  have cH40 := hcc.1
                  have cH41 := hcc.2.1
                  have cH42 := hcc.2.2.1
                  have cH43 := hcc.2.2.2.1
                  have cH44 := hcc.2.2.2.2.1
                  have cH45 := hcc.2.2.2.2.2.1
                  have cH46 := hcc.2.2.2.2.2.2.1
                  have cH47 := hcc.2.2.2.2.2.2.2.1
                  have cH48 := hcc.2.2.2.2.2.2.2.2
                  clear hcc
                  refine step_of ⟨some 59, _, _, _, _, _⟩ rfl (fun K' hK => ?_)
                  go_simp
                  exact hK.out _ _ ⟨_, hF.pure hok hla hpre rfl (Below.refl _ _), rfl⟩
                · replace hge : 1 ≤ i := hgt
                  clear hgt
                  obtain rfl := eqi hi hge
                  have ro8 : A.tmps[8]? = some (.pointer (some ⟨b8, 0, none⟩)) := hR.out 1 _ rfl
                  have hcc := (nine_at (keep_block H8.out (below_none hF.low))).1
                  have cH80 := hcc.1
                  have cH81 := hcc.2.1
                  have cH82 := hcc.2.2.1
                  have cH83 := hcc.2.2.2.1
                  have cH84 := hcc.2.2.2.2.1
                  have cH85 := hcc.2.2.2.2.2.1
                  have cH86 := hcc.2.2.2.2.2.2.1
                  have cH87 := hcc.2.2.2.2.2.2.2.1
                  have cH88 := hcc.2.2.2.2.2.2.2.2
                  clear hcc
                  refine step_of ⟨some 60, _, _, _, _, _⟩ rfl (fun K' hK => ?_)
                  go_simp
                  exact hK.out _ _ ⟨_, hF.pure hok hla hpre rfl (Below.refl _ _), rfl⟩
              · replace hge : 2 ≤ i := hgt
                clear hgt
                rcases Nat.lt_or_ge i 3 with hlt | hgt
                · replace hi := hlt
                  clear hlt
                  obtain rfl := eqi hi hge
                  have p0 := hpre 0 (by kernel_rfl)
                  have e0 : s0 = .agg #[.int .i64 5, .string { data := #[] }, .string { data := #[] }, .string { data := #[] }, .bool false, .int .i64 0, .int .i64 (n : Int), .int .i64 (n : Int), .slice (some ⟨lg, 0, none⟩) NN lc] := hF.get 0 _ rfl (.inr p0)
                  subst e0
                  have r0 : A.tmps[59]? = some (.agg #[.int .i64 5, .string { data := #[] }, .string { data := #[] }, .string { data := #[] }, .bool false, .int .i64 0, .int .i64 (n : Int), .int .i64 (n : Int), .slice (some ⟨lg, 0, none⟩) NN lc]) := hR.own 0 _ _ rfl rfl
                  have p1 := hpre 1 (by kernel_rfl)
                  have e1 : s1 = .agg #[.int .i64 5, .string { data := #[] }, .string { data := #[] }, .string { data := #[] }, .bool false, .int .i64 0, .int .i64 (n : Int), .int .i64 (n : Int), .slice (some ⟨lg5, 0, none⟩) NN cap5] := hF.get 1 _ rfl (.inr p1)
                  subst e1
                  have r1 : A.tmps[60]? = some (.agg #[.int .i64 5, .string { data := #[] }, .string { data := #[] }, .string { data := #[] }, .bool false, .int .i64 0, .int .i64 (n : Int), .int .i64 (n : Int), .slice (some ⟨lg5, 0, none⟩) NN cap5]) := hR.own 1 _ _ rfl rfl
                  refine step_of ⟨some 61, _, _, _, _, _⟩ rfl (fun K' hK => ?_)
                  go_simp
                  exact hK.out _ _ ⟨_, hF.row hok hla hpre rfl, rfl⟩
                · replace hge : 3 ≤ i := hgt
                  clear hgt
                  rcases Nat.lt_or_ge i 4 with hlt | hgt
                  · replace hi := hlt
                    clear hlt
                    obtain rfl := eqi hi hge
                    have p2 := hpre 2 (by kernel_rfl)
                    obtain ⟨G2, eG2, _, hGB2⟩ : ∃ G, s2 = .slice (some ⟨G, 0, none⟩) 2 2 ∧ _ ≤ G ∧ Wr.heap[G]? = some (.cells #[.int .i64 5, .string { data := #[] }, .string { data := #[] }, .string { data := #[] }, .bool false, .int .i64 0, .int .i64 (n : Int), .int .i64 (n : Int), .slice (some ⟨lg, 0, none⟩) NN lc, .int .i64 5, .string { data := #[] }, .string { data := #[] }, .string { data := #[] }, .bool false, .int .i64 0, .int .i64 (n : Int), .int .i64 (n : Int), .slice (some ⟨lg5, 0, none⟩) NN cap5] 27 (0, 0)) := hF.get 2 _ rfl (.inr p2)
                    subst eG2
                    have r2 : A.tmps[61]? = some (.slice (some ⟨G2, 0, none⟩) 2 2) := hR.own 2 _ _ rfl rfl
                    refine step_of ⟨some 62, _, _, _, _, _⟩ rfl (fun K' hK => ?_)
                    go_simp
                    go_at_call 7
                    (with_reducible refine (QcMul.out _ lg lc lg5 cap5 G2 (HVA.out.below (below_none hF.low)) (HVI.out.below (below_none hF.low)) (row_two hGB2) (HE.out.below (below_none hF.low))).mono ?_)
                    rintro e Wq ⟨lq, cq, rfl, hvq, _, hq⟩
                    exact hK.out _ _ ⟨_, hF.any hok hla hpre rfl hq ⟨lq, cq, rfl, hvq⟩, rfl⟩
                  · replace hge : 4 ≤ i := hgt
                    clear hgt
                    obtain rfl := eqi hi hge
                    have ro3 : A.tmps[3]? = some (.int .i64 (n : Int)) := hR.out 2 _ rfl
                    refine step_of ⟨some 63, _, _, _, _, _⟩ rfl (fun K' hK => ?_)
                    go_simp
                    exact hK.out _ _ ⟨_, hF.pure hok hla hpre rfl (Below.refl _ _), rfl⟩
            · replace hge : 5 ≤ i := hgt
              clear hgt
              rcases Nat.lt_or_ge i 7 with hlt | hgt
              · replace hi := hlt
                clear hlt
                rcases Nat.lt_or_ge i 6 with hlt | hgt
                · replace hi := hlt
                  clear hlt
                  obtain rfl := eqi hi hge
                  have p4 := hpre 4 (by kernel_rfl)
                  have e4 : s4 = .int .i64 (n : Int) := hF.get 4 _ rfl (.inr p4)
                  subst e4
                  have r4 : A.tmps[63]? = some (.int .i64 (n : Int)) := hR.own 4 _ _ rfl rfl
                  refine step_of ⟨some 64, _, _, _, _, _⟩ rfl (fun K' hK => ?_)
                  go_simp
                  go_at_call 6
                  (with_reducible refine (TNN.out _ (HE.out.below (below_none hF.low))).mono ?_)
                  rintro e Wq ⟨rfl, hq⟩
                  exact hK.out _ _ ⟨_, hF.pure hok hla hpre rfl hq, rfl⟩
                · replace hge : 6 ≤ i := hgt
                  clear hgt
                  obtain rfl := eqi hi hge
                  have p5 := hpre 5 (by kernel_rfl)
                  have e5 : s5 = .agg #[.int .i64 1, .string (numS qn), .string (denS qn), .string { data := #[] }, .bool false, .int .i64 0, .int .i64 0, .int .i64 0, .slice none 0 0] := hF.get 5 _ rfl (.inr p5)
                  subst e5
                  have r5 : A.tmps[64]? = some (.agg #[.int .i64 1, .string (numS qn), .string (denS qn), .string { data := #[] }, .bool false, .int .i64 0, .int .i64 0, .int .i64 0, .slice none 0 0]) := hR.own 5 _ _ rfl rfl
                  refine step_of ⟨some 65, _, _, _, _, _⟩ rfl (fun K' hK => ?_)
                  go_simp
                  exact hK.out _ _ ⟨_, hF.row hok hla hpre rfl, rfl⟩
              · replace hge : 7 ≤ i := hgt
                clear hgt
                rcases Nat.lt_or_ge i 8 with hlt | hgt
                · replace hi := hlt
                  clear hlt
                  obtain rfl := eqi hi hge
                  have p6 := hpre 6 (by kernel_rfl)
                  obtain ⟨G6, eG6, _, hGB6⟩ : ∃ G, s6 = .slice (some ⟨G, 0, none⟩) 1 1 ∧ _ ≤ G ∧ Wr.heap[G]? = some (.cells #[.int .i64 1, .string (numS qn), .string (denS qn), .string { data := #[] }, .bool false, .int .i64 0, .int .i64 0, .int .i64 0, .slice none 0 0] 27 (0, 0)) := hF.get 6 _ rfl (.inr p6)
                  subst eG6
                  have r6 : A.tmps[65]? = some (.slice (some ⟨G6, 0, none⟩) 1 1) := hR.own 6 _ _ rfl rfl
                  refine step_of ⟨some 66, _, _, _, _, _⟩ rfl (fun K' hK => ?_)
                  go_simp
                  go_at_call 7
                  (with_reducible refine (QcUnit.out _ G6 (row_nums hGB6) (HE.out.below (below_none hF.low))).mono ?_)
                  rintro e Wq ⟨lq, cq, rfl, hvq, _, hq⟩
                  exact hK.out _ _ ⟨_, hF.any hok hla hpre rfl hq ⟨lq, cq, rfl, hvq⟩, rfl⟩
                · replace hge : 8 ≤ i := hgt
                  clear hgt
                  rcases Nat.lt_or_ge i 9 with hlt | hgt
                  · replace hi := hlt
                    clear hlt
                    obtain rfl := eqi hi hge
                    have p3 := hpre 3 (by kernel_rfl)
                    obtain ⟨lg3, cap3, e3, hv3⟩ := hF.get 3 _ rfl (.inr p3)
                    replace e3 : s3 = .agg #[.int .i64 5, .string { data := #[] }, .string { data := #[] }, .string { data := #[] }, .bool false, .int .i64 0, .int .i64 (n : Int), .int .i64 (n : Int), .slice (some ⟨lg3, 0, none⟩) NN cap3] := e3
                    subst e3
                    have r3 : A.tmps[62]? = some (.agg #[.int .i64 5, .string { data := #[] }, .string { data := #[] }, .string { data := #[] }, .bool false, .int .i64 0, .int .i64 (n : Int), .int .i64 (n : Int), .slice (some ⟨lg3, 0, none⟩) NN cap3]) := hR.own 3 _ _ rfl rfl
                    have p7 := hpre 7 (by kernel_rfl)
                    obtain ⟨lg7, cap7, e7, hv7⟩ := hF.get 7 _ rfl (.inr p7)
                    replace e7 : s7 = .agg #[.int .i64 5, .string { data := #[] }, .string { data := #[] }, .string { data := #[] }, .bool false, .int .i64 0, .int .i64 (n : Int), .int .i64 (n : Int), .slice (some ⟨lg7, 0, none⟩) NN cap7] := e7
                    subst e7
                    have r7 : A.tmps[66]? = some (.agg #[.int .i64 5, .string { data := #[] }, .string { data := #[] }, .string { data := #[] }, .bool false, .int .i64 0, .int .i64 (n : Int), .int .i64 (n : Int), .slice (some ⟨lg7, 0, none⟩) NN cap7]) := hR.own 7 _ _ rfl rfl
                    refine step_of ⟨some 67, _, _, _, _, _⟩ rfl (fun K' hK => ?_)
                    go_simp
                    go_at_call 8
                    (with_reducible refine (same_arr us n NN lg3 lg7 cap3 cap7 _ hul (by omega) hv3 hv7).mono ?_)
                    rintro e Wq ⟨rfl, hq⟩
                    exact hK.out _ _ ⟨_, hF.pure hok hla hpre rfl hq, rfl⟩
                  · replace hge : 9 ≤ i := hgt
                    clear hgt
                    obtain rfl := eqi hi hge
                    have p8 := hpre 8 (by kernel_rfl)
                    have e8 : s8 = .bool true := hF.get 8 _ rfl (.inr p8)
                    subst e8
                    have r8 : A.tmps[67]? = some (.bool true) := hR.own 8 _ _ rfl rfl
                    refine step_of ⟨some 68, _, _, _, _, _⟩ rfl (fun K' hK => ?_)
                    go_simp
                    exact hK.out _ _ ⟨_, hF.pure hok hla hpre rfl (Below.refl _ _), rfl⟩
          · replace hge : 10 ≤ i := hgt
            clear hgt
            rcases Nat.lt_or_ge i 15 with hlt | hgt
            · replace hi := hlt
              clear hlt
              rcases Nat.lt_or_ge i 12 with hlt | hgt
              · replace hi := hlt
                clear hlt
                rcases Nat.lt_or_ge i 11 with hlt | hgt
                · replace hi := hlt
                  clear hlt
                  obtain rfl := eqi hi hge
                  have p9 := hpre 9 (by kernel_rfl)
                  have e9 : s9 = .bool true := hF.get 9 _ rfl (.inr p9)
                  subst e9
                  have r9 : A.tmps[68]? = some (.bool true) := hR.own 9 _ _ rfl rfl
                  have ro7 : A.tmps[7]? = some (.pointer (some ⟨b7, 0, none⟩)) := hR.out 3 _ rfl
                  have hcc := (nine_at (keep_block H7.out (below_none hF.low))).1
                  have cH70 := hcc.1
                  have cH71 := hcc.2.1
                  have cH72 := hcc.2.2.1
                  have cH73 := hcc.2.2.2.1
                  have cH74 := hcc.2.2.2.2.1
                  have cH75 := hcc.2.2.2.2.2.1
                  have cH76 := hcc.2.2.2.2.2.2.1
                  have cH77 := hcc.2.2.2.2.2.2.2.1
                  have cH78 := hcc.2.2.2.2.2.2.2.2
                  clear hcc
                  refine step_of ⟨some 69, _, _, _, _, _⟩ rfl (fun K' hK => ?_)
                  rw [if_pos (by simp [Region.wanted, yielded, r9])]
                  go_simp
                  exact hK.out _ _ ⟨_, hF.pure hok hla hpre rfl (Below.refl _ _), rfl⟩
                · replace hge : 11 ≤ i := hgt
                  clear hgt
                  obtain rfl := eqi hi hge
                  have p9 := hpre 9 (by kernel_rfl)
                  have e9 : s9 = .bool true := hF.get 9 _ rfl (.inr p9)
                  subst e9
                  have r9 : A.tmps[68]? = some (.bool true) := hR.own 9 _ _ rfl rfl
                  have ro8 : A.tmps[8]? = some (.pointer (some ⟨b8, 0, none⟩)) := hR.out 1 _ rfl
                  have hcc := (nine_at (keep_block H8.out (below_none hF.low))).1
                  have cH80 := hcc.1
                  have cH81 := hcc.2.1
                  have cH82 := hcc.2.2.1
                  have cH83 := hcc.2.2.2.1
                  have cH84 := hcc.2.2.2.2.1
                  have cH85 := hcc.2.2.2.2.2.1
                  have cH86 := hcc.2.2.2.2.2.2.1
                  have cH87 := hcc.2.2.2.2.2.2.2.1
                  have cH88 := hcc.2.2.2.2.2.2.2.2
                  clear hcc
                  refine step_of ⟨some 70, _, _, _, _, _⟩ rfl (fun K' hK => ?_)
                  rw [if_pos (by simp [Region.wanted, yielded, r9])]
                  go_simp
                  exact hK.out _ _ ⟨_, hF.pure hok hla hpre rfl (Below.refl _ _), rfl⟩
              · replace hge : 12 ≤ i := hgt
                clear hgt
                rcases Nat.lt_or_ge i 13 with hlt | hgt
                · replace hi := hlt
                  clear hlt
                  obtain rfl := eqi hi hge
                  have p11 := hpre 11 (by kernel_rfl)
                  have e11 : s11 = .agg #[.int .i64 5, .string { data := #[] }, .string { data := #[] }, .string { data := #[] }, .bool false, .int .i64 0, .int .i64 (n : Int), .int .i64 (n : Int), .slice (some ⟨lg5, 0, none⟩) NN cap5] := hF.get 11 _ rfl (.inr p11)
                  subst e11
                  have r11 : A.tmps[70]? = some (.agg #[.int .i64 5, .string { data := #[] }, .string { data := #[] }, .string { data := #[] }, .bool false, .int .i64 0, .int .i64 (n : Int), .int .i64 (n : Int), .slice (some ⟨lg5, 0, none⟩) NN cap5]) := hR.own 11 _ _ rfl rfl
                  have p9 := hpre 9 (by kernel_rfl)
                  have e9 : s9 = .bool true := hF.get 9 _ rfl (.inr p9)
                  subst e9
                  have r9 : A.tmps[68]? = some (.bool true) := hR.own 9 _ _ rfl rfl
                  refine step_of ⟨some 71, _, _, _, _, _⟩ rfl (fun K' hK => ?_)
                  rw [if_pos (by simp [Region.wanted, yielded, r9])]
                  go_simp
                  exact hK.out _ _ ⟨_, hF.row hok hla hpre rfl, rfl⟩
                · replace hge : 13 ≤ i := hgt
                  clear hgt
                  rcases Nat.lt_or_ge i 14 with hlt | hgt
                  · replace hi := hlt
                    clear hlt
                    obtain rfl := eqi hi hge
                    have p12 := hpre 12 (by kernel_rfl)
                    obtain ⟨G12, eG12, _, hGB12⟩ : ∃ G, s12 = .slice (some ⟨G, 0, none⟩) 1 1 ∧ _ ≤ G ∧ Wr.heap[G]? = some (.cells #[.int .i64 5, .string { data := #[] }, .string { data := #[] }, .string { data := #[] }, .bool false, .int .i64 0, .int .i64 (n : Int), .int .i64 (n : Int), .slice (some ⟨lg5, 0, none⟩) NN cap5] 27 (0, 0)) := hF.get 12 _ rfl (.inr p12)
                    subst eG12
                    have r12 : A.tmps[71]? = some (.slice (some ⟨G12, 0, none⟩) 1 1) := hR.own 12 _ _ rfl rfl
                    have p9 := hpre 9 (by kernel_rfl)
                    have e9 : s9 = .bool true := hF.get 9 _ rfl (.inr p9)
                    subst e9
                    have r9 : A.tmps[68]? = some (.bool true) := hR.own 9 _ _ rfl rfl
                    refine step_of ⟨some 72, _, _, _, _, _⟩ rfl (fun K' hK => ?_)
                    rw [if_pos (by simp [Region.wanted, yielded, r9])]
                    go_simp
                    go_at_call 7
                    (with_reducible refine (QcDet2.out _ lg5 cap5 G12 (HVI.out.below (below_none hF.low)) (row_one hGB12) (HE.out.below (below_none hF.low))).mono ?_)
                    rintro e Wq ⟨rfl, hq⟩
                    exact hK.out _ _ ⟨_, hF.pure hok hla hpre rfl hq, rfl⟩
                  · replace hge : 14 ≤ i := hgt
                    clear hgt
                    obtain rfl := eqi hi hge
                    have p10 := hpre 10 (by kernel_rfl)
                    have e10 : s10 = .agg #[.int .i64 1, .string (numS d), .string (denS d), .string { data := #[] }, .bool false, .int .i64 0, .int .i64 0, .int .i64 0, .slice none 0 0] := hF.get 10 _ rfl (.inr p10)
                    subst e10
                    have r10 : A.tmps[69]? = some (.agg #[.int .i64 1, .string (numS d), .string (denS d), .string { data := #[] }, .bool false, .int .i64 0, .int .i64 0, .int .i64 0, .slice none 0 0]) := hR.own 10 _ _ rfl rfl
                    have p13 := hpre 13 (by kernel_rfl)
                    have e13 : s13 = .agg #[.int .i64 1, .string (numS d2), .string (denS d2), .string { data := #[] }, .bool false, .int .i64 0, .int .i64 0, .int .i64 0, .slice none 0 0] := hF.get 13 _ rfl (.inr p13)
                    subst e13
                    have r13 : A.tmps[72]? = some (.agg #[.int .i64 1, .string (numS d2), .string (denS d2), .string { data := #[] }, .bool false, .int .i64 0, .int .i64 0, .int .i64 0, .slice none 0 0]) := hR.own 13 _ _ rfl rfl
                    have p9 := hpre 9 (by kernel_rfl)
                    have e9 : s9 = .bool true := hF.get 9 _ rfl (.inr p9)
                    subst e9
                    have r9 : A.tmps[68]? = some (.bool true) := hR.own 9 _ _ rfl rfl
                    refine step_of ⟨some 73, _, _, _, _, _⟩ rfl (fun K' hK => ?_)
                    rw [if_pos (by simp [Region.wanted, yielded, r9])]
                    go_simp
                    exact hK.out _ _ ⟨_, hF.row hok hla hpre rfl, rfl⟩
            · replace hge : 15 ≤ i := hgt
              clear hgt
              rcases Nat.lt_or_ge i 17 with hlt | hgt
              · replace hi := hlt
                clear hlt
                rcases Nat.lt_or_ge i 16 with hlt | hgt
                · replace hi := hlt
                  clear hlt
                  obtain rfl := eqi hi hge
                  have p14 := hpre 14 (by kernel_rfl)
                  obtain ⟨G14, eG14, _, hGB14⟩ : ∃ G, s14 = .slice (some ⟨G, 0, none⟩) 2 2 ∧ _ ≤ G ∧ Wr.heap[G]? = some (.cells #[.int .i64 1, .string (numS d), .string (denS d), .string { data := #[] }, .bool false, .int .i64 0, .int .i64 0, .int .i64 0, .slice none 0 0, .int .i64 1, .string (numS d2), .string (denS d2), .string { data := #[] }, .bool false, .int .i64 0, .int .i64 0, .int .i64 0, .slice none 0 0] 27 (0, 0)) := hF.get 14 _ rfl (.inr p14)
                  subst eG14
                  have r14 : A.tmps[73]? = some (.slice (some ⟨G14, 0, none⟩) 2 2) := hR.own 14 _ _ rfl rfl
                  have p9 := hpre 9 (by kernel_rfl)
                  have e9 : s9 = .bool true := hF.get 9 _ rfl (.inr p9)
                  subst e9
                  have r9 : A.tmps[68]? = some (.bool true) := hR.own 9 _ _ rfl rfl
                  refine step_of ⟨some 74, _, _, _, _, _⟩ rfl (fun K' hK => ?_)
                  rw [if_pos (by simp [Region.wanted, yielded, r9])]
                  go_simp
                  go_at_call 7
                  (with_reducible refine (QcPro.out _ G14 (row_nums2 hGB14) (HE.out.below (below_none hF.low))).mono ?_)
                  rintro e Wq ⟨rfl, hq⟩
                  exact hK.out _ _ ⟨_, hF.pure hok hla hpre rfl hq, rfl⟩
                · replace hge : 16 ≤ i := hgt
                  clear hgt
                  obtain rfl := eqi hi hge
                  have p9 := hpre 9 (by kernel_rfl)
                  have e9 : s9 = .bool true := hF.get 9 _ rfl (.inr p9)
                  subst e9
                  have r9 : A.tmps[68]? = some (.bool true) := hR.own 9 _ _ rfl rfl
                  refine step_of ⟨some 75, _, _, _, _, _⟩ rfl (fun K' hK => ?_)
                  rw [if_pos (by simp [Region.wanted, yielded, r9])]
                  go_simp
                  go_at_call 6
                  (with_reducible refine (TN1.out _ (HE.out.below (below_none hF.low))).mono ?_)
                  rintro e Wq ⟨rfl, hq⟩
                  exact hK.out _ _ ⟨_, hF.pure hok hla hpre rfl hq, rfl⟩
              · replace hge : 17 ≤ i := hgt
                clear hgt
                rcases Nat.lt_or_ge i 18 with hlt | hgt
                · replace hi := hlt
                  clear hlt
                  obtain rfl := eqi hi hge
                  have p15 := hpre 15 (by kernel_rfl)
                  have e15 : s15 = .agg #[.int .i64 1, .string (numS q1), .string (denS q1), .string { data := #[] }, .bool false, .int .i64 0, .int .i64 0, .int .i64 0, .slice none 0 0] := hF.get 15 _ rfl (.inr p15)
                  subst e15
                  have r15 : A.tmps[74]? = some (.agg #[.int .i64 1, .string (numS q1), .string (denS q1), .string { data := #[] }, .bool false, .int .i64 0, .int .i64 0, .int .i64 0, .slice none 0 0]) := hR.own 15 _ _ rfl rfl
                  have p16 := hpre 16 (by kernel_rfl)
                  have e16 : s16 = .agg #[.int .i64 1, .string (numS q1), .string (denS q1), .string { data := #[] }, .bool false, .int .i64 0, .int .i64 0, .int .i64 0, .slice none 0 0] := hF.get 16 _ rfl (.inr p16)
                  subst e16
                  have r16 : A.tmps[75]? = some (.agg #[.int .i64 1, .string (numS q1), .string (denS q1), .string { data := #[] }, .bool false, .int .i64 0, .int .i64 0, .int .i64 0, .slice none 0 0]) := hR.own 16 _ _ rfl rfl
                  have p9 := hpre 9 (by kernel_rfl)
                  have e9 : s9 = .bool true := hF.get 9 _ rfl (.inr p9)
                  subst e9
                  have r9 : A.tmps[68]? = some (.bool true) := hR.own 9 _ _ rfl rfl
                  refine step_of ⟨some 76, _, _, _, _, _⟩ rfl (fun K' hK => ?_)
                  rw [if_pos (by simp [Region.wanted, yielded, r9])]
                  go_simp
                  go_at_call 8
                  (with_reducible refine (TSM.out _).mono ?_)
                  rintro e Wq ⟨rfl, hq⟩
                  exact hK.out _ _ ⟨_, hF.pure hok hla hpre rfl hq, rfl⟩
                · replace hge : 18 ≤ i := hgt
                  clear hgt
                  rcases Nat.lt_or_ge i 19 with hlt | hgt
                  · replace hi := hlt
                    clear hlt
                    obtain rfl := eqi hi hge
                    have p9 := hpre 9 (by kernel_rfl)
                    have e9 : s9 = .bool true := hF.get 9 _ rfl (.inr p9)
                    subst e9
                    have r9 : A.tmps[68]? = some (.bool true) := hR.own 9 _ _ rfl rfl
                    have p17 := hpre 17 (by kernel_rfl)
                    have e17 : s17 = .bool true := hF.get 17 _ rfl (.inr p17)
                    subst e17
                    have r17 : A.tmps[76]? = some (.bool true) := hR.own 17 _ _ rfl rfl
                    refine step_of ⟨some 77, _, _, _, _, _⟩ rfl (fun K' hK => ?_)
                    go_simp
                    exact hK.out _ _ ⟨_, hF.pure hok hla hpre rfl (Below.refl _ _), rfl⟩
                  · replace hge : 19 ≤ i := hgt
                    clear hgt
                    obtain rfl := eqi hi hge
                    have p18 := hpre 18 (by kernel_rfl)
                    have e18 : s18 = .bool true := hF.get 18 _ rfl (.inr p18)
                    subst e18
                    have r18 : A.tmps[77]? = some (.bool true) := hR.own 18 _ _ rfl rfl
                    refine step_of ⟨some 2, _, _, _, _, _⟩ rfl (fun K' hK => ?_)
                    go_simp
                    exact hK.out _ _ ⟨_, hF.pure hok hla hpre rfl (Below.refl _ _), rfl⟩
        case hd =>
          rintro listed vs WD hF hall
          obtain ⟨s0, s1, s2, s3, s4, s5, s6, s7, s8, s9, s10, s11, s12, s13, s14, s15, s16, s17, s18, s19, hvs⟩ := exl_of 20 vs (fun l => vs = l) hF.len rfl
          subst hvs
          have e18 : s18 = .bool true := hF.get 18 _ rfl (.inr (hall 18 (by decide)))
          subst e18
          have e19 : s19 = .bool true := hF.get 19 _ rfl (.inr (hall 19 (by decide)))
          subst e19
          have hq := below_none hF.low
          replace H4 := Lib.hid (keep_block H4.out hq)
          replace H7 := Lib.hid (keep_block H7.out hq)
          replace H8 := Lib.hid (keep_block H8.out hq)
          replace HVA := Lib.hid (HVA.out.below hq)
          replace HE := Lib.hid (HE.out.below hq)
          replace HG := Lib.hid (HG.out.trans (hq.mono HG.out.size))
          replace HVI := Lib.hid (HVI.out.below hq)
          clear hq
          clear hF hall hok hla
          refine rest_end ?_
          simp only [putO, layL]
          go_wp2
          refine bodyPost_ret (v := .bool true) (by simp [results, Tryz.results3, go_sem]) rfl ⟨rfl, HG.out⟩
end Go.Proofs.YtgponoogifeopaaGreatDoor.Num.Mt
