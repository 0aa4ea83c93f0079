/- Numbers as texts of digits, fractions, values and the functions of fmath: contracts of the program's functions, joined from smaller texts. Conditions stand at each theorem. -/
import Derived.Test.YtgponoogifeopaaGreatDoorFtcA
import Derived.Test.YtgponoogifeopaaGreatDoorNumH
import Derived.Test.YtgponoogifeopaaGreatDoorLayA
import Derived.ProofKit
import Derived.OpenShut
import Derived.Test.YtgponoogifeopaaGreatDoorFtrA
import Derived.Test.YtgponoogifeopaaGreatDoorFtqB
import Derived.Test.YtgponoogifeopaaGreatDoorFtqA
import Derived.Below
import Derived.OneCell
import Derived.Lib.MinMax
import Derived.Deep.RegionLaw
import Derived.Test.YtgponoogifeopaaGreatDoorFtbA

/- the laws' own table of one column: at most 30 numbers from 0 to 6. Conditions: the tables lie as they are laid. -/
namespace Go.Proofs.YtgponoogifeopaaGreatDoor.Num
open Go.RowKit Go.Lib

theorem over_one (xs : List Int) : over 1 xs = xs.map fun (x : Int) => (x : Rat) := by
  unfold over
  apply List.map_congr_left
  intro x _
  show (x : Rat) / 1 = x
  grind
/-- what stays while the values are collected: the result's block, the value's block, the row -/
structure TabI (w : World) (c : Nat) (bv v : Value) (done : List Rat) (W : World) : Prop where
  res : W.heap[w.heap.size]? = some (.cells #[.int .i64 0, .string { data := #[] }, .string { data := #[] }, .string { data := #[] }, .bool false, .int .i64 0, .int .i64 0, .int .i64 0, .slice none 0 0] 27 (0, 0))
  box : W.heap[w.heap.size + 1]? = some (.cells #[.int .i64 5, .string { data := #[] }, .string { data := #[] }, .string { data := #[] }, .bool false, .int .i64 0, .int .i64 (c : Int), .int .i64 1, bv] 27 (0, 0))
  low : Below w.heap.size w W
  own : W.ownsRow (w.heap.size + 2) 27 9 v done.length (flat (numVals done))
theorem TabI.step {w W W' : World} {c : Nat} {bv v : Value} {done : List Rat} (h : TabI w c bv v done W) (hb : Below W.heap.size W W') : TabI w c bv v done W' :=
  ⟨keep_block h.res hb, keep_block h.box hb, h.low.trans (hb.mono h.low.size), h.own.kept (only_of_below hb none) (by cases v.ownBlock <;> simp)⟩
theorem TabI.size {w W : World} {c : Nat} {bv v : Value} {done : List Rat} (h : TabI w c bv v done W) : w.heap.size + 2 ≤ W.heap.size := heap_lt h.box
theorem TabI.push {w W W' : World} {c : Nat} {bv v v' : Value} {done : List Rat} {q : Rat} (h : TabI w c bv v done W) (ho : W'.ownsRow (w.heap.size + 2) 27 9 v' (done.length + 1) (flat (numVals done) ++ (numVal' q).cells)) (hg : W.grownBy W' v.ownBlock) : TabI w c bv v' (done ++ [q]) W' := by
  have hge : ∀ r, v.ownBlock = some r → w.heap.size + 2 ≤ r := owned_lt h.own
  have hother : ∀ k, k < w.heap.size + 2 → W'.heap[k]? = W.heap[k]? := fun k hk => hg.block k (Nat.lt_of_lt_of_le hk h.size) (fun e => by have := hge k e.symm; omega)
  exact ⟨(hother _ (by omega)).trans h.res, (hother _ (by omega)).trans h.box, h.low.grown hg h.low.size (fun r hr => by have := hge r hr; omega), by rw [numVals_snoc, List.length_append]; exact ho⟩
theorem TabI.store {w W : World} {c : Nat} {bv v : Value} {done : List Rat} (h : TabI w c bv v done W) : TabI w c v v done (W.setCell ⟨w.heap.size + 1, 8, none⟩ v) := by
  refine ⟨(Below.heap_setCell _ ⟨w.heap.size + 1, 8, none⟩ v w.heap.size (by simp only []; omega)).trans h.res, ?_, h.low.setCell (p := ⟨w.heap.size + 1, 8, none⟩) (by simp only []; omega) _, ownsRow_setCell_below h.own (a := ⟨w.heap.size + 1, 8, none⟩) (by simp only []; omega) v⟩
  have := heap_setCell_at h.box 8 v
  rw [this]; rfl

end Go.Proofs.YtgponoogifeopaaGreatDoor.Num

/- A slice of whole numbers that came in. No conditions. -/
namespace Go.Proofs.YtgponoogifeopaaGreatDoor.Num
open Go.ChangeShapes Go.WideShapes Go.ChangeAt Go.RowKit Go.Lib

/-- whole numbers that came in -/
def CameI (W : World) (A : Addr) (ns : List Int) : Prop := ∀ i (h : i < ns.length), W.cell? (A.add i) = some (.int .i64 ns[i])
theorem CameI.below {W W' : World} {A : Addr} {ns : List Int} (h : CameI W A ns) (hb : Below W.heap.size W W') : CameI W' A ns := fun i hi => cell_below (h i hi) hb
/-- a slice of ints as it came in: where it lies, and its numbers -/
structure IntsIn (W : World) (A : Option Addr) (L C : Nat) (zs : List Int) : Prop where
  len : zs.length = L
  max : L ≤ 9223372036854775807
  cap : L ≤ C
  src : 0 < L → ∃ A', A = some A' ∧ CameI W A' zs
  rng : ∀ z ∈ zs, -9223372036854775808 ≤ z ∧ z ≤ 9223372036854775807
theorem IntsIn.below {W W' : World} {A : Option Addr} {L C : Nat} {zs : List Int} (h : IntsIn W A L C zs) (hb : Below W.heap.size W W') : IntsIn W' A L C zs :=
  ⟨h.len, h.max, h.cap, fun h0 => by obtain ⟨A', e, c⟩ := h.src h0; exact ⟨A', e, c.below hb⟩, h.rng⟩

set_option maxRecDepth 100000 in
theorem ints_in {H : Type} {enc : TypeId × Value → H} {W : World} {base base2 : Nat} {held : Bool} {v : Value} {d : DataW H} {p : List MemPlace} (hok : Value.okWide Tryz.prog W .any base2 22 v) (h : DataW.Trod enc Tryz.prog W base (fun _ => true) held 22 v d p) :
    ∃ A L C zs, v = .slice A L C ∧ IntsIn W A L C zs ∧ ∀ W', Below W.heap.size W W' → DataW.Trod enc Tryz.prog W' base (fun b => decide (b < W.heap.size)) held 22 v d p := by
  obtain ⟨a, len, cap, rfl⟩ := okWide_slice Tryz.underlying22 hok
  obtain ⟨fuel, hf⟩ := h
  rcases open_ints Tryz.underlying22 Tryz.underlying3 (by kernel_rfl) hf with ⟨hcs, hx⟩ | ⟨a', len', cap', zs, hcs, hb, hl, hm, hz, hx, hcell, hwz⟩
  · have hcs' : (Value.slice a len cap) = .slice none 0 0 := by simpa [Value.cells] using hcs
    injection hcs' with h1 h2 h3
    subst h1; subst h2; subst h3
    injection hx with h1 h2
    subst h1; subst h2
    exact ⟨none, 0, 0, [], rfl, ⟨rfl, by decide, Nat.le_refl _, fun h => absurd h (by decide), fun z h => (by cases h)⟩, fun W' _ => shut_slice_nil Tryz.underlying22⟩
  · have hcs' : (Value.slice a len cap) = .slice (some a') len' cap' := by simpa [Value.cells] using hcs
    injection hcs' with h1 h2 h3
    subst h1; subst h2; subst h3
    injection hx with h1 h2
    subst h1; subst h2
    have hz0 : zs.length = cap := by simpa using hz
    have hzl : len ≤ zs.length := by omega
    have hz2 : zs.length = (if decide (a'.block < W.heap.size) then cap else len) := by
      by_cases hc : 0 < cap
      · have h1 : (a'.add 0).block < W.heap.size := cell_lt (hcell 0 (by omega))
        rw [block_add] at h1
        rw [if_pos (decide_eq_true h1)]; exact hz0
      · split <;> omega
    refine ⟨some a', len, cap, zs.take len, rfl, ⟨by rw [List.length_take]; omega, by unfold maxLen at hm; omega, hl, fun _ => ⟨a', rfl, ?_⟩, fun n hn => i64_range (hwz n (List.mem_of_mem_take hn))⟩, fun W' hb' => ⟨2, shut_ints 0 Tryz.underlying22 Tryz.underlying3 (by kernel_rfl) hb hl hm hz2 (fun i hi => cell_below (hcell i hi) hb') hwz⟩⟩
    intro i hi
    have hi' : i < zs.length := by rw [List.length_take] at hi; omega
    have := hcell i hi'
    rw [List.getD_eq_getElem?_getD, List.getElem?_eq_getElem hi', Option.getD_some] at this
    rw [this, List.getElem_take]
end Go.Proofs.YtgponoogifeopaaGreatDoor.Num

/- the laws' own table of some columns: at most 30 numbers. Conditions: the tables lie as they are laid. -/
namespace Go.Proofs.YtgponoogifeopaaGreatDoor.Num
open Go.RowKit Go.Lib

/-- the number at place i -/
def cellN (ns : List Int) (i : Nat) : Int := if h : i < ns.length then ns[i] % 7 else (i : Int)
/-- how many rows -/
def rowsN (L s : Nat) : Nat := max 1 (min L 30 / s)
/-- the table's numbers -/
def tabN (ns : List Int) (s : Nat) : List Int := (List.range (rowsN ns.length s * s)).map (cellN ns)
theorem tabN_len (ns : List Int) (s : Nat) : (tabN ns s).length = rowsN ns.length s * s := by simp [tabN]
theorem rows_bounds (L s : Nat) (hs : 1 ≤ s) (hs9 : s ≤ 30) : 1 ≤ rowsN L s ∧ rowsN L s ≤ 30 ∧ rowsN L s * s ≤ 30 ∧ (L < rowsN L s * s → rowsN L s = 1) := by
  have h1 : min L 30 / s ≤ min L 30 := Nat.div_le_self _ _
  have h2 : min L 30 / s * s ≤ min L 30 := Nat.div_mul_le_self _ _
  unfold rowsN
  rcases Nat.le_total (min L 30 / s) 1 with h | h
  · rw [Nat.max_eq_left h]
    refine ⟨by omega, by omega, by omega, fun _ => rfl⟩
  · rw [Nat.max_eq_right h]
    refine ⟨by omega, by omega, by omega, fun h => by omega⟩
theorem tabN_range (ns : List Int) (s : Nat) (hs : 1 ≤ s) (hs9 : s ≤ 7) : ∀ x ∈ tabN ns s, 0 ≤ x ∧ x ≤ 6 := by
  intro x hx
  obtain ⟨i, hi, rfl⟩ := List.mem_map.1 hx
  rw [List.mem_range] at hi
  obtain ⟨h1, h2, h3, h4⟩ := rows_bounds ns.length s hs (by omega)
  unfold cellN
  split
  · omega
  · rename_i h
    have : rowsN ns.length s = 1 := h4 (by omega)
    rw [this] at hi
    omega
/-- what stays while the values are collected: the result's block, the value's block, the row -/
structure TabJ (w : World) (c s : Nat) (bv v : Value) (done : List Rat) (W : World) : Prop where
  res : W.heap[w.heap.size]? = some (.cells #[.int .i64 0, .string { data := #[] }, .string { data := #[] }, .string { data := #[] }, .bool false, .int .i64 0, .int .i64 0, .int .i64 0, .slice none 0 0] 27 (0, 0))
  box : W.heap[w.heap.size + 1]? = some (.cells #[.int .i64 5, .string { data := #[] }, .string { data := #[] }, .string { data := #[] }, .bool false, .int .i64 0, .int .i64 (c : Int), .int .i64 (s : Int), bv] 27 (0, 0))
  low : Below w.heap.size w W
  own : W.ownsRow (w.heap.size + 2) 27 9 v done.length (flat (numVals done))
theorem TabJ.step {w W W' : World} {c s : Nat} {bv v : Value} {done : List Rat} (h : TabJ w c s bv v done W) (hb : Below W.heap.size W W') : TabJ w c s bv v done W' :=
  ⟨keep_block h.res hb, keep_block h.box hb, h.low.trans (hb.mono h.low.size), h.own.kept (only_of_below hb none) (by cases v.ownBlock <;> simp)⟩
theorem TabJ.size {w W : World} {c s : Nat} {bv v : Value} {done : List Rat} (h : TabJ w c s bv v done W) : w.heap.size + 2 ≤ W.heap.size := heap_lt h.box
theorem TabJ.push {w W W' : World} {c s : Nat} {bv v v' : Value} {done : List Rat} {q : Rat} (h : TabJ w c s bv v done W) (ho : W'.ownsRow (w.heap.size + 2) 27 9 v' (done.length + 1) (flat (numVals done) ++ (numVal' q).cells)) (hg : W.grownBy W' v.ownBlock) : TabJ w c s bv v' (done ++ [q]) W' := by
  have hge : ∀ r, v.ownBlock = some r → w.heap.size + 2 ≤ r := owned_lt h.own
  have hother : ∀ k, k < w.heap.size + 2 → W'.heap[k]? = W.heap[k]? := fun k hk => hg.block k (Nat.lt_of_lt_of_le hk h.size) (fun e => by have := hge k e.symm; omega)
  exact ⟨(hother _ (by omega)).trans h.res, (hother _ (by omega)).trans h.box, h.low.grown hg h.low.size (fun r hr => by have := hge r hr; omega), by rw [numVals_snoc, List.length_append]; exact ho⟩
theorem TabJ.store {w W : World} {c s : Nat} {bv v : Value} {done : List Rat} (h : TabJ w c s bv v done W) : TabJ w c s v v done (W.setCell ⟨w.heap.size + 1, 8, none⟩ v) := by
  refine ⟨(Below.heap_setCell _ ⟨w.heap.size + 1, 8, none⟩ v w.heap.size (by simp only []; omega)).trans h.res, ?_, h.low.setCell (p := ⟨w.heap.size + 1, 8, none⟩) (by simp only []; omega) _, ownsRow_setCell_below h.own (a := ⟨w.heap.size + 1, 8, none⟩) (by simp only []; omega) v⟩
  have := heap_setCell_at h.box 8 v
  rw [this]; rfl


set_option linter.unusedSimpArgs false in
set_option linter.unusedVariables false in
set_option maxHeartbeats 8000000 in
set_option maxRecDepth 100000 in
theorem ktable_any (A : Option Addr) (ns : List Int) (L C s : Nat) (w : World) (hs : 1 ≤ s) (hs9 : s ≤ 30) (hi : IntsIn w A L C ns) (hE : Env w) :
    Calls Tryz.prog 9 #[.slice A L C, .int .i64 (s : Int)] w fun e w' => ∃ g cap, e = .returned (.agg #[.int .i64 5, .string { data := #[] }, .string { data := #[] }, .string { data := #[] }, .bool false, .int .i64 0, .int .i64 (rowsN L s : Int), .int .i64 (s : Int), .slice (some ⟨g, 0, none⟩) (rowsN L s * s) cap]) ∧ ValsAt w' g 0 (numVals (over 1 (tabN ns s))) ∧ w.heap.size ≤ g ∧ Below w.heap.size w w' := by
  have hm := hi.max
  obtain ⟨hr1, hr9, hn9, _⟩ := rows_bounds L s hs hs9
  obtain ⟨r, hr⟩ : ∃ r, rowsN L s = r := ⟨_, rfl⟩
  obtain ⟨n, hn⟩ : ∃ n, r * s = n := ⟨_, rfl⟩
  obtain ⟨m, hmm⟩ : ∃ m, min L 30 = m := ⟨_, rfl⟩
  obtain ⟨d, hd⟩ : ∃ d, m / s = d := ⟨_, rfl⟩
  have hrd : max 1 d = r := by rw [← hr, ← hd, ← hmm]; rfl
  have hm30 : m ≤ 30 := by omega
  have hdm : d ≤ m := by rw [← hd]; exact Nat.div_le_self _ _
  have hmin : min (L : Int) 30 = (m : Int) := by omega
  have hdiv : (m : Int) / (s : Int) = (d : Int) := by rw [← hd]; exact (Int.natCast_ediv m s).symm
  have hdiv2 : (m : Int).tdiv (s : Int) = (d : Int) := by rw [Int.tdiv_eq_ediv_of_nonneg (by omega), hdiv]
  have hdw : IntKind.i64.wrap (d : Int) = (d : Int) := IntWalk.i64_in _ (by omega)
  have hs0 : ((s : Int) = 0) = False := eq_false (by omega)
  have hs1 : (s = 0) = False := eq_false (by omega)
  have hs2 : decide (s = 0) = false := decide_eq_false (by omega)
  have hmax : max (1 : Int) (d : Int) = (r : Int) := by omega
  have hprod : (r : Int) * (s : Int) = (n : Int) := by rw [← hn, Int.natCast_mul]
  have hpw : IntKind.i64.wrap (n : Int) = (n : Int) := IntWalk.i64_in _ (by rw [hr, hn] at hn9; omega)
  rw [hr, hn] at hn9
  rw [hr] at hr1 hr9
  have hn0 : 0 < n := by rw [← hn]; exact Nat.mul_pos hr1 hs
  have htl : (tabN ns s).length = n := by rw [tabN_len, hi.len, hr, hn]
  have HQ := Lib.hid (show ∀ (k : Nat) (hk : k < n), ((over 1 (tabN ns s)).take (k + 1) = (over 1 (tabN ns s)).take k ++ [((cellN ns k : Int) : Rat)]) ∧ ((over 1 (tabN ns s)).take k).length = k by
    intro k hk
    have hk2 : k < (over 1 (tabN ns s)).length := by rw [over_len, htl]; exact hk
    refine ⟨?_, by rw [List.length_take]; omega⟩
    rw [List.take_succ_eq_append_getElem hk2]
    simp [over_one, tabN])
  have HQL := Lib.hid (show (over 1 (tabN ns s)).length = n by rw [over_len, htl])
  obtain ⟨qs, hqs⟩ : ∃ qs, over 1 (tabN ns s) = qs := ⟨_, rfl⟩
  rw [hqs] at HQ HQL ⊢
  rw [hr, hn]
  have HI := Lib.hid hi
  have HEW := Lib.hid hE
  have hb2 : Below w.heap.size w ((w.alloc (.cells #[.int .i64 0, .string { data := #[] }, .string { data := #[] }, .string { data := #[] }, .bool false, .int .i64 0, .int .i64 0, .int .i64 0, .slice none 0 0] 27)).alloc (.cells #[.int .i64 5, .string { data := #[] }, .string { data := #[] }, .string { data := #[] }, .bool false, .int .i64 0, .int .i64 (r : Int), .int .i64 (s : Int), .slice none 0 0] 27)) := ((Below.refl _ _).alloc (Nat.le_refl _) _).alloc (by simp) _
  have HI0 := Lib.hid (show TabJ w r s (.slice none 0 0) (.slice none 0 0) [] _ from ⟨keep_block (heap_alloc_new w _) ((Below.refl _ _).alloc (Nat.le_refl _) _), by have := heap_alloc_new (w.alloc (.cells #[.int .i64 0, .string { data := #[] }, .string { data := #[] }, .string { data := #[] }, .bool false, .int .i64 0, .int .i64 0, .int .i64 0, .slice none 0 0] 27)) (.cells #[.int .i64 5, .string { data := #[] }, .string { data := #[] }, .string { data := #[] }, .bool false, .int .i64 0, .int .i64 (r : Int), .int .i64 (s : Int), .slice none 0 0] 27); rw [World.size_alloc] at this; exact this, hb2, World.ownsRow_nil _ _ _ _⟩)
  obtain ⟨i0, hi0', hz0, hz1, hz2⟩ := info_val
  clear hb2 hqs hi hE hr hn hmm hd hrd htl
  go_enter Tryz.func9, Tryz.ntmps9
  go_wp2_with fail
  go_loopg [20] n (fun gh v15 wx => ∃ k v, v15 = .int .i64 ((k : Nat) : Int) ∧ k ≤ n ∧ gh = n - k ∧ TabJ w r s v v (qs.take k) wx)
  case atStart => exact ⟨0, _, rfl, Nat.zero_le _, rfl, HI0.out⟩
  case round =>
    clear HI0
    obtain ⟨k, v, rfl, hk, rfl, hti⟩ := hrel
    have HTI := Lib.hid hti
    by_cases hlt : k < n
    · have hd : decide ((k : Int) < (n : Int)) = true := decide_eq_true (by omega)
      have hd2 : decide (k < n) = true := decide_eq_true hlt
      by_cases hkL : k < L
      · obtain ⟨htk, hdl⟩ := HQ.out k hlt
        have hdL : decide ((k : Int) < (L : Int)) = true := decide_eq_true (by omega)
        have hdL2 : decide (k < L) = true := decide_eq_true (by omega)
        obtain ⟨A', hA', hCI⟩ := HI.out.src (by omega)
        subst hA'
        have hkn : k < ns.length := by rw [HI.out.len]; exact hkL
        have hcell := cell_below (hCI k hkn) HTI.out.low
        obtain ⟨hb1, hb2⟩ := HI.out.rng _ (List.getElem_mem hkn)
        obtain ⟨z, hz⟩ : ∃ z, ns[k] = z := ⟨_, rfl⟩
        have hval : cellN ns k = z % 7 := by unfold cellN; rw [dif_pos hkn, hz]
        rw [hz] at hcell hb1 hb2
        rw [hval] at htk
        have TN := Lib.hid (fun W g => kwhole_any (z % 7) W (by omega) (by omega) g)
        have TM := Lib.hid (fun W => kmod_any z 7 hb1 hb2 (by decide) (by decide) W)
        obtain ⟨q, hq⟩ : ∃ q, ((z % 7 : Int) : Rat) = q := ⟨_, rfl⟩
        rw [hq] at TN htk
        rw [numVal_is q] at TN
        have HTK := Lib.hid htk
        have HDL := Lib.hid hdl
        have hown := hti.own
        rw [hdl] at hown
        obtain ⟨av, cv, hu⟩ := owns_form hown
        subst hu
        have hi0 : (0 : Int) ≤ (k : Int) := by omega
        have hi1 : (k : Int) < (n : Int) := by omega
        have hi2 : (k : Int) < (L : Int) := by omega
        have hml : k + 1 ≤ maxLen := by unfold maxLen; omega
        clear hti hown htk hdl hb1 hb2 hz hq hkn hval hkL hCI
        go_wp2_with fail
        refine (TM.out _).mono ?_
        intro e W1 hW1
        obtain ⟨hW2, hW3⟩ := hW1
        rw [hW2, hW3]
        clear hW2 hW3 W1 e
        go_upto_region 8 with fail
        clear hcell
        replace HTI := Lib.hid (HTI.out.step ((Below.refl wr.heap.size wr).drew))
        obtain ⟨⟨x0, x1, x2, x3, x4, x5, x6, x7, x8⟩, y0, y1, y2, y3, y4, y5, y6, y7, y8⟩ := nine_at HTI.out.box
        go_region_law (first
          | (have HT3 := Lib.hid (HT2.out.step ((Below.refl W2.heap.size W2).alloc (Nat.le_refl _) (.cells #[.int .i64 1, .string (numS q), .string (denS q), .string { data := #[] }, .bool false, .int .i64 0, .int .i64 0, .int .i64 0, .slice none 0 0] 27)));
             have HOW := Lib.hid (show (W2.alloc (.cells #[.int .i64 1, .string (numS q), .string (denS q), .string { data := #[] }, .bool false, .int .i64 0, .int .i64 0, .int .i64 0, .slice none 0 0] 27)).ownsRow (w.heap.size + 2) 27 9 (.slice av k cv) k (flat (numVals (qs.take k))) from by have := HT3.out.own; rw [HDL.out] at this; exact this);
             have HNW := Lib.hid (World.news_of_block (cs := #[.int .i64 1, .string (numS q), .string (denS q), .string { data := #[] }, .bool false, .int .i64 0, .int .i64 0, .int .i64 0, .slice none 0 0]) (t := 27) (fr := (0, 0)) (heap_alloc_new W2 (.cells #[.int .i64 1, .string (numS q), .string (denS q), .string { data := #[] }, .bool false, .int .i64 0, .int .i64 0, .int .i64 0, .slice none 0 0] 27)));
             refine step_append_own rfl _ _ 25 rfl (w.heap.size + 2) 27 i0 _ 9 112 Tryz.underlying25 hi0' hz0 hz1 hz2 rfl (by decide) (.slice av k cv) k (flat (numVals (qs.take k))) (by simp [Act.eval]) HOW.out ⟨W2.heap.size, 0, none⟩ 1 1 [.int .i64 1, .string (numS q), .string (denS q), .string { data := #[] }, .bool false, .int .i64 0, .int .i64 0, .int .i64 0, .slice none 0 0] (by simp [Act.eval]) rfl HNW.out (by simp [Value.oneCell']) hml (by omega) HT3.out.size ?_;
             intro v5 w5 hown5 hgrow5;
             obtain ⟨a5, c5, hu5⟩ := owns_form hown5;
             subst hu5;
             have HT5 := Lib.hid (HT3.out.push (by rw [HDL.out]; exact hown5) hgrow5);
             rw [← HTK.out] at HT5;
             clear hown5 hgrow5 HT3 HOW HNW;
             obtain ⟨⟨x0, x1, x2, x3, x4, x5, x6, x7, x8⟩, y0, y1, y2, y3, y4, y5, y6, y7, y8⟩ := nine_at HT5.out.box)
          | (go_simp; go_at_call 6; (with_reducible refine (TN.out _ (HEW.out.below HTI.out.low)).mono ?_); rintro e W2 ⟨rfl, hb⟩; have HT2 := Lib.hid (HTI.out.step hb); clear hb; obtain ⟨⟨x0, x1, x2, x3, x4, x5, x6, x7, x8⟩, y0, y1, y2, y3, y4, y5, y6, y7, y8⟩ := nine_at HT2.out.box; obtain ⟨⟨_, _, _, _, _, _, _, _, z8⟩, _⟩ := nine_at (HT2.out.step ((Below.refl W2.heap.size W2).alloc (Nat.le_refl _) (.cells #[.int .i64 1, .string (numS q), .string (denS q), .string { data := #[] }, .bool false, .int .i64 0, .int .i64 0, .int .i64 0, .slice none 0 0] 27))).box))
        all_goals
          have HT6 := Lib.hid HT5.out.store
          go_wp2
          go_roundg (n - (k + 1))
          case measure => omega
          case rel => exact ⟨k + 1, _, by go_num, by omega, by omega, HT6.out⟩
      · obtain ⟨htk, hdl⟩ := HQ.out k hlt
        have hdL : decide ((k : Int) < (L : Int)) = false := decide_eq_false (by omega)
        have hdL2 : decide (k < L) = false := decide_eq_false (by omega)
        have hval : cellN ns k = (k : Int) := by unfold cellN; rw [dif_neg (by rw [HI.out.len]; exact hkL)]
        rw [hval] at htk
        have TN := Lib.hid (fun W g => kwhole_any (k : Int) W (by omega) (by omega) g)
        obtain ⟨q, hq⟩ : ∃ q, ((k : Int) : Rat) = q := ⟨_, rfl⟩
        rw [hq] at TN htk
        rw [numVal_is q] at TN
        have HTK := Lib.hid htk
        have HDL := Lib.hid hdl
        have hown := hti.own
        rw [hdl] at hown
        obtain ⟨av, cv, hu⟩ := owns_form hown
        subst hu
        have hi0 : (0 : Int) ≤ (k : Int) := by omega
        have hi1 : (k : Int) < (n : Int) := by omega
        have hml : k + 1 ≤ maxLen := by unfold maxLen; omega
        clear hti hown htk hdl hq hval hkL
        go_upto_region 8 with fail
        replace HTI := Lib.hid (HTI.out.step ((Below.refl wr.heap.size wr).drew))
        obtain ⟨⟨x0, x1, x2, x3, x4, x5, x6, x7, x8⟩, y0, y1, y2, y3, y4, y5, y6, y7, y8⟩ := nine_at HTI.out.box
        go_region_law (first
          | (have HT3 := Lib.hid (HT2.out.step ((Below.refl W2.heap.size W2).alloc (Nat.le_refl _) (.cells #[.int .i64 1, .string (numS q), .string (denS q), .string { data := #[] }, .bool false, .int .i64 0, .int .i64 0, .int .i64 0, .slice none 0 0] 27)));
             have HOW := Lib.hid (show (W2.alloc (.cells #[.int .i64 1, .string (numS q), .string (denS q), .string { data := #[] }, .bool false, .int .i64 0, .int .i64 0, .int .i64 0, .slice none 0 0] 27)).ownsRow (w.heap.size + 2) 27 9 (.slice av k cv) k (flat (numVals (qs.take k))) from by have := HT3.out.own; rw [HDL.out] at this; exact this);
             have HNW := Lib.hid (World.news_of_block (cs := #[.int .i64 1, .string (numS q), .string (denS q), .string { data := #[] }, .bool false, .int .i64 0, .int .i64 0, .int .i64 0, .slice none 0 0]) (t := 27) (fr := (0, 0)) (heap_alloc_new W2 (.cells #[.int .i64 1, .string (numS q), .string (denS q), .string { data := #[] }, .bool false, .int .i64 0, .int .i64 0, .int .i64 0, .slice none 0 0] 27)));
             refine step_append_own rfl _ _ 25 rfl (w.heap.size + 2) 27 i0 _ 9 112 Tryz.underlying25 hi0' hz0 hz1 hz2 rfl (by decide) (.slice av k cv) k (flat (numVals (qs.take k))) (by simp [Act.eval]) HOW.out ⟨W2.heap.size, 0, none⟩ 1 1 [.int .i64 1, .string (numS q), .string (denS q), .string { data := #[] }, .bool false, .int .i64 0, .int .i64 0, .int .i64 0, .slice none 0 0] (by simp [Act.eval]) rfl HNW.out (by simp [Value.oneCell']) hml (by omega) HT3.out.size ?_;
             intro v5 w5 hown5 hgrow5;
             obtain ⟨a5, c5, hu5⟩ := owns_form hown5;
             subst hu5;
             have HT5 := Lib.hid (HT3.out.push (by rw [HDL.out]; exact hown5) hgrow5);
             rw [← HTK.out] at HT5;
             clear hown5 hgrow5 HT3 HOW HNW;
             obtain ⟨⟨x0, x1, x2, x3, x4, x5, x6, x7, x8⟩, y0, y1, y2, y3, y4, y5, y6, y7, y8⟩ := nine_at HT5.out.box)
          | (go_simp; go_at_call 6; (with_reducible refine (TN.out _ (HEW.out.below HTI.out.low)).mono ?_); rintro e W2 ⟨rfl, hb⟩; have HT2 := Lib.hid (HTI.out.step hb); clear hb; obtain ⟨⟨x0, x1, x2, x3, x4, x5, x6, x7, x8⟩, y0, y1, y2, y3, y4, y5, y6, y7, y8⟩ := nine_at HT2.out.box; obtain ⟨⟨_, _, _, _, _, _, _, _, z8⟩, _⟩ := nine_at (HT2.out.step ((Below.refl W2.heap.size W2).alloc (Nat.le_refl _) (.cells #[.int .i64 1, .string (numS q), .string (denS q), .string { data := #[] }, .bool false, .int .i64 0, .int .i64 0, .int .i64 0, .slice none 0 0] 27))).box))
        all_goals
          have HT6 := Lib.hid HT5.out.store
          go_wp2
          go_roundg (n - (k + 1))
          case measure => omega
          case rel => exact ⟨k + 1, _, by go_num, by omega, by omega, HT6.out⟩
    · have hd : decide ((k : Int) < (n : Int)) = false := decide_eq_false (by omega)
      have hd2 : decide (k < n) = false := decide_eq_false hlt
      have hkL : k = n := by omega
      have hall : qs.take k = qs := by rw [hkL, ← HQL.out, List.take_length]
      rw [hall] at HTI
      have hown := HTI.out.own
      rw [HQL.out] at hown
      obtain ⟨g, cap, hv, hg, hcap, hva⟩ := vals_of_owns hown (by rw [numVals_len]; exact HQL.out) hn0
      subst hv
      clear hti hall hkL hlt hown
      obtain ⟨⟨x0, x1, x2, x3, x4, x5, x6, x7, x8⟩, y0, y1, y2, y3, y4, y5, y6, y7, y8⟩ := nine_at HTI.out.box
      obtain ⟨⟨r0, r1, r2, r3, r4, r5, r6, r7, r8⟩, g0, g1, g2, g3, g4, g5, g6, g7, g8⟩ := nine_at HTI.out.res
      have HVA := Lib.hid (vals_other hva (set9_other wr w.heap.size (.int .i64 5) (.string { data := #[] }) (.string { data := #[] }) (.string { data := #[] }) (.bool false) (.int .i64 0) (.int .i64 (r : Int)) (.int .i64 (s : Int)) (.slice (some ⟨g, 0, none⟩) n cap) (show g ≠ w.heap.size by omega)))
      obtain ⟨nb, z0, z1, z2, z3, z4, z5, z6, z7, z8⟩ := nine_end (x0 := (.int .i64 5)) (x1 := (.string { data := #[] })) (x2 := (.string { data := #[] })) (x3 := (.string { data := #[] })) (x4 := (.bool false)) (x5 := (.int .i64 0)) (x6 := (.int .i64 (r : Int))) (x7 := (.int .i64 (s : Int))) (x8 := (.slice (some ⟨g, 0, none⟩) n cap)) HTI.out.res HTI.out.low (Nat.le_refl _)
      have NB := Lib.hid nb
      clear hva nb
      go_wp2
      refine bodyPost_ret (v := (arrVal' (r : Int) (s : Int) g n cap).agg) (by simp [arrVal', Val.agg, results, Tryz.results9, go_sem, z0, z1, z2, z3, z4, z5, z6, z7, z8]) rfl ⟨g, cap, rfl, HVA.out, by omega, NB.out⟩
end Go.Proofs.YtgponoogifeopaaGreatDoor.Num

/- What the law FstatRanks asks of the law's stat and math. No conditions. -/
namespace Go.Proofs.YtgponoogifeopaaGreatDoor.Num.Ft
open Go.RowKit Go.Lib Num

/-- the tables and the package variable half as they are laid -/
structure EnvK (w : World) : Prop where
  env : Env w
  half : w.cell? ⟨0, 0, none⟩ = some (.string (numS halfR)) ∧ w.cell? ⟨0, 1, none⟩ = some (.string (denS halfR))
theorem EnvK.below {w w' : World} (h : EnvK w) (hb : Below w.heap.size w w') : EnvK w' := ⟨h.env.below hb, cell_below h.half.1 hb, cell_below h.half.2 hb⟩
/-- what the law's stat gives at one array of one column -/
def S1 (nm : ByteArray) (ln : Nat) (qs : List Rat) (v : Value) : Prop := ∀ (W : World) (G g cap : Nat), W.heap[G]? = some (.cells #[.int .i64 5, .string { data := #[] }, .string { data := #[] }, .string { data := #[] }, .bool false, .int .i64 0, .int .i64 (ln : Int), .int .i64 1, .slice (some ⟨g, 0, none⟩) ln cap] 27 (0, 0)) → ValsAt W g 0 (numVals qs) → EnvK W → Calls Tryz.prog 10 #[.string nm, .slice (some ⟨G, 0, none⟩) 1 1] W fun e w' => e = .returned v ∧ Below W.heap.size W w'
theorem S1.on {nm : ByteArray} {ln : Nat} {qs : List Rat} {v : Value} (T : S1 nm ln qs v) (W : World) (G g cap : Nat) (h : W.heap[G]? = some (.cells #[.int .i64 5, .string { data := #[] }, .string { data := #[] }, .string { data := #[] }, .bool false, .int .i64 0, .int .i64 (ln : Int), .int .i64 1, .slice (some ⟨g, 0, none⟩) ln cap] 27 (0, 0))) (hv : ValsAt W g 0 (numVals qs)) (hE : EnvK W) :
    Calls Tryz.prog 10 #[.string nm, .slice (some ⟨G, 0, none⟩) 1 1] W fun e w' => e = .returned v ∧ Below W.heap.size W w' := T W G g cap h hv hE
theorem S1.at {nm : ByteArray} {ln : Nat} {qs : List Rat} {v : Value} (T : S1 nm ln qs v) (W : World) (g cap : Nat) (hv : ValsAt W g 0 (numVals qs)) (hE : EnvK W) :
    Calls Tryz.prog 10 #[.string nm, .slice (some ⟨W.heap.size, 0, none⟩) 1 1] (W.alloc (.cells #[.int .i64 5, .string { data := #[] }, .string { data := #[] }, .string { data := #[] }, .bool false, .int .i64 0, .int .i64 (ln : Int), .int .i64 1, .slice (some ⟨g, 0, none⟩) ln cap] 27)) fun e w' => e = .returned v ∧ Below W.heap.size W w' := by
  have hb : Below W.heap.size W (W.alloc (.cells #[.int .i64 5, .string { data := #[] }, .string { data := #[] }, .string { data := #[] }, .bool false, .int .i64 0, .int .i64 (ln : Int), .int .i64 1, .slice (some ⟨g, 0, none⟩) ln cap] 27)) := (Below.refl _ _).alloc (Nat.le_refl _) _
  exact (T _ _ g cap (heap_alloc_new W _) (hv.below hb) (hE.below hb)).mono fun e w' h => ⟨h.1, hb.trans (h.2.mono hb.size)⟩
/-- what it gives at an array and a number -/
def S2 (nm : ByteArray) (ln : Nat) (x : Rat) (qs : List Rat) (v : Value) : Prop := ∀ (W : World) (G g cap : Nat), W.heap[G]? = some (.cells #[.int .i64 5, .string { data := #[] }, .string { data := #[] }, .string { data := #[] }, .bool false, .int .i64 0, .int .i64 (ln : Int), .int .i64 1, .slice (some ⟨g, 0, none⟩) ln cap, .int .i64 1, .string (numS x), .string (denS x), .string { data := #[] }, .bool false, .int .i64 0, .int .i64 0, .int .i64 0, .slice none 0 0] 27 (0, 0)) → ValsAt W g 0 (numVals qs) → EnvK W → Calls Tryz.prog 10 #[.string nm, .slice (some ⟨G, 0, none⟩) 2 2] W fun e w' => e = .returned v ∧ Below W.heap.size W w'
theorem S2.on {nm : ByteArray} {ln : Nat} {x : Rat} {qs : List Rat} {v : Value} (T : S2 nm ln x qs v) (W : World) (G g cap : Nat) (h : W.heap[G]? = some (.cells #[.int .i64 5, .string { data := #[] }, .string { data := #[] }, .string { data := #[] }, .bool false, .int .i64 0, .int .i64 (ln : Int), .int .i64 1, .slice (some ⟨g, 0, none⟩) ln cap, .int .i64 1, .string (numS x), .string (denS x), .string { data := #[] }, .bool false, .int .i64 0, .int .i64 0, .int .i64 0, .slice none 0 0] 27 (0, 0))) (hv : ValsAt W g 0 (numVals qs)) (hE : EnvK W) :
    Calls Tryz.prog 10 #[.string nm, .slice (some ⟨G, 0, none⟩) 2 2] W fun e w' => e = .returned v ∧ Below W.heap.size W w' := T W G g cap h hv hE
theorem S2.at {nm : ByteArray} {ln : Nat} {x : Rat} {qs : List Rat} {v : Value} (T : S2 nm ln x qs v) (W : World) (g cap : Nat) (hv : ValsAt W g 0 (numVals qs)) (hE : EnvK W) :
    Calls Tryz.prog 10 #[.string nm, .slice (some ⟨W.heap.size, 0, none⟩) 2 2] (W.alloc (.cells #[.int .i64 5, .string { data := #[] }, .string { data := #[] }, .string { data := #[] }, .bool false, .int .i64 0, .int .i64 (ln : Int), .int .i64 1, .slice (some ⟨g, 0, none⟩) ln cap, .int .i64 1, .string (numS x), .string (denS x), .string { data := #[] }, .bool false, .int .i64 0, .int .i64 0, .int .i64 0, .slice none 0 0] 27)) fun e w' => e = .returned v ∧ Below W.heap.size W w' := by
  have hb : Below W.heap.size W (W.alloc (.cells #[.int .i64 5, .string { data := #[] }, .string { data := #[] }, .string { data := #[] }, .bool false, .int .i64 0, .int .i64 (ln : Int), .int .i64 1, .slice (some ⟨g, 0, none⟩) ln cap, .int .i64 1, .string (numS x), .string (denS x), .string { data := #[] }, .bool false, .int .i64 0, .int .i64 0, .int .i64 0, .slice none 0 0] 27)) := (Below.refl _ _).alloc (Nat.le_refl _) _
  exact (T _ _ g cap (heap_alloc_new W _) (hv.below hb) (hE.below hb)).mono fun e w' h => ⟨h.1, hb.trans (h.2.mono hb.size)⟩
/-- what it gives at a number and an array -/
def S3 (nm : ByteArray) (ln : Nat) (x : Rat) (qs : List Rat) (v : Value) : Prop := ∀ (W : World) (G g cap : Nat), W.heap[G]? = some (.cells #[.int .i64 1, .string (numS x), .string (denS x), .string { data := #[] }, .bool false, .int .i64 0, .int .i64 0, .int .i64 0, .slice none 0 0, .int .i64 5, .string { data := #[] }, .string { data := #[] }, .string { data := #[] }, .bool false, .int .i64 0, .int .i64 (ln : Int), .int .i64 1, .slice (some ⟨g, 0, none⟩) ln cap] 27 (0, 0)) → ValsAt W g 0 (numVals qs) → EnvK W → Calls Tryz.prog 10 #[.string nm, .slice (some ⟨G, 0, none⟩) 2 2] W fun e w' => e = .returned v ∧ Below W.heap.size W w'
theorem S3.on {nm : ByteArray} {ln : Nat} {x : Rat} {qs : List Rat} {v : Value} (T : S3 nm ln x qs v) (W : World) (G g cap : Nat) (h : W.heap[G]? = some (.cells #[.int .i64 1, .string (numS x), .string (denS x), .string { data := #[] }, .bool false, .int .i64 0, .int .i64 0, .int .i64 0, .slice none 0 0, .int .i64 5, .string { data := #[] }, .string { data := #[] }, .string { data := #[] }, .bool false, .int .i64 0, .int .i64 (ln : Int), .int .i64 1, .slice (some ⟨g, 0, none⟩) ln cap] 27 (0, 0))) (hv : ValsAt W g 0 (numVals qs)) (hE : EnvK W) :
    Calls Tryz.prog 10 #[.string nm, .slice (some ⟨G, 0, none⟩) 2 2] W fun e w' => e = .returned v ∧ Below W.heap.size W w' := T W G g cap h hv hE
theorem S3.at {nm : ByteArray} {ln : Nat} {x : Rat} {qs : List Rat} {v : Value} (T : S3 nm ln x qs v) (W : World) (g cap : Nat) (hv : ValsAt W g 0 (numVals qs)) (hE : EnvK W) :
    Calls Tryz.prog 10 #[.string nm, .slice (some ⟨W.heap.size, 0, none⟩) 2 2] (W.alloc (.cells #[.int .i64 1, .string (numS x), .string (denS x), .string { data := #[] }, .bool false, .int .i64 0, .int .i64 0, .int .i64 0, .slice none 0 0, .int .i64 5, .string { data := #[] }, .string { data := #[] }, .string { data := #[] }, .bool false, .int .i64 0, .int .i64 (ln : Int), .int .i64 1, .slice (some ⟨g, 0, none⟩) ln cap] 27)) fun e w' => e = .returned v ∧ Below W.heap.size W w' := by
  have hb : Below W.heap.size W (W.alloc (.cells #[.int .i64 1, .string (numS x), .string (denS x), .string { data := #[] }, .bool false, .int .i64 0, .int .i64 0, .int .i64 0, .slice none 0 0, .int .i64 5, .string { data := #[] }, .string { data := #[] }, .string { data := #[] }, .bool false, .int .i64 0, .int .i64 (ln : Int), .int .i64 1, .slice (some ⟨g, 0, none⟩) ln cap] 27)) := (Below.refl _ _).alloc (Nat.le_refl _) _
  exact (T _ _ g cap (heap_alloc_new W _) (hv.below hb) (hE.below hb)).mono fun e w' h => ⟨h.1, hb.trans (h.2.mono hb.size)⟩
/-- what the law's math gives at an array of two rows -/
def M1 (nm : ByteArray) (qs : List Rat) (v : Value) : Prop := ∀ (W : World) (G g cap : Nat), W.heap[G]? = some (.cells #[.int .i64 5, .string { data := #[] }, .string { data := #[] }, .string { data := #[] }, .bool false, .int .i64 0, .int .i64 2, .int .i64 1, .slice (some ⟨g, 0, none⟩) 2 cap] 27 (0, 0)) → ValsAt W g 0 (numVals qs) → EnvK W → Calls Tryz.prog 7 #[.string nm, .slice (some ⟨G, 0, none⟩) 1 1] W fun e w' => e = .returned v ∧ Below W.heap.size W w'
theorem M1.on {nm : ByteArray} {qs : List Rat} {v : Value} (T : M1 nm qs v) (W : World) (G g cap : Nat) (h : W.heap[G]? = some (.cells #[.int .i64 5, .string { data := #[] }, .string { data := #[] }, .string { data := #[] }, .bool false, .int .i64 0, .int .i64 2, .int .i64 1, .slice (some ⟨g, 0, none⟩) 2 cap] 27 (0, 0))) (hv : ValsAt W g 0 (numVals qs)) (hE : EnvK W) :
    Calls Tryz.prog 7 #[.string nm, .slice (some ⟨G, 0, none⟩) 1 1] W fun e w' => e = .returned v ∧ Below W.heap.size W w' := T W G g cap h hv hE
theorem M1.at {nm : ByteArray} {qs : List Rat} {v : Value} (T : M1 nm qs v) (W : World) (g cap : Nat) (hv : ValsAt W g 0 (numVals qs)) (hE : EnvK W) :
    Calls Tryz.prog 7 #[.string nm, .slice (some ⟨W.heap.size, 0, none⟩) 1 1] (W.alloc (.cells #[.int .i64 5, .string { data := #[] }, .string { data := #[] }, .string { data := #[] }, .bool false, .int .i64 0, .int .i64 2, .int .i64 1, .slice (some ⟨g, 0, none⟩) 2 cap] 27)) fun e w' => e = .returned v ∧ Below W.heap.size W w' := by
  have hb : Below W.heap.size W (W.alloc (.cells #[.int .i64 5, .string { data := #[] }, .string { data := #[] }, .string { data := #[] }, .bool false, .int .i64 0, .int .i64 2, .int .i64 1, .slice (some ⟨g, 0, none⟩) 2 cap] 27)) := (Below.refl _ _).alloc (Nat.le_refl _) _
  exact (T _ _ g cap (heap_alloc_new W _) (hv.below hb) (hE.below hb)).mono fun e w' h => ⟨h.1, hb.trans (h.2.mono hb.size)⟩
/-- FREQUENCY gives an array of two rows -/
def FqC (ln : Nat) (x : Rat) (qs its : List Rat) : Prop := ∀ (W : World) (G g cap : Nat), W.heap[G]? = some (.cells #[.int .i64 5, .string { data := #[] }, .string { data := #[] }, .string { data := #[] }, .bool false, .int .i64 0, .int .i64 (ln : Int), .int .i64 1, .slice (some ⟨g, 0, none⟩) ln cap, .int .i64 1, .string (numS x), .string (denS x), .string { data := #[] }, .bool false, .int .i64 0, .int .i64 0, .int .i64 0, .slice none 0 0] 27 (0, 0)) → ValsAt W g 0 (numVals qs) → EnvK W → Calls Tryz.prog 10 #[.string { data := #[70, 82, 69, 81, 85, 69, 78, 67, 89] }, .slice (some ⟨G, 0, none⟩) 2 2] W fun e w' => ∃ lg cap, e = .returned (.agg #[.int .i64 5, .string { data := #[] }, .string { data := #[] }, .string { data := #[] }, .bool false, .int .i64 0, .int .i64 2, .int .i64 1, .slice (some ⟨lg, 0, none⟩) 2 cap]) ∧ ValsAt w' lg 0 (numVals its) ∧ W.heap.size ≤ lg ∧ Below W.heap.size W w'
/-- what the law's table gives -/
def TbC (w : World) (src : Value) (ln : Nat) (qs : List Rat) : Prop := ∀ W, Below w.heap.size w W → EnvK W → Calls Tryz.prog 9 #[src, .int .i64 1] W fun e w' => ∃ g cap, e = .returned (.agg #[.int .i64 5, .string { data := #[] }, .string { data := #[] }, .string { data := #[] }, .bool false, .int .i64 0, .int .i64 (ln : Int), .int .i64 1, .slice (some ⟨g, 0, none⟩) ln cap]) ∧ ValsAt w' g 0 (numVals qs) ∧ W.heap.size ≤ g ∧ Below W.heap.size W w'
end Go.Proofs.YtgponoogifeopaaGreatDoor.Num.Ft

/- A value that holds an array whose row of items grows: the value's block, the row. No conditions. -/
namespace Go.Proofs.YtgponoogifeopaaGreatDoor.Num
open Go.RowKit Go.Lib

/-- nine stores behind one another -/
def put9 (W : World) (g o : Nat) (x0 x1 x2 x3 x4 x5 x6 x7 x8 : Value) : World :=
  ((((((((W.setCell ⟨g, o, none⟩ x0).setCell ⟨g, o + 1, none⟩ x1).setCell ⟨g, o + 2, none⟩ x2).setCell ⟨g, o + 3, none⟩ x3).setCell ⟨g, o + 4, none⟩ x4).setCell ⟨g, o + 5, none⟩ x5).setCell ⟨g, o + 6, none⟩ x6).setCell ⟨g, o + 7, none⟩ x7).setCell ⟨g, o + 8, none⟩ x8
theorem set_behind {xs l : List Value} {m : Nat} (h : xs.length = m) (t : Nat) (u : Value) : (xs ++ l).set (m + t) u = xs ++ l.set t u := by
  rw [List.set_append_right _ _ (by omega), show m + t - xs.length = t by omega]
theorem stored9 {w : World} {base : Nat} {e : TypeId} {g n cap : Nat} {xs ys : List Value} (h : w.ownsRow base e 9 (.slice (some ⟨g, 0, none⟩) n cap) n (xs ++ ys)) {o : Nat} (hx : xs.length = o) (hy : ys.length = 9) (x0 x1 x2 x3 x4 x5 x6 x7 x8 : Value) :
    (put9 w g o x0 x1 x2 x3 x4 x5 x6 x7 x8).ownsRow base e 9 (.slice (some ⟨g, 0, none⟩) n cap) n (xs ++ [x0, x1, x2, x3, x4, x5, x6, x7, x8]) ∧ w.grownBy (put9 w g o x0 x1 x2 x3 x4 x5 x6 x7 x8) (some g) := by
  obtain ⟨a0, b0⟩ := h.stored o x0
  obtain ⟨a1, b1⟩ := a0.stored (o + 1) x1
  obtain ⟨a2, b2⟩ := a1.stored (o + 2) x2
  obtain ⟨a3, b3⟩ := a2.stored (o + 3) x3
  obtain ⟨a4, b4⟩ := a3.stored (o + 4) x4
  obtain ⟨a5, b5⟩ := a4.stored (o + 5) x5
  obtain ⟨a6, b6⟩ := a5.stored (o + 6) x6
  obtain ⟨a7, b7⟩ := a6.stored (o + 7) x7
  obtain ⟨a8, b8⟩ := a7.stored (o + 8) x8
  refine ⟨?_, only_trans b0 (only_trans b1 (only_trans b2 (only_trans b3 (only_trans b4 (only_trans b5 (only_trans b6 (only_trans b7 b8)))))))⟩
  have e0 : (xs ++ ys).set o x0 = xs ++ ys.set 0 x0 := by have := set_behind (l := ys) hx 0 x0; rwa [Nat.add_zero] at this
  rw [e0, set_behind hx, set_behind hx, set_behind hx, set_behind hx, set_behind hx, set_behind hx, set_behind hx, set_behind hx] at a8
  match ys, hy with
  | [_, _, _, _, _, _, _, _, _], _ => exact a8

/-- the value's block B (r rows, c columns, items bv), the row v of n items -/
structure RowX (w : World) (B : Nat) (r c : Int) (bv v : Value) (n : Nat) (xs : List Value) (W : World) : Prop where
  box : W.heap[B]? = some (.cells #[.int .i64 5, .string { data := #[] }, .string { data := #[] }, .string { data := #[] }, .bool false, .int .i64 0, .int .i64 r, .int .i64 c, bv] 27 (0, 0))
  low : Below w.heap.size w W
  ge : w.heap.size ≤ B
  own : W.ownsRow w.heap.size 27 9 v n xs
  one : v = .slice none 0 0 ∨ xs[0]? = some (.int .i64 1)
theorem RowX.len {w W : World} {B n : Nat} {r c : Int} {bv v : Value} {xs : List Value} (h : RowX w B r c bv v n xs W) : xs.length = n * 9 := h.own.1
theorem RowX.ge_own {w W : World} {B n : Nat} {r c : Int} {bv v : Value} {xs : List Value} (h : RowX w B r c bv v n xs W) : ∀ b, v.ownBlock = some b → w.heap.size ≤ b := by
  intro b hb
  rcases h.own.2 with ⟨rfl, _⟩ | ⟨g, cap, cur, rfl, hg, _⟩
  · simp [Value.ownBlock] at hb
  · simp [Value.ownBlock] at hb; omega
theorem RowX.ne {w W : World} {B n : Nat} {r c : Int} {bv v : Value} {xs : List Value} (h : RowX w B r c bv v n xs W) : v.ownBlock ≠ some B := by
  rcases h.own.2 with ⟨rfl, _⟩ | ⟨g, cap, cur, rfl, hg, hc, _, _, _, htk⟩
  · simp [Value.ownBlock]
  · rcases h.one with e | e
    · cases e
    · intro eb
      have eb : g = B := by simpa [Value.ownBlock] using eb
      subst eb
      rw [← htk] at e
      have hb := h.box
      rw [hc] at hb
      injection hb with hb
      injection hb with hb
      subst hb
      have hn : 0 < n * 9 := by
        rcases Nat.eq_zero_or_pos (n * 9) with h0 | h0
        · rw [h0] at e; simp at e
        · exact h0
      rw [List.getElem?_take_of_lt hn] at e
      simp at e
theorem RowX.step {w W W' : World} {B n : Nat} {r c : Int} {bv v : Value} {xs : List Value} (h : RowX w B r c bv v n xs W) (hb : Below W.heap.size W W') : RowX w B r c bv v n xs W' :=
  ⟨keep_block h.box hb, h.low.trans (hb.mono h.low.size), h.ge, h.own.kept (only_of_below hb none) (by cases v.ownBlock <;> simp), h.one⟩
theorem RowX.push {w W W' : World} {B n m : Nat} {r c : Int} {bv v v' : Value} {xs ys : List Value} (h : RowX w B r c bv v n xs W) (ho : W'.ownsRow w.heap.size 27 9 v' m ys) (h1 : ys[0]? = some (.int .i64 1)) (hg : W.grownBy W' v.ownBlock) : RowX w B r c bv v' m ys W' :=
  ⟨(hg.block B (heap_lt h.box) (fun e => h.ne e.symm)).trans h.box, h.low.grown hg h.low.size h.ge_own, h.ge, ho, .inr h1⟩
/-- the last item stored anew -/
theorem RowX.put {w W : World} {B n g cap : Nat} {r c : Int} {bv : Value} {xs ys : List Value} (h : RowX w B r c bv (.slice (some ⟨g, 0, none⟩) n cap) n (xs ++ ys) W) {o : Nat} (hx : xs.length = o) (hy : ys.length = 9) (h0 : 0 < o) (x0 x1 x2 x3 x4 x5 x6 x7 x8 : Value) :
    RowX w B r c bv (.slice (some ⟨g, 0, none⟩) n cap) n (xs ++ [x0, x1, x2, x3, x4, x5, x6, x7, x8]) (put9 W g o x0 x1 x2 x3 x4 x5 x6 x7 x8) := by
  obtain ⟨a, b⟩ := stored9 h.own hx hy x0 x1 x2 x3 x4 x5 x6 x7 x8
  refine h.push a ?_ b
  rcases h.one with e | e
  · cases e
  · rw [List.getElem?_append_left (by omega)] at e ⊢
    exact e
theorem RowX.store {w W : World} {B n : Nat} {r c : Int} {bv v : Value} {xs : List Value} (h : RowX w B r c bv v n xs W) : RowX w B r c v v n xs (W.setCell ⟨B, 8, none⟩ v) := by
  refine ⟨?_, h.low.setCell (p := ⟨B, 8, none⟩) h.ge _, h.ge, ownsRow_setCell_other h.own (a := ⟨B, 8, none⟩) h.ne v, h.one⟩
  have := heap_setCell_at h.box 8 v
  rw [this]; rfl
/-- a cell of the row -/
theorem RowX.cell {w W : World} {B n g cap : Nat} {r c : Int} {bv : Value} {xs : List Value} (h : RowX w B r c bv (.slice (some ⟨g, 0, none⟩) n cap) n xs W) (j : Nat) (hj : j < n * 9) : W.cell? ⟨g, j, none⟩ = xs[j]? ∧ W.frozen? ⟨g, j, none⟩ = false :=
  ⟨h.own.cellAt j hj, h.own.frozenAt j⟩
/-- the cells of the last item -/
theorem RowX.last {w W : World} {B n g cap : Nat} {r c : Int} {bv : Value} {xs : List Value} {y0 y1 y2 y3 y4 y5 y6 y7 y8 : Value} (h : RowX w B r c bv (.slice (some ⟨g, 0, none⟩) (n + 1) cap) (n + 1) (xs ++ [y0, y1, y2, y3, y4, y5, y6, y7, y8]) W) (hx : xs.length = n * 9) :
    (W.cell? ⟨g, n * 9, none⟩ = some y0 ∧ W.cell? ⟨g, n * 9 + 1, none⟩ = some y1 ∧ W.cell? ⟨g, n * 9 + 2, none⟩ = some y2 ∧ W.cell? ⟨g, n * 9 + 3, none⟩ = some y3 ∧ W.cell? ⟨g, n * 9 + 4, none⟩ = some y4 ∧ W.cell? ⟨g, n * 9 + 5, none⟩ = some y5 ∧ W.cell? ⟨g, n * 9 + 6, none⟩ = some y6 ∧ W.cell? ⟨g, n * 9 + 7, none⟩ = some y7 ∧ W.cell? ⟨g, n * 9 + 8, none⟩ = some y8) ∧
    W.frozen? ⟨g, n * 9, none⟩ = false ∧ W.frozen? ⟨g, n * 9 + 1, none⟩ = false ∧ W.frozen? ⟨g, n * 9 + 2, none⟩ = false ∧ W.frozen? ⟨g, n * 9 + 3, none⟩ = false ∧ W.frozen? ⟨g, n * 9 + 4, none⟩ = false ∧ W.frozen? ⟨g, n * 9 + 5, none⟩ = false ∧ W.frozen? ⟨g, n * 9 + 6, none⟩ = false ∧ W.frozen? ⟨g, n * 9 + 7, none⟩ = false ∧ W.frozen? ⟨g, n * 9 + 8, none⟩ = false := by
  have at' : ∀ t, t < 9 → W.cell? ⟨g, n * 9 + t, none⟩ = ([y0, y1, y2, y3, y4, y5, y6, y7, y8] : List Value)[t]? := by
    intro t ht
    rw [(h.cell (n * 9 + t) (by omega)).1, List.getElem?_append_right (by omega), show n * 9 + t - xs.length = t by omega]
  have fr : ∀ t, t < 9 → W.frozen? ⟨g, n * 9 + t, none⟩ = false := fun t ht => (h.cell (n * 9 + t) (by omega)).2
  exact ⟨⟨at' 0 (by decide), at' 1 (by decide), at' 2 (by decide), at' 3 (by decide), at' 4 (by decide), at' 5 (by decide), at' 6 (by decide), at' 7 (by decide), at' 8 (by decide)⟩, fr 0 (by decide), fr 1 (by decide), fr 2 (by decide), fr 3 (by decide), fr 4 (by decide), fr 5 (by decide), fr 6 (by decide), fr 7 (by decide), fr 8 (by decide)⟩
/-- the items as numbers -/
theorem RowX.vals {w W : World} {B n : Nat} {r c : Int} {bv v : Value} {qs : List Rat} (h : RowX w B r c bv v n (flat (numVals qs)) W) (hn : qs.length = n) (h0 : 0 < n) : ∃ g cap, v = .slice (some ⟨g, 0, none⟩) n cap ∧ w.heap.size ≤ g ∧ n ≤ cap ∧ ValsAt W g 0 (numVals qs) :=
  vals_of_owns h.own (by rw [numVals_len, hn]) h0
/-- the row of one number, its value -/
theorem RowX.start {w w1 : World} {q : Rat} (hb : Below w.heap.size w w1) :
    RowX w (w1.heap.size + 1) 1 1 (.slice (some ⟨w1.heap.size, 0, none⟩) 1 1) (.slice (some ⟨w1.heap.size, 0, none⟩) 1 1) 1 (flat (numVals [q])) ((w1.alloc (.cells #[.int .i64 1, .string (numS q), .string (denS q), .string { data := #[] }, .bool false, .int .i64 0, .int .i64 0, .int .i64 0, .slice none 0 0] 27)).alloc (.cells #[.int .i64 5, .string { data := #[] }, .string { data := #[] }, .string { data := #[] }, .bool false, .int .i64 0, .int .i64 1, .int .i64 1, .slice (some ⟨w1.heap.size, 0, none⟩) 1 1] 27)) := by
  have hl : Below w1.heap.size w1 ((w1.alloc (.cells #[.int .i64 1, .string (numS q), .string (denS q), .string { data := #[] }, .bool false, .int .i64 0, .int .i64 0, .int .i64 0, .slice none 0 0] 27)).alloc (.cells #[.int .i64 5, .string { data := #[] }, .string { data := #[] }, .string { data := #[] }, .bool false, .int .i64 0, .int .i64 1, .int .i64 1, .slice (some ⟨w1.heap.size, 0, none⟩) 1 1] 27)) := ((Below.refl _ _).alloc (Nat.le_refl _) _).alloc (by simp) _
  have h1 := heap_alloc_new (w1.alloc (.cells #[.int .i64 1, .string (numS q), .string (denS q), .string { data := #[] }, .bool false, .int .i64 0, .int .i64 0, .int .i64 0, .slice none 0 0] 27)) (.cells #[.int .i64 5, .string { data := #[] }, .string { data := #[] }, .string { data := #[] }, .bool false, .int .i64 0, .int .i64 1, .int .i64 1, .slice (some ⟨w1.heap.size, 0, none⟩) 1 1] 27)
  rw [World.size_alloc] at h1
  have h2 := new_keep (heap_alloc_new w1 (.cells #[.int .i64 1, .string (numS q), .string (denS q), .string { data := #[] }, .bool false, .int .i64 0, .int .i64 0, .int .i64 0, .slice none 0 0] 27)) (o' := .cells #[.int .i64 5, .string { data := #[] }, .string { data := #[] }, .string { data := #[] }, .bool false, .int .i64 0, .int .i64 1, .int .i64 1, .slice (some ⟨w1.heap.size, 0, none⟩) 1 1] 27)
  exact ⟨h1, hb.trans (hl.mono hb.size), Nat.le_succ_of_le hb.size, ⟨rfl, .inr ⟨_, 1, _, rfl, hb.size, h2, Nat.le_refl _, by decide, rfl, rfl⟩⟩, .inr rfl⟩
end Go.Proofs.YtgponoogifeopaaGreatDoor.Num

/- package fmath: SUMPRODUCT at numbers and arrays of one shape. Conditions: all numbers fit; the tables lie as they are laid. -/
namespace Go.Proofs.YtgponoogifeopaaGreatDoor.Num
open Go.RowKit Go.Lib

structure PrI (w : World) (b g C R : Nat) (vs : List Val) (qss : List (List Rat)) (r s : Int) (W : World) : Prop where
  args : ArgsAt W b (some ⟨g, 0, none⟩) vs.length C 0
  vals : ValsAt W g 0 vs
  parts : ∀ j (h : j < vs.length) (h' : j < qss.length), PArg W vs[j] r s qss[j]
  tiny : ∀ j (h : j < vs.length) gi, vs[j].A = some ⟨gi, 0, none⟩ → gi < w.heap.size
  res : W.heap[R]? = some (.cells #[.string { data := #[] }, .string { data := #[] }] 24 (0, 0))
  env : Env W
  low : Below w.heap.size w W
theorem PrI.step {w W W' : World} {b g C R : Nat} {vs : List Val} {qss : List (List Rat)} {r s : Int} (h : PrI w b g C R vs qss r s W) (hb : Below W.heap.size W W') : PrI w b g C R vs qss r s W' :=
  ⟨keep_block h.args hb, h.vals.below hb, fun j hj hj' => (h.parts j hj hj').below hb, h.tiny, keep_block h.res hb, h.env.below hb, h.low.trans (hb.mono h.low.size)⟩
theorem PrI.set {w W : World} {b g C R X : Nat} {vs : List Val} {qss : List (List Rat)} {r s : Int} (h : PrI w b g C R vs qss r s W) (hX : w.heap.size < X) (hb : b < w.heap.size) (hg : g < w.heap.size) (hR : R ≤ w.heap.size) (hP : Past w.heap.size) (x y : Value) : PrI w b g C R vs qss r s ((W.setCell ⟨X, 0, none⟩ x).setCell ⟨X, 1, none⟩ y) := by
  have ho : ∀ k, k ≠ X → ((W.setCell ⟨X, 0, none⟩ x).setCell ⟨X, 1, none⟩ y).heap[k]? = W.heap[k]? := fun k hk => set2_other W X x y hk
  refine ⟨(ho b (by omega)).trans h.args, vals_other h.vals (ho g (by omega)), fun j hj hj' => (h.parts j hj hj').other (B := w.heap.size) (fun gi e => h.tiny j hj gi e) (fun k hk => ho k (by omega)), h.tiny, (ho R (by omega)).trans h.res, h.env.but ho (by simp) ⟨by have := hP.1; omega, by have := hP.2; omega⟩, ?_⟩
  exact (h.low.setCell (p := ⟨X, 0, none⟩) (Nat.le_of_lt hX) x).setCell (p := ⟨X, 1, none⟩) (Nat.le_of_lt hX) y
structure SumI (w : World) (b g C R : Nat) (vs : List Val) (qss : List (List Rat)) (r s : Int) (P : Nat) (sv : Rat) (W : World) : Prop where
  base : PrI w b g C R vs qss r s W
  sum : W.heap[P]? = some (.cells #[.string (numS sv), .string (denS sv)] 24 (0, 0))
theorem SumI.step {w W W' : World} {b g C R P : Nat} {vs : List Val} {qss : List (List Rat)} {r s : Int} {sv : Rat} (h : SumI w b g C R vs qss r s P sv W) (hb : Below W.heap.size W W') : SumI w b g C R vs qss r s P sv W' := ⟨h.base.step hb, keep_block h.sum hb⟩
structure ProdI (w : World) (b g C R : Nat) (vs : List Val) (qss : List (List Rat)) (r s : Int) (P : Nat) (sv : Rat) (Q : Nat) (pv : Rat) (W : World) : Prop where
  base : SumI w b g C R vs qss r s P sv W
  prod : W.heap[Q]? = some (.cells #[.string (numS pv), .string (denS pv)] 24 (0, 0))
theorem ProdI.step {w W W' : World} {b g C R P Q : Nat} {vs : List Val} {qss : List (List Rat)} {r s : Int} {sv pv : Rat} (h : ProdI w b g C R vs qss r s P sv Q pv W) (hb : Below W.heap.size W W') : ProdI w b g C R vs qss r s P sv Q pv W' := ⟨h.base.step hb, keep_block h.prod hb⟩

end Go.Proofs.YtgponoogifeopaaGreatDoor.Num
