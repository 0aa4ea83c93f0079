/- Numbers as texts of digits, fractions, values and the functions of fmath: contracts of the program's functions, joined from smaller texts. Conditions stand at each theorem. -/
import Derived.Shelf.SlSortCmp.WholeK
import Derived.Shelf.SlicesE.Clone
import Derived.Shelf.SlicesQ.Contains
import Derived.Test.YtgponoogifeopaaGreatDoorChecked
import Derived.Test.YtgponoogifeopaaGreatDoorFtdA
import Derived.Test.YtgponoogifeopaaGreatDoorFtaB
import Derived.Test.YtgponoogifeopaaGreatDoorFtaD
import Derived.Test.YtgponoogifeopaaGreatDoorFtcA
import Derived.Test.YtgponoogifeopaaGreatDoorFtbA
import Derived.Test.YtgponoogifeopaaGreatDoorNumH
import Derived.Laws.StructEq

/- slices.SortFunc, slices.Clone, slices.Contains at rows of fractions: the shelf's contracts laid at this program. No conditions. -/
namespace Go.Proofs
open Go.Shelf
def Tryz.sortFrac_ren : Go.Shelf.Ren := ⟨fun | 6 => 190 | 15 => 273 | 14 => 272 | 28 => 328 | 29 => 287 | 20 => 320 | 21 => 321 | 22 => 322 | 23 => 323 | 24 => 324 | 25 => 325 | 26 => 326 | 27 => 327 | 46 => 360 | 47 => 361 | 48 => 362 | 49 => 363 | 50 => 364 | 57 => 383 | n => n, fun | 22 => 81 | 24 => 24 | 25 => 135 | 3 => 3 | 39 => 203 | 0 => 0 | 53 => 176 | 55 => 162 | 4 => 4 | 46 => 234 | 45 => 233 | 50 => 145 | 5 => 5 | 9 => 9 | 66 => 272 | 70 => 276 | 76 => 296 | 77 => 125 | n => n, fun | n => n⟩
theorem Tryz.sortFrac : Go.Proofs.SlLaysF0.n6 Tryz.prog Tryz.sortFrac_ren := {
  mixed := by kernel_rfl
  f6 := ⟨Tryz.f190.name, by decide, Tryz.func190.trans (congrArg some (by kernel_rfl))⟩
  f14 := ⟨Tryz.f272.name, by decide, Tryz.func272.trans (congrArg some (by kernel_rfl))⟩
  f15 := Tryz.func273.trans (congrArg some (by kernel_rfl))
  f20 := ⟨Tryz.f320.name, by decide, Tryz.func320.trans (congrArg some (by kernel_rfl))⟩
  f21 := ⟨Tryz.f321.name, by decide, Tryz.func321.trans (congrArg some (by kernel_rfl))⟩
  f22 := ⟨Tryz.f322.name, by decide, Tryz.func322.trans (congrArg some (by kernel_rfl))⟩
  f23 := ⟨Tryz.f323.name, by decide, Tryz.func323.trans (congrArg some (by kernel_rfl))⟩
  f24 := ⟨Tryz.f324.name, by decide, Tryz.func324.trans (congrArg some (by kernel_rfl))⟩
  f25 := ⟨Tryz.f325.name, by decide, Tryz.func325.trans (congrArg some (by kernel_rfl))⟩
  f26 := ⟨Tryz.f326.name, by decide, Tryz.func326.trans (congrArg some (by kernel_rfl))⟩
  f27 := ⟨Tryz.f327.name, by decide, Tryz.func327.trans (congrArg some (by kernel_rfl))⟩
  f28 := Tryz.func328.trans (congrArg some (by kernel_rfl))
  f29 := Tryz.func287.trans (congrArg some (by kernel_rfl))
  f46 := ⟨Tryz.f360.name, by decide, Tryz.func360.trans (congrArg some (by kernel_rfl))⟩
  f47 := Tryz.func361.trans (congrArg some (by kernel_rfl))
  f48 := Tryz.func362.trans (congrArg some (by kernel_rfl))
  f49 := ⟨Tryz.f363.name, by decide, Tryz.func363.trans (congrArg some (by kernel_rfl))⟩
  f50 := ⟨Tryz.f364.name, by decide, Tryz.func364.trans (congrArg some (by kernel_rfl))⟩
  f57 := ⟨Tryz.f383.name, by decide, Tryz.func383.trans (congrArg some (by kernel_rfl))⟩
  t0 := Tryz.underlying0
  a0 := Tryz.isAgg0
  z0 := Tryz.sizeOf0
  v0 := Tryz.zeroValue0
  t3 := Tryz.underlying3
  a3 := Tryz.isAgg3
  z3 := Tryz.sizeOf3
  v3 := Tryz.zeroValue3
  t4 := Tryz.underlying4
  a4 := Tryz.isAgg4
  z4 := Tryz.sizeOf4
  v4 := Tryz.zeroValue4
  t5 := Tryz.underlying5
  a5 := Tryz.isAgg5
  z5 := Tryz.sizeOf5
  v5 := Tryz.zeroValue5
  t9 := Tryz.underlying9
  a9 := Tryz.isAgg9
  z9 := Tryz.sizeOf9
  v9 := Tryz.zeroValue9
  t22 := Tryz.underlying81
  a22 := Tryz.isAgg81
  z22 := Tryz.sizeOf81
  v22 := Tryz.zeroValue81
  t25 := Tryz.underlying135
  a25 := Tryz.isAgg135
  z25 := Tryz.sizeOf135
  v25 := Tryz.zeroValue135
  t39 := Tryz.underlying203
  a39 := Tryz.isAgg203
  z39 := Tryz.sizeOf203
  v39 := Tryz.zeroValue203
  t45 := Tryz.underlying233
  a45 := Tryz.isAgg233
  z45 := Tryz.sizeOf233
  v45 := Tryz.zeroValue233
  t46 := Tryz.underlying234
  a46 := Tryz.isAgg234
  z46 := Tryz.sizeOf234
  v46 := Tryz.zeroValue234
  t50 := Tryz.underlying145
  a50 := Tryz.isAgg145
  z50 := Tryz.sizeOf145
  v50 := Tryz.zeroValue145
  t53 := Tryz.underlying176
  a53 := Tryz.isAgg176
  z53 := Tryz.sizeOf176
  v53 := Tryz.zeroValue176
  t55 := Tryz.underlying162
  a55 := Tryz.isAgg162
  z55 := Tryz.sizeOf162
  v55 := Tryz.zeroValue162
  t66 := Tryz.underlying272
  a66 := Tryz.isAgg272
  z66 := Tryz.sizeOf272
  v66 := Tryz.zeroValue272
  t70 := Tryz.underlying276
  a70 := Tryz.isAgg276
  z70 := Tryz.sizeOf276
  v70 := Tryz.zeroValue276
  t76 := Tryz.underlying296
  a76 := Tryz.isAgg296
  z76 := Tryz.sizeOf296
  v76 := Tryz.zeroValue296
  t77 := Tryz.underlying125
  a77 := Tryz.isAgg125
  z77 := Tryz.sizeOf125
  v77 := Tryz.zeroValue125 }
def Tryz.cloneFrac_ren : Go.Shelf.Ren := ⟨fun | 41 => 189 | n => n, fun | 22 => 81 | 23 => 24 | 4 => 4 | n => n, fun | n => n⟩
theorem Tryz.cloneFrac : Go.Proofs.SlLaysE0.n41 Tryz.prog Tryz.cloneFrac_ren := {
  mixed := by kernel_rfl
  f41 := ⟨Tryz.f189.name, by decide, Tryz.func189.trans (congrArg some (by kernel_rfl))⟩
  t4 := Tryz.underlying4
  a4 := Tryz.isAgg4
  z4 := Tryz.sizeOf4
  v4 := Tryz.zeroValue4
  t22 := Tryz.underlying81
  a22 := Tryz.isAgg81
  z22 := Tryz.sizeOf81
  v22 := Tryz.zeroValue81 }
def Tryz.containsFrac_ren : Go.Shelf.Ren := ⟨fun | 7 => 195 | 6 => 275 | n => n, fun | 22 => 81 | 24 => 24 | 4 => 4 | 0 => 0 | 3 => 3 | n => n, fun | n => n⟩
theorem Tryz.containsFrac : Go.Proofs.SlLaysQ.n7 Tryz.prog Tryz.containsFrac_ren := {
  mixed := by kernel_rfl
  f6 := ⟨Tryz.f275.name, by decide, Tryz.func275.trans (congrArg some (by kernel_rfl))⟩
  f7 := ⟨Tryz.f195.name, by decide, Tryz.func195.trans (congrArg some (by kernel_rfl))⟩
  t0 := Tryz.underlying0
  a0 := Tryz.isAgg0
  z0 := Tryz.sizeOf0
  v0 := Tryz.zeroValue0
  t3 := Tryz.underlying3
  a3 := Tryz.isAgg3
  z3 := Tryz.sizeOf3
  v3 := Tryz.zeroValue3
  t4 := Tryz.underlying4
  a4 := Tryz.isAgg4
  z4 := Tryz.sizeOf4
  v4 := Tryz.zeroValue4
  t22 := Tryz.underlying81
  a22 := Tryz.isAgg81
  z22 := Tryz.sizeOf81
  v22 := Tryz.zeroValue81 }
end Go.Proofs

/- package fstat: sorted: a new row of the same fractions in ascending order. Conditions: one to 1000 fractions that all fit; the tables lie as they are laid. -/
namespace Go.Proofs.YtgponoogifeopaaGreatDoor.Num.Ft
open Go.RowKit Go.Lib Go.Sort Num

/-- a fraction that fits -/
abbrev FitQ : Type := {q : Rat // fits q = true}
instance fitQ_inh : Inhabited FitQ := ⟨⟨0, f0⟩⟩
def encQ (x : FitQ) : List Value := [.string (numS x.1), .string (denS x.1)]
def cfQ (x y : FitQ) : Int := cmpR x.1 y.1
theorem ltQ (x y : FitQ) : ltOf cfQ x y = decide (x.1 < y.1) := by
  unfold ltOf cfQ cmpR
  by_cases h : x.1 = y.1
  · rw [if_pos h, h]; simp [Rat.lt_irrefl]
  · rw [if_neg h]
    by_cases g : x.1 < y.1
    · rw [if_pos g]; simp [g]
    · rw [if_neg g]; simp [g]
theorem swoQ : SWO (ltOf cfQ) where
  irrefl x := by rw [ltQ]; simp [Rat.lt_irrefl]
  trans x y z h1 h2 := by
    rw [ltQ] at *
    simp only [decide_eq_true_eq] at *
    grind
  ntrans x y z h1 h2 := by
    rw [ltQ] at *
    simp only [decide_eq_false_iff_not] at *
    grind
theorem antiQ (x y : FitQ) (h1 : ltOf cfQ x y = false) (h2 : ltOf cfQ y x = false) : x = y := by
  rw [ltQ] at *
  simp only [decide_eq_false_iff_not] at *
  apply Subtype.ext
  grind
/-- fractions in ascending order -/
def sortL (qs : List Rat) : List Rat := qs.mergeSort fun x y => decide (x ≤ y)
theorem sortL_perm (qs : List Rat) : (sortL qs).Perm qs := List.mergeSort_perm _ _
theorem sortL_len (qs : List Rat) : (sortL qs).length = qs.length := (sortL_perm qs).length_eq
theorem sortL_mem {qs : List Rat} {q : Rat} : q ∈ sortL qs ↔ q ∈ qs := (sortL_perm qs).mem_iff
theorem sortL_up (qs : List Rat) : (sortL qs).Pairwise fun x y => x ≤ y := by
  have h := List.pairwise_mergeSort (le := fun (x y : Rat) => decide (x ≤ y)) (fun a b c h1 h2 => by simp only [decide_eq_true_eq] at *; grind) (fun a b => by simp only [Bool.or_eq_true, decide_eq_true_eq]; grind) qs
  exact h.imp fun h => by simpa using h
/-- fractions with the fact that they fit -/
def fitL (qs : List Rat) (h : ∀ q ∈ qs, fits q = true) : List FitQ := qs.attach.map fun q => ⟨q.1, h q.1 q.2⟩
theorem fitL_val (qs : List Rat) (h : ∀ q ∈ qs, fits q = true) : (fitL qs h).map (·.1) = qs := by
  unfold fitL
  rw [List.map_map]
  exact List.attach_map_subtype_val qs
theorem fitL_len (qs : List Rat) (h : ∀ q ∈ qs, fits q = true) : (fitL qs h).length = qs.length := by simp [fitL]
theorem fitL_get (qs : List Rat) (h : ∀ q ∈ qs, fits q = true) (i : Nat) (hi : i < qs.length) : ((fitL qs h)[i]'(by rw [fitL_len]; exact hi)).1 = qs[i] := by simp [fitL]
theorem sort_val (qs : List Rat) (h : ∀ q ∈ qs, fits q = true) (d' : Array FitQ) (hp : PermIn 0 (fitL qs h).toArray.size (fitL qs h).toArray d') (hs : SortedIn (ltOf cfQ) 0 (fitL qs h).toArray.size d') : d'.toList.map (·.1) = sortL qs := by
  have e := sorted_unique_holds swoQ antiQ (fitL qs h).toArray d' hp hs
  rw [e]
  show ((fitL qs h).mergeSort _).map _ = _
  rw [List.map_mergeSort (s := fun x y => decide (x ≤ y)) (fun a _ b _ => by
    rw [ltQ]
    by_cases g : b.1 < a.1
    · simp [g, Rat.not_le.2 g]
    · simp [g, Rat.not_lt.1 g]), fitL_val]
  rfl
/-- what the sort passes through keeps all that lies below the row -/
theorem sort_below (B blk off m : Nat) (w : World) (dk : Array FitQ) (os : Array Obj) (hB : B ≤ blk) (hw : B ≤ w.heap.size) : Below B w (sortWorldK encQ 2 w blk off m dk os) := by
  refine ⟨rfl, rfl, rfl, ?_, fun k hk => ?_⟩
  · exact size_sortWorldK_c encQ 2 w blk off m dk os
  · show ((w.heap.modify blk (onCells _)) ++ os)[k]? = _
    rw [Array.getElem?_append_left (by rw [Array.size_modify]; omega), Array.getElem?_modify, if_neg (by omega)]
/-- a call that keeps all blocks: the world it ends in, as draws and new blocks -/
theorem grown_of {W w' : World} (hb : Below W.heap.size W w') (hd : W.drawn ≤ w'.drawn) : ∃ q os, w' = grow (W.drewN q) os := by
  refine ⟨w'.drawn - W.drawn, w'.heap.extract W.heap.size w'.heap.size, ?_⟩
  have hh : w'.heap = W.heap ++ w'.heap.extract W.heap.size w'.heap.size := by
    apply Array.ext_getElem?
    intro i
    by_cases h : i < W.heap.size
    · rw [Array.getElem?_append_left h]; exact hb.block i h
    · have := hb.size
      rw [Array.getElem?_append_right (by omega), Array.getElem?_extract]
      by_cases h2 : i < w'.heap.size
      · rw [if_pos (by omega)]; congr 1; omega
      · rw [if_neg (by omega), Array.getElem?_eq_none (by omega)]
  obtain ⟨h1, t1, d1, o1, u1⟩ := W
  obtain ⟨h2, t2, d2, o2, u2⟩ := w'
  obtain ⟨e1, e2, e3, _, _⟩ := hb
  simp only at e1 e2 e3 hd hh
  subst e1 e2 e3
  simp only [grow, World.drewN]
  congr 1
  omega
theorem cmpLaysQ (B blk off n : Nat) (w : World) (hB : B ≤ blk) (hw : B ≤ w.heap.size) (w0 : World) (h0 : w0.heap.size = B) (hb : Below B w0 w) (hE : EnvY w0) : CmpLays Tryz.prog 184 #[] encQ 2 cfQ blk off n w := by
  intro m os dk _ x y
  have hE' : EnvY (sortWorldK encQ 2 w blk off m dk os) := hE.below (by rw [h0]; exact hb.trans (sort_below B blk off m w dk os hB hw))
  have h := Dr.calls_drawn (c_compare x.2 y.2 _ hE') (fun w' h => by cases h.1)
  refine h.mono ?_
  rintro e w' ⟨⟨rfl, hb⟩, hd⟩
  exact ⟨rfl, grown_of hb hd⟩
theorem holdsQ {W : World} {g : Nat} {qs : List Rat} (h : ∀ q ∈ qs, fits q = true) (hr : RowB W g qs) : HoldsK encQ 2 W g 0 (fitL qs h).toArray := by
  intro j hj
  have hj2 : j < qs.length * 2 := by simpa [size_flatK, fitL_len] using hj
  have hi : j / 2 < qs.length := by omega
  have hf := hr.fracs (j / 2) hi
  rw [get_flatK _ _ _ _ (by simpa [fitL_len] using hj2)]
  have e : (fitL qs h).toArray[j / 2]! = (fitL qs h)[j / 2]'(by rw [fitL_len]; exact hi) := by
    rw [getElem!_pos _ _ (by simpa [fitL_len] using hi)]; rfl
  rw [e]
  refine ⟨?_, hr.free _⟩
  have hv := fitL_get qs h (j / 2) hi
  unfold encQ
  rw [hv]
  rcases Nat.mod_two_eq_zero_or_one j with h2 | h2
  · rw [h2, show 0 + j = j / 2 * 2 by omega]; exact hf.1
  · rw [h2, show 0 + j = j / 2 * 2 + 1 by omega]; exact hf.2
theorem fracsQ {W : World} {g : Nat} {d : Array FitQ} {ss : List Rat} (h : HoldsK encQ 2 W g 0 d) (e : d.toList.map (·.1) = ss) : FracsAt W g ss := by
  intro i hi
  subst e
  have hd : i < d.size := by simpa using hi
  have h0 := (h.cell (i := i) (c := 0) hd (by decide)).1
  have h1 := (h.cell (i := i) (c := 1) hd (by decide)).1
  have e : d[i]! = d[i] := getElem!_pos d i hd
  rw [e] at h0 h1
  have e2 : (d.toList.map (·.1))[i] = d[i].1 := by simp
  rw [e2]
  exact ⟨by simpa [encQ] using h0, by simpa [encQ] using h1⟩
set_option maxHeartbeats 4000000 in
set_option maxRecDepth 100000 in
theorem clone_frac (qs : List Rat) (g C : Nat) (W : World) (h0 : 0 < qs.length) (h9 : qs.length ≤ 1000) (hf : FracsAt W g qs) :
    Calls Tryz.prog 189 #[.slice (some ⟨g, 0, none⟩) qs.length C] W fun e w' => ∃ g' C', e = .returned (.slice (some ⟨g', 0, none⟩) qs.length C') ∧ RowB w' g' qs ∧ W.heap.size ≤ g' ∧ g' < w'.heap.size ∧ Below W.heap.size W w' := by
  obtain ⟨i0, hi0, hz0, hz1, hz2⟩ := info_frac
  have h := AnyE.slices_Clone Tryz.cloneFrac i0 _ 2 32 hi0 hz0 hz1 hz2 rfl (by decide) Tryz.sizeOf24 g 0 qs.length C (fracCells qs) W (frac_len qs) (by unfold maxLen; omega) (by omega) (by
    intro j u hj
    have hl : j < (fracCells qs).length := (List.getElem?_eq_some_iff.1 hj).1
    rw [frac_len] at hl
    have hi : j / 2 < qs.length := by omega
    have hc := hf (j / 2) hi
    have hg := fracCells_get qs (j / 2) hi
    rcases Nat.mod_two_eq_zero_or_one j with h2 | h2
    · rw [show j / 2 * 2 = j by omega] at hc hg
      rw [hg.1] at hj
      cases hj
      rw [Nat.zero_add]
      exact hc.1
    · rw [show j / 2 * 2 + 1 = j by omega] at hc hg
      rw [hg.2] at hj
      cases hj
      rw [Nat.zero_add]
      exact hc.2) (frac_one qs)
  refine Calls.mono h ?_
  rintro e w' ⟨v, rfl, ho, _, hb⟩
  obtain ⟨g', C', rfl, hg, hr⟩ := OwnF.rowB (qs := qs) ho h0
  exact ⟨g', C', rfl, hr, hg, by obtain ⟨u, hu, _⟩ := hr; exact heap_lt hu, hb⟩
set_option maxHeartbeats 4000000 in
set_option maxRecDepth 100000 in
theorem sort_frac (qs : List Rat) (g C : Nat) (w0 W : World) (h9 : qs.length ≤ 1000) (hq : ∀ q ∈ qs, fits q = true) (hr : RowB W g qs) (hg : w0.heap.size ≤ g) (hb : Below w0.heap.size w0 W) (hE : EnvY w0) :
    Calls Tryz.prog 190 #[.slice (some ⟨g, 0, none⟩) qs.length C, .func (.func 184) #[] #[]] W fun e w' => e = .returned (.tuple #[]) ∧ FracsAt w' g (sortL qs) ∧ Below w0.heap.size w0 w' ∧ g < w'.heap.size := by
  have hgl : g < W.heap.size := by obtain ⟨u, hu, _⟩ := hr; exact heap_lt hu
  have hH := holdsQ hq hr
  have eg : ∀ args w, (callFunc 184 args).run Tryz.prog w = .ok (.enter 184 args) w := enters_of Tryz.func184 (by kernel_rfl) rfl
  have hn : (fitL qs hq).toArray.size = qs.length := by simp [fitL_len]
  have h := AnyQ.slices_SortFunc Tryz.sortFrac 2 Tryz.isAgg24 Tryz.sizeOf24 encQ (fun _ => rfl) (fun x v hv => by simp only [encQ, List.mem_cons, List.not_mem_nil, or_false] at hv; rcases hv with rfl | rfl <;> rfl) cfQ swoQ 184 #[] g 0 C (fitL qs hq).toArray W eg (cmpLaysQ w0.heap.size g 0 _ W hg hb.size w0 rfl hb hE) hH hgl (by rw [hn]; omega)
  rw [hn] at h
  refine Calls.mono h ?_
  rintro e w' ⟨rfl, d', n, os, hp, hs, rfl⟩
  rw [← hn] at hp hs
  have hs' := hp.1
  refine ⟨rfl, fracsQ (holdsK_sortWorldK_c encQ 2 W g 0 _ d' n os hH hgl hs') (sort_val qs hq d' hp hs), hb.trans (sort_below w0.heap.size g 0 n W d' os hg hb.size), ?_⟩
  exact Nat.lt_of_lt_of_le hgl (size_sortWorldK_c encQ 2 W g 0 n d' os)
set_option maxHeartbeats 4000000 in
set_option maxRecDepth 100000 in
theorem sorted_any (qs : List Rat) (g C : Nat) (W : World) (h0 : 0 < qs.length) (h9 : qs.length ≤ 1000) (hq : ∀ q ∈ qs, fits q = true) (hf : FracsAt W g qs) (hE : EnvY W) :
    Calls Tryz.prog 93 #[.slice (some ⟨g, 0, none⟩) qs.length C] W fun e w' => ∃ g' C', e = .returned (.slice (some ⟨g', 0, none⟩) qs.length C') ∧ FracsAt w' g' (sortL qs) ∧ W.heap.size ≤ g' ∧ g' < w'.heap.size ∧ Below W.heap.size W w' := by
  have TC := Lib.hid (clone_frac qs g C W h0 h9 hf)
  have TS := Lib.hid (fun (g : Nat) (C : Nat) (V : World) (hr : RowB V g qs) (hg : W.heap.size ≤ g) (hb : Below W.heap.size W V) => sort_frac qs g C W V h9 hq hr hg hb hE)
  obtain ⟨L, hL⟩ : ∃ L, qs.length = L := ⟨_, rfl⟩
  rw [hL] at TC TS ⊢
  clear h0 h9 hq hf hE hL
  go_enter Tryz.func93, Tryz.ntmps93
  go_wp2_with fail
  refine TC.out.mono ?_
  rintro e W1 ⟨g1, C1, rfl, hr, hg, _, hb⟩
  have HG := Lib.hid hg
  replace TS := Lib.hid (TS.out g1 C1 W1 hr hg hb)
  clear hr hg hb TC
  go_wp2_with fail
  refine TS.out.mono ?_
  rintro e W2 ⟨rfl, hf, hb, hl⟩
  have HF := Lib.hid hf
  have HB := Lib.hid hb
  have HL := Lib.hid hl
  clear hf hb hl TS
  go_wp2
  go_ret
  exact ⟨g1, C1, rfl, HF.out, HG.out, HL.out, HB.out⟩
end Go.Proofs.YtgponoogifeopaaGreatDoor.Num.Ft

/- package fstat: end, the least or the greatest of a row of fractions. Conditions: one to 1000 fractions that all fit; the tables lie as they are laid. -/
namespace Go.Proofs.YtgponoogifeopaaGreatDoor.Num.Ft
open Go.RowKit Go.Lib Num

/-- the best of the first k fractions: what compares to it as the side says takes its place -/
def endR (side : Int) (qs : List Rat) (k : Nat) : Rat := (qs.take k).foldl (fun b x => if cmpR x b = side then x else b) (qs.getD 0 0)
theorem endR_succ (side : Int) (qs : List Rat) (k : Nat) (h : k < qs.length) : endR side qs (k + 1) = if cmpR qs[k] (endR side qs k) = side then qs[k] else endR side qs k := by
  unfold endR
  rw [List.take_succ_eq_append_getElem h, List.foldl_append]
  rfl
theorem endR_mem (side : Int) (qs : List Rat) (h0 : 0 < qs.length) : ∀ k, k ≤ qs.length → endR side qs k ∈ qs
  | 0, _ => by
    unfold endR
    simp only [List.take_zero, List.foldl_nil]
    rw [List.getD_eq_getElem?_getD, List.getElem?_eq_getElem h0]
    exact List.getElem_mem h0
  | k + 1, h => by
    rw [endR_succ side qs k (by omega)]
    split
    · exact List.getElem_mem _
    · exact endR_mem side qs h0 k (by omega)
set_option linter.unusedSimpArgs false in
set_option maxHeartbeats 4000000 in
set_option maxRecDepth 100000 in
theorem end_any (side : Int) (qs : List Rat) (g cap : Nat) (w : World) (h0 : 0 < qs.length) (h9 : qs.length ≤ 1000) (hr : FracsAt w g qs) (hq : ∀ q ∈ qs, fits q = true) (hE : Env w) :
    Calls Tryz.prog 84 #[.slice (some ⟨g, 0, none⟩) qs.length cap, .int .i64 side] w fun e w' => e = .returned (fracV (endR side qs qs.length)) ∧ Below w.heap.size w w' := by
  have hgl : g < w.heap.size := cell_lt (hr 0 h0).1
  have hb : Below w.heap.size w (w.alloc (.cells #[.string { data := #[] }, .string { data := #[] }] 24)) := (Below.refl _ _).alloc (Nat.le_refl _) _
  have HR := Lib.hid (heap_alloc_new w (.cells #[.string { data := #[] }, .string { data := #[] }] 24))
  have HV := Lib.hid (hr.below hb)
  have HE := Lib.hid (hE.below hb)
  have HL := Lib.hid hb
  have HM := Lib.hid (fun k (h : k ≤ qs.length) => hq _ (endR_mem side qs h0 k h))
  have HQ := Lib.hid hq
  have H0 := Lib.hid h0
  have he : endR side qs 0 = qs[0] := by
    unfold endR
    simp only [List.take_zero, List.foldl_nil]
    rw [List.getD_eq_getElem?_getD, List.getElem?_eq_getElem h0]
    rfl
  obtain ⟨q0, hq0⟩ : ∃ q, qs[0] = q := ⟨_, rfl⟩
  rw [hq0] at he
  have HE0 := Lib.hid he
  have HS := Lib.hid (show ((w.alloc (.cells #[.string { data := #[] }, .string { data := #[] }] 24)).alloc (.cells #[.string (numS q0), .string (denS q0)] 24)).heap[w.heap.size + 1]? = some (.cells #[.string (numS q0), .string (denS q0)] 24 (0, 0)) from by
    have h := heap_alloc_new (w.alloc (.cells #[.string { data := #[] }, .string { data := #[] }] 24)) (.cells #[.string (numS q0), .string (denS q0)] 24)
    simp only [World.size_alloc] at h
    exact h)
  have hb2 : Below (w.alloc (.cells #[.string { data := #[] }, .string { data := #[] }] 24)).heap.size (w.alloc (.cells #[.string { data := #[] }, .string { data := #[] }] 24)) ((w.alloc (.cells #[.string { data := #[] }, .string { data := #[] }] 24)).alloc (.cells #[.string (numS q0), .string (denS q0)] 24)) := (Below.refl _ _).alloc (Nat.le_refl _) _
  have HPP := Lib.hid (show Past (w.heap.size + 1) from hE.past (Nat.le_succ _))
  have HI0 := Lib.hid (show TotI w g (w.heap.size + 1) w.heap.size qs (endR side qs 0) _ from ⟨HV.out.below hb2, by rw [HE0.out]; exact HS.out, keep_block HR.out hb2, HE.out.below hb2, HL.out.trans (hb2.mono HL.out.size)⟩)
  have hrow : (w.alloc (.cells #[.string { data := #[] }, .string { data := #[] }] 24)).cell? ⟨g, 0, none⟩ = some (.string (numS q0)) ∧ (w.alloc (.cells #[.string { data := #[] }, .string { data := #[] }] 24)).cell? ⟨g, 1, none⟩ = some (.string (denS q0)) := by
    have h := (hr.below hb) 0 h0
    rw [← hq0]
    exact h
  obtain ⟨d0, d1⟩ := hrow
  have NP := Lib.hid hgl
  obtain ⟨L, hL⟩ : ∃ L, qs.length = L := ⟨_, rfl⟩
  have HLL := Lib.hid hL
  have hl0 : ((L : Int) == 0) = false := by simp; omega
  have hl1 : (L == 0) = false := by simp; omega
  have hl2 : decide ((0 : Int) < (L : Int)) = true := decide_eq_true (by omega)
  have hl3 : decide (0 < L) = true := decide_eq_true (by omega)
  rw [hL] at h0 h9 ⊢
  have hl4 : (0 : Int) < (L : Int) := by omega
  clear hb hb2 hr hq hE hL he hq0 HR HV HE HS HL hgl
  rw [fracV_is (endR side qs L)]
  go_enter Tryz.func84, Tryz.ntmps84
  go_upto_region 4 with fail
  clear d0 d1
  obtain ⟨W1, hW1⟩ : ∃ Z, ((w.alloc (.cells #[.string { data := #[] }, .string { data := #[] }] 24)).alloc (.cells #[.string (numS q0), .string (denS q0)] 24)) = Z := ⟨_, rfl⟩
  rw [hW1] at HI0 ⊢
  obtain ⟨P, hPn⟩ : ∃ P, w.heap.size + 1 = P := ⟨_, rfl⟩
  have HPN := Lib.hid hPn
  rw [hPn] at HPP HI0 ⊢
  clear hW1 hl0 hl1 hl2 hl3 hl4 hPn
  go_wp2_with fail
  go_loopg [17] L (fun gh v17 wx => ∃ k : Nat, v17 = .int .i64 (k : Int) ∧ k ≤ L ∧ gh = L - k ∧ TotI w g P w.heap.size qs (endR side qs k) wx)
  case atStart => exact ⟨0, rfl, Nat.zero_le _, rfl, HI0.out⟩
  case round =>
    clear HI0
    obtain ⟨k, rfl, hk, rfl, hti⟩ := hrel
    have HTI := Lib.hid hti
    clear hti
    by_cases hlt : k < L
    · have hd : decide ((k : Int) < (L : Int)) = true := decide_eq_true (by omega)
      have hd2 : decide (k < L) = true := decide_eq_true hlt
      have hkq : k < qs.length := by rw [HLL.out]; exact hlt
      have hsn := endR_succ side qs k hkq
      obtain ⟨q, hqq⟩ : ∃ q, qs[k] = q := ⟨_, rfl⟩
      have hfq : fits q = true := by rw [← hqq]; exact HQ.out _ (List.getElem_mem hkq)
      rw [hqq] at hsn
      have TA := Lib.hid (c_compare hfq (HM.out k (by omega)))
      obtain ⟨sk, hsk⟩ : ∃ z, endR side qs k = z := ⟨_, rfl⟩
      rw [hsk] at TA HTI hsn
      have HSN := Lib.hid hsn
      have hrow := HTI.out.row k hkq
      rw [hqq] at hrow
      obtain ⟨c0, c1⟩ := hrow
      rw [fracV_is sk, fracV_is q] at TA
      have hi0 : (0 : Int) ≤ (k : Int) := by omega
      have hi1 : (k : Int) < (L : Int) := by omega
      clear hfq hsn hsk hkq hqq
      have HTIS := Lib.hid HTI.out.sum
      obtain ⟨⟨p0, p1⟩, pf0, pf1⟩ := two_at HTIS.out
      have hlp := heap_lt HTIS.out
      have HXX := Lib.hid (heap_alloc_new wr (.cells #[.string (numS q), .string (denS q)] 24))
      have HTA := Lib.hid (HTI.out.step ((Below.refl wr.heap.size wr).alloc (Nat.le_refl _) (.cells #[.string (numS q), .string (denS q)] 24)))
      go_wp2_with fail
      refine (TA.out _ HTA.out.env).mono ?_
      rintro e w2 ⟨rfl, hb⟩
      have HT2 := Lib.hid (HTA.out.step hb)
      replace HXX := Lib.hid (keep_block HXX.out hb)
      clear hb p0 p1 pf0 pf1 c0 c1 hlp HTIS
      by_cases hc : cmpR q sk = side
      · have hc2 : (cmpR q sk == side) = true := by rw [hc]; simp
        rw [if_pos hc] at HSN
        have HT3 := Lib.hid (HT2.out.set (t := q) (by have := NP.out; have := HPN.out; omega) (by have := HPN.out; omega) (by have := HPN.out; omega) HPP.out)
        have HTIS2 := Lib.hid HT2.out.sum
        obtain ⟨⟨p0, p1⟩, pf0, pf1⟩ := two_at HTIS2.out
        obtain ⟨⟨x0, x1⟩, xf0, xf1⟩ := two_at HXX.out
        clear hc
        go_wp2
        go_roundg (L - (k + 1))
        case measure => omega
        case rel => exact ⟨k + 1, by go_num, by omega, by omega, by rw [HSN.out]; exact HT3.out⟩
      · have hc2 : (cmpR q sk == side) = false := by simpa using hc
        rw [if_neg hc] at HSN
        clear hc
        go_wp2
        go_roundg (L - (k + 1))
        case measure => omega
        case rel => exact ⟨k + 1, by go_num, by omega, by omega, by rw [HSN.out]; exact HT2.out⟩
    · have hd : decide ((k : Int) < (L : Int)) = false := decide_eq_false (by omega)
      have hd2 : decide (k < L) = false := decide_eq_false hlt
      have hkL : k = L := by omega
      subst hkL
      clear hlt
      have HTIS := Lib.hid HTI.out.sum
      obtain ⟨⟨p0, p1⟩, pf0, pf1⟩ := two_at HTIS.out
      have HRR := Lib.hid HTI.out.res
      obtain ⟨⟨r0, r1⟩, rf0, rf1⟩ := two_at HRR.out
      obtain ⟨nb, e0, e1⟩ := frac_end (x := .string (numS (endR side qs k))) (y := .string (denS (endR side qs k))) HRR.out HTI.out.low (Nat.le_refl _)
      go_wp2
      refine bodyPost_ret (v := .agg #[.string (numS (endR side qs k)), .string (denS (endR side qs k))]) (by simp [results, Tryz.results84, go_sem, e0, e1]) rfl ⟨rfl, nb⟩
end Go.Proofs.YtgponoogifeopaaGreatDoor.Num.Ft

/- package fstat: what stands while a function reads its arguments, one of them an array of numbers. Conditions: the tables lie as they are laid. -/
namespace Go.Proofs.YtgponoogifeopaaGreatDoor.Num.Ft
open Go.RowKit Go.Lib Num

/-- the arguments (block b), their values (block g), the array's numbers (block gi), the result's block -/
structure ArgI (w0 : World) (b g C : Nat) (vs : List Val) (gi : Nat) (qs : List Rat) (i : Nat) (W : World) : Prop where
  args : ArgsAt W b (some ⟨g, 0, none⟩) vs.length C i
  vals : ValsAt W g 0 vs
  arr : ValsAt W gi 0 (numVals qs)
  res : W.heap[w0.heap.size]? = some (.cells #[.string { data := #[] }, .string { data := #[] }] 24 (0, 0))
  env : Env W
  low : w0.grownBy W (some b)
  gb : g ≠ b
  gib : gi ≠ b
  gl : g < w0.heap.size
  gil : gi < w0.heap.size
  bl : b < w0.heap.size
  past : Past b
  len : vs.length ≤ 300
  pos : 0 < qs.length
  q9 : qs.length ≤ 1000
theorem ArgI.start {w : World} {b g C gi : Nat} {vs : List Val} {qs : List Rat} (ha : ArgsAt w b (some ⟨g, 0, none⟩) vs.length C 0) (hv : ValsAt w g 0 vs) (h0 : 0 < vs.length) (hav : ValsAt w gi 0 (numVals qs)) (hq : 0 < qs.length) (h9 : qs.length ≤ 1000) (hl : vs.length ≤ 300) (hne : g ≠ b) (hgi : gi ≠ b) (hE : Env w) (hP : Past b) :
    ArgI w b g C vs gi qs 0 (w.alloc (.cells #[.string { data := #[] }, .string { data := #[] }] 24)) :=
  have hb : Below w.heap.size w (w.alloc (.cells #[.string { data := #[] }, .string { data := #[] }] 24)) := (Below.refl _ _).alloc (Nat.le_refl _) _
  ⟨keep_block ha hb, hv.below hb, hav.below hb, heap_alloc_new w _, hE.below hb, kept_below hb, hne, hgi, cell_lt (hv.at 0 h0).1, cell_lt (hav.at 0 (by rw [numVals_len]; exact hq)).1, heap_lt ha, hP, hl, hq, h9⟩
section
variable {w0 W W' : World} {b g C gi i : Nat} {vs : List Val} {qs : List Rat}
theorem ArgI.step (h : ArgI w0 b g C vs gi qs i W) (hb : Below W.heap.size W W') : ArgI w0 b g C vs gi qs i W' :=
  ⟨keep_block h.args hb, h.vals.below hb, h.arr.below hb, keep_block h.res hb, h.env.below hb, kept_trans h.low (kept_below hb), h.gb, h.gib, h.gl, h.gil, h.bl, h.past, h.len, h.pos, h.q9⟩
theorem ArgI.grow {i' : Nat} (h : ArgI w0 b g C vs gi qs i W) (ha : ArgsAt W' b (some ⟨g, 0, none⟩) vs.length C i') (hg : W.grownBy W' (some b)) : ArgI w0 b g C vs gi qs i' W' :=
  ⟨ha, vals_kept h.vals hg h.gb (Nat.lt_of_lt_of_le h.gl h.low.size), vals_kept h.arr hg h.gib (Nat.lt_of_lt_of_le h.gil h.low.size), kept_block h.res hg (Nat.ne_of_gt h.bl), h.env.kept hg h.past, kept_trans h.low hg, h.gb, h.gib, h.gl, h.gil, h.bl, h.past, h.len, h.pos, h.q9⟩
theorem RowB.kept {gF : Nat} {xs : List Rat} (h : RowB W gF xs) (hg : W.grownBy W' (some b)) (hne : gF ≠ b) : RowB W' gF xs := by
  obtain ⟨cur, hh, hc⟩ := h
  exact ⟨cur, kept_block hh hg hne, hc⟩
/-- the next argument is the array -/
theorem ArgI.value (r s : Int) (Ci : Nat) (h : ArgI w0 b g C vs gi qs i W) (hi : i < vs.length) (hv : vs[i] = arrVal' r s gi qs.length Ci) :
    Calls Tryz.prog 102 #[.pointer (some ⟨b, 0, none⟩)] W fun e w' => e = .returned (.agg #[.int .i64 5, .string { data := #[] }, .string { data := #[] }, .string { data := #[] }, .bool false, .int .i64 0, .int .i64 r, .int .i64 s, .slice (some ⟨gi, 0, none⟩) qs.length Ci]) ∧ ArgI w0 b g C vs gi qs (i + 1) w' := by
  have hc := h.vals.at i hi
  rw [hv] at hc
  refine (value_any b g 0 vs.length C i _ _ _ _ _ _ _ _ _ _ _ W h.args hi (by have := h.len; omega) h.gb hc).mono ?_
  rintro e w' ⟨rfl, ha, hg⟩
  exact ⟨rfl, h.grow ha hg⟩
theorem ArgI.inside (r s : Int) (Ci : Nat) (h : ArgI w0 b g C vs gi qs i W) :
    Calls Tryz.prog 101 #[.agg #[.int .i64 5, .string { data := #[] }, .string { data := #[] }, .string { data := #[] }, .bool false, .int .i64 0, .int .i64 r, .int .i64 s, .slice (some ⟨gi, 0, none⟩) qs.length Ci]] W fun e w' => ∃ gF cap, e = .returned (.slice (some ⟨gF, 0, none⟩) qs.length cap) ∧ RowB w' gF qs ∧ w0.heap.size < gF ∧ gF ≠ b ∧ ArgI w0 b g C vs gi qs i w' := by
  refine (inside_arr qs r s gi Ci W h.q9 h.pos h.arr h.env).mono ?_
  rintro e w' ⟨v, rfl, ho, _, hb⟩
  obtain ⟨gF, cap, rfl, hgF, hr⟩ := ho.rowB h.pos
  have h1 := heap_lt h.res
  have h2 := h.bl
  exact ⟨gF, cap, rfl, hr, by omega, by omega, h.step hb⟩
/-- the next argument is a number -/
theorem ArgI.num (q : Rat) (h : ArgI w0 b g C vs gi qs i W) (hi : i < vs.length) (hv : vs[i] = numVal' q) (hq : fits q = true) :
    Calls Tryz.prog 42 #[.pointer (some ⟨b, 0, none⟩)] W fun e w' => e = .returned (fracV q) ∧ ArgI w0 b g C vs gi qs (i + 1) w' ∧ W.grownBy w' (some b) := by
  have hc := h.vals.at i hi
  rw [hv] at hc
  refine (argNum_any b g 0 vs.length C i q W h.args hi (by have := h.len; omega) h.gb hc hq h.env h.past).mono ?_
  rintro e w' ⟨rfl, ha, hg⟩
  exact ⟨rfl, h.grow ha hg, hg⟩
theorem ArgI.whole (n : Int) (h : ArgI w0 b g C vs gi qs i W) (hi : i < vs.length) (hv : vs[i] = numVal' ((n : Int) : Rat)) (hn : n.natAbs ≤ 1000000) :
    Calls Tryz.prog 158 #[.pointer (some ⟨b, 0, none⟩)] W fun e w' => e = .returned (.int .i64 n) ∧ ArgI w0 b g C vs gi qs (i + 1) w' ∧ W.grownBy w' (some b) := by
  have hc := h.vals.at i hi
  rw [hv] at hc
  have hf : (((n : Int) : Rat)).floor = n := Rat.floor_intCast _
  refine (argWhole_any b g 0 vs.length C i ((n : Int) : Rat) W h.args hi (by have := h.len; omega) h.gb hc (fits_int n (by omega)) (by rw [hf]; omega) (by rw [hf]; omega) h.env h.past).mono ?_
  rintro e w' ⟨rfl, ha, hg⟩
  exact ⟨by rw [hf], h.grow ha hg, hg⟩
end
end Go.Proofs.YtgponoogifeopaaGreatDoor.Num.Ft

/- Boolean values: Check, Bool, ToBool, Args.Flag. Conditions: the tables lie as they are laid. -/
namespace Go.Proofs.YtgponoogifeopaaGreatDoor.Num
open Go.RowKit Go.Lib

end Go.Proofs.YtgponoogifeopaaGreatDoor.Num

/- package fstat: nth (LARGE, SMALL): the k-th number of an array in order. Conditions: one to 1000 fractions that all fit; 1 <= k <= their number; the tables lie as they are laid. -/
namespace Go.Proofs.YtgponoogifeopaaGreatDoor.Num.Ft
open Go.RowKit Go.Lib Num

set_option linter.unusedSimpArgs false in
set_option linter.unusedVariables false in
set_option maxHeartbeats 8000000 in
set_option maxRecDepth 100000 in
theorem nth_any (large : Bool) (k m : Nat) (qs : List Rat) (r s : Int) (gi Ci b g C : Nat) (w : World) (hk : 1 ≤ k) (hkL : k ≤ qs.length) (hm : m + 1 = if large = true then qs.length + 1 - k else k) (hq : ∀ q ∈ qs, fits q = true) (h9 : qs.length ≤ 1000) (ha : ArgsAt w b (some ⟨g, 0, none⟩) 2 C 0) (hv : ValsAt w g 0 [arrVal' r s gi qs.length Ci, numVal' ((k : Int) : Rat)]) (hav : ValsAt w gi 0 (numVals qs)) (hne : g ≠ b) (hgi : gi ≠ b) (hE : Env w) (hP : Past b) :
    Calls Tryz.prog 96 #[.pointer (some ⟨b, 0, none⟩), .bool large] w fun e w' => e = .returned (fracV ((sortL qs).getD m 0)) ∧ w.grownBy w' (some b) := by
  have hmL : m < qs.length := by
    split at hm <;> omega
  have h0 : 0 < qs.length := by omega
  have HI := Lib.hid (ArgI.start (vs := [arrVal' r s gi qs.length Ci, numVal' ((k : Int) : Rat)]) ha hv (show 0 < 2 by decide) hav h0 h9 (show 2 ≤ 300 by decide) hne hgi hE hP)
  have HQ := Lib.hid hq
  have HNE := Lib.hid (Nat.ne_of_gt (heap_lt ha))
  have hval : (sortL qs).getD m 0 = (sortL qs)[m]'(by rw [sortL_len]; exact hmL) := by
    rw [List.getD_eq_getElem?_getD, List.getElem?_eq_getElem (by rw [sortL_len]; exact hmL)]; rfl
  obtain ⟨x, hx⟩ : ∃ x, (sortL qs).getD m 0 = x := ⟨_, rfl⟩
  have HX := Lib.hid (hval.symm.trans hx)
  rw [hx]
  obtain ⟨L, hL⟩ : ∃ L, qs.length = L := ⟨_, rfl⟩
  have HLL := Lib.hid hL
  rw [hL] at hkL hm hmL h0 h9
  have hk1 : decide ((k : Int) < 1) = false := decide_eq_false (by omega)
  have hk2 : decide ((L : Int) < (k : Int)) = false := decide_eq_false (by omega)
  have hk3 : decide ((k : Int) > (L : Int)) = false := decide_eq_false (by omega)
  have hk4 : decide (L < k) = false := decide_eq_false (by omega)
  have hk5 : decide (k < 1) = false := decide_eq_false (by omega)
  have hw1 : IntKind.i64.wrap ((L : Int) + 1) = (L : Int) + 1 := IntWalk.i64_in _ (by omega)
  have hw2 : IntKind.i64.wrap ((L : Int) + 1 - (k : Int)) = (L : Int) + 1 - (k : Int) := IntWalk.i64_in _ (by omega)
  have hm0 : (0 : Int) ≤ (m : Int) := by omega
  have hm1 : (m : Int) < (L : Int) := by omega
  have hx' := hx
  clear ha hv hav hne hgi hE hP hq hval hx hx' hL
  rw [fracV_is x]
  go_enter Tryz.func96, Tryz.ntmps96
  go_wp2_with fail
  refine (HI.out.value r s Ci (show 0 < 2 by decide) rfl).mono ?_
  rintro e w1 ⟨rfl, hI⟩
  replace HI := Lib.hid hI
  clear hI
  go_wp2_with fail
  refine (HI.out.inside r s Ci).mono ?_
  rintro e w2 ⟨gF, cF, rfl, hr, hgF, hgb, hI⟩
  replace HI := Lib.hid hI
  have HR := Lib.hid hr
  have HGB := Lib.hid hgb
  clear hI hr hgF hgb
  rw [HLL.out]
  go_wp2_with fail
  refine (HI.out.whole (k : Int) (show 1 < 2 by decide) rfl (by omega)).mono ?_
  rintro e w3 ⟨rfl, hI, hg⟩
  replace HI := Lib.hid hI
  replace HR := Lib.hid (RowB.kept HR.out hg HGB.out)
  clear hI hg
  go_wp2_with fail
  refine (stop_no 5 _).mono ?_
  rintro e w4 ⟨rfl, hws⟩
  replace hws := hws.symm
  subst hws
  have TS := Lib.hid (sorted_any qs gF cF w3 (by rw [HLL.out]; exact h0) (by rw [HLL.out]; exact h9) HQ.out HR.out.fracs HI.out.env)
  rw [HLL.out] at TS
  have hwm : IntKind.i64.wrap ((if large = true then (L : Int) + 1 - (k : Int) else (k : Int)) - 1) = (m : Int) := by
    rw [IntWalk.i64_in _ (by split <;> omega)]
    split at hm <;> simp_all <;> omega
  cases large with
  | true =>
    simp only [if_true] at hwm
    go_wp2_with fail
    refine TS.out.mono ?_
    rintro e w5 ⟨g5, C5, rfl, hf, hg5, _, hb⟩
    have hrow := hf m (by rw [sortL_len, HLL.out]; exact hmL)
    rw [HX.out] at hrow
    obtain ⟨c0, c1⟩ := hrow
    replace HI := Lib.hid (HI.out.step hb)
    clear hf hg5 hb
    have HRR := Lib.hid HI.out.res
    obtain ⟨⟨r0, r1⟩, rf0, rf1⟩ := two_at HRR.out
    have HFI := Lib.hid (set2_at HRR.out (.string (numS x)) (.string (denS x)))
    have HG2 := Lib.hid (kept2 HI.out.low (Nat.le_refl _) (.string (numS x)) (.string (denS x)))
    obtain ⟨⟨z0, z1⟩, _⟩ := two_at HFI.out
    go_wp2
    refine bodyPost_ret (v := .agg #[.string (numS x), .string (denS x)]) (by simp [results, Tryz.results96, go_sem, z0, z1]) rfl ⟨rfl, HG2.out⟩
  | false =>
    simp only [Bool.false_eq_true, if_false] at hwm
    go_wp2_with fail
    refine TS.out.mono ?_
    rintro e w5 ⟨g5, C5, rfl, hf, hg5, _, hb⟩
    have hrow := hf m (by rw [sortL_len, HLL.out]; exact hmL)
    rw [HX.out] at hrow
    obtain ⟨c0, c1⟩ := hrow
    replace HI := Lib.hid (HI.out.step hb)
    clear hf hg5 hb
    have HRR := Lib.hid HI.out.res
    obtain ⟨⟨r0, r1⟩, rf0, rf1⟩ := two_at HRR.out
    have HFI := Lib.hid (set2_at HRR.out (.string (numS x)) (.string (denS x)))
    have HG2 := Lib.hid (kept2 HI.out.low (Nat.le_refl _) (.string (numS x)) (.string (denS x)))
    obtain ⟨⟨z0, z1⟩, _⟩ := two_at HFI.out
    go_wp2
    refine bodyPost_ret (v := .agg #[.string (numS x), .string (denS x)]) (by simp [results, Tryz.results96, go_sem, z0, z1]) rfl ⟨rfl, HG2.out⟩
end Go.Proofs.YtgponoogifeopaaGreatDoor.Num.Ft

/- package fstat: rank (RANK): how many numbers of an array are greater, and one. Conditions: one to 1000 fractions that all fit; the number is one of them; no third argument; the tables lie as they are laid. -/
namespace Go.Proofs.YtgponoogifeopaaGreatDoor.Num.Ft
open Go.RowKit Go.Lib Go.Shelf Num

def encR (q : Rat) : List Value := [.string (numS q), .string (denS q)]
def eqR (x y : Rat) : Bool := (numS x).toList == (numS y).toList && (denS x).toList == (denS y).toList
theorem eqAtR : EqlAt Tryz.prog 24 (fun x => .agg (encR x).toArray) eqR := by
  refine ⟨fun x y w => ?_, GuardAt.agg _ (by kernel_rfl)⟩
  have u9 := Tryz.underlying9
  have a9 := Tryz.isAgg9
  have z9 := Tryz.sizeOf9
  have hS : Tryz.prog.underlying 24 = some (.struct (Tryz.prog.fieldsOf 24)) := by kernel_rfl
  have hp : Tryz.prog.stoodInHeld 24 = false := by kernel_rfl
  simp only [encR, eqR]
  rw [run_eql_struct, show (10000 : Nat) = 9999 + 1 from rfl, run_equalIn_agg w 9999 24 _ _ hS hp]
  simp only [Program.fieldsOf, Tryz.underlying24]
  go_simp
  by_cases h1 : (numS x).toList = (numS y).toList <;> by_cases h2 : (denS x).toList = (denS y).toList <;> simp [h1, h2]
theorem contains_frac (qs : List Rat) (x : Rat) (g C : Nat) (w : World) (h9 : qs.length ≤ 1000) (hf : FracsAt w g qs) (hx : x ∈ qs) :
    Calls Tryz.prog 195 #[.slice (some ⟨g, 0, none⟩) qs.length C, .agg #[.string (numS x), .string (denS x)]] w fun e w' => e = .returned (.bool true) ∧ Below w.heap.size w w' := by
  have h := AnyQ.slices_Contains Tryz.containsFrac 2 Tryz.isAgg24 Tryz.sizeOf24 encR (fun _ => rfl) eqR eqAtR g 0 qs.length C qs x w (Nat.le_refl _) (by omega) (by
    intro j hj i v hv
    rw [getElem!_pos qs j hj] at hv
    have hc := hf j hj
    match i, hv with
    | 0, hv => cases hv; simpa using hc.1
    | 1, hv => cases hv; simpa using hc.2
    | i + 2, hv => simp [encR] at hv)
  refine Calls.mono h ?_
  rintro e w' ⟨rfl, hb⟩
  refine ⟨?_, hb⟩
  have : ((qs.take qs.length).any fun y => eqR x y) = true := by
    rw [List.take_length, List.any_eq_true]
    exact ⟨x, hx, by simp [eqR]⟩
  rw [this]
set_option maxHeartbeats 4000000 in
set_option maxRecDepth 100000 in
/-- no argument is left: the flag stays -/
theorem argFlag_none (b L C : Nat) (A : Option Addr) (o0 : Bool) (w : World) (h : ArgsAt w b A L C L) (hL : L ≤ 1000000000) :
    Calls Tryz.prog 194 #[.pointer (some ⟨b, 0, none⟩), .bool o0] w fun e w' => e = .returned (.bool o0) ∧ Below w.heap.size w w' := by
  have TM := Lib.hid (fun W g => more_any b A L C L W g hL)
  rw [decide_eq_false (Nat.lt_irrefl L)] at TM
  have HA := Lib.hid h
  clear h hL
  go_enter Tryz.func194, Tryz.ntmps194
  go_wp2_with fail
  refine (TM.out _ HA.out).mono ?_
  rintro e W0 ⟨rfl, hb⟩
  have HB := Lib.hid hb
  clear hb
  go_wp2
  go_ret
  exact ⟨rfl, HB.out⟩
/-- how many of the first k are greater than x -/
def overN (x : Rat) (qs : List Rat) (k : Nat) : Nat := ((qs.take k).filter fun y => decide (cmpR y x = 1)).length
theorem overN_succ (x : Rat) (qs : List Rat) (k : Nat) (h : k < qs.length) : overN x qs (k + 1) = overN x qs k + if cmpR qs[k] x = 1 then 1 else 0 := by
  unfold overN
  rw [List.take_succ_eq_append_getElem h, List.filter_append, List.length_append]
  by_cases g : cmpR qs[k] x = 1 <;> simp [g]
theorem overN_le (x : Rat) (qs : List Rat) (k : Nat) : overN x qs k ≤ k := Nat.le_trans (List.length_filter_le _ _) (by simp; omega)
/-- what stays in rank's loop -/
structure RkI (w0 : World) (b g C : Nat) (vs : List Val) (gi : Nat) (qs : List Rat) (i : Nat) (gF X : Nat) (x : Rat) (W : World) : Prop where
  arg : ArgI w0 b g C vs gi qs i W
  row : RowB W gF qs
  num : W.heap[X]? = some (.cells #[.string (numS x), .string (denS x)] 24 (0, 0))
theorem RkI.step {w0 W W' : World} {b g C gi i gF X : Nat} {vs : List Val} {qs : List Rat} {x : Rat} (h : RkI w0 b g C vs gi qs i gF X x W) (hb : Below W.heap.size W W') : RkI w0 b g C vs gi qs i gF X x W' :=
  ⟨h.arg.step hb, h.row.below hb, keep_block h.num hb⟩
set_option linter.unusedSimpArgs false in
set_option linter.unusedVariables false in
set_option maxHeartbeats 8000000 in
set_option maxRecDepth 100000 in
theorem rank_any (x : Rat) (qs : List Rat) (r s : Int) (gi Ci b g C : Nat) (w : World) (hx : x ∈ qs) (hq : ∀ q ∈ qs, fits q = true) (h9 : qs.length ≤ 1000) (ha : ArgsAt w b (some ⟨g, 0, none⟩) 2 C 0) (hv : ValsAt w g 0 [numVal' x, arrVal' r s gi qs.length Ci]) (hav : ValsAt w gi 0 (numVals qs)) (hne : g ≠ b) (hgi : gi ≠ b) (hE : Env w) (hP : Past b) :
    Calls Tryz.prog 98 #[.pointer (some ⟨b, 0, none⟩)] w fun e w' => e = .returned (fracV (((1 + overN x qs qs.length : Nat) : Int) : Rat)) ∧ w.grownBy w' (some b) := by
  have h0 : 0 < qs.length := List.length_pos_of_mem hx
  have HI := Lib.hid (ArgI.start (vs := [numVal' x, arrVal' r s gi qs.length Ci]) ha hv (show 0 < 2 by decide) hav h0 h9 (show 2 ≤ 300 by decide) hne hgi hE hP)
  have HQ := Lib.hid hq
  have HXM := Lib.hid hx
  have hfx := hq x hx
  obtain ⟨L, hL⟩ : ∃ L, qs.length = L := ⟨_, rfl⟩
  have HLL := Lib.hid hL
  have HON := Lib.hid (overN_le x qs qs.length)
  have TO := Lib.hid (c_of (n := ((1 + overN x qs qs.length : Nat) : Int)) (by have := overN_le x qs qs.length; omega))
  obtain ⟨z, hz⟩ : ∃ z : Rat, (((1 + overN x qs qs.length : Nat) : Int) : Rat) = z := ⟨_, rfl⟩
  rw [hz, fracV_is z] at TO
  rw [hz, fracV_is z]
  rw [hL] at TO h0 h9 HON
  clear ha hv hav hne hgi hE hP hq hx hz hL
  go_enter Tryz.func98, Tryz.ntmps98
  go_wp2_with fail
  refine (HI.out.num x (show 0 < 2 by decide) rfl hfx).mono ?_
  rintro e w1 ⟨rfl, hI, _⟩
  rw [fracV_is x]
  replace HI := Lib.hid hI
  clear hI
  go_wp2_with fail
  refine (HI.out.value r s Ci (show 1 < 2 by decide) rfl).mono ?_
  rintro e w2 ⟨rfl, hI⟩
  replace HI := Lib.hid hI
  clear hI
  go_wp2_with fail
  refine (HI.out.inside r s Ci).mono ?_
  rintro e w3 ⟨gF, cF, rfl, hr, hgF, hgb, hI⟩
  have HXB := Lib.hid (heap_alloc_new w3 (.cells #[.string (numS x), .string (denS x)] 24))
  have hb3 : Below w3.heap.size w3 (w3.alloc (.cells #[.string (numS x), .string (denS x)] 24)) := (Below.refl _ _).alloc (Nat.le_refl _) _
  have HJ := Lib.hid (show RkI w b g C [numVal' x, arrVal' r s gi qs.length Ci] gi qs 2 gF w3.heap.size x _ from ⟨hI.step hb3, hr.below hb3, HXB.out⟩)
  obtain ⟨X, hX⟩ : ∃ X, w3.heap.size = X := ⟨_, rfl⟩
  obtain ⟨w4, hw4⟩ : ∃ Z, w3.alloc (.cells #[.string (numS x), .string (denS x)] 24) = Z := ⟨_, rfl⟩
  have HW4 := Lib.hid hw4
  have HXX := Lib.hid hX
  rw [hw4, hX] at HJ
  clear hI hr hgF hgb HI HXB hb3 hw4 hX
  go_wp2_with fail
  rw [HW4.out, HXX.out]
  refine (argFlag_none b 2 C (some ⟨g, 0, none⟩) false w4 HJ.out.arg.args (by decide)).mono ?_
  rintro e w5 ⟨rfl, hb⟩
  replace HJ := Lib.hid (HJ.out.step hb)
  clear hb
  go_wp2_with fail
  refine (some_any _ _ _ _ (by rw [HLL.out]; exact h0)).mono ?_
  rintro e w6 ⟨rfl, hws⟩
  replace hws := hws.symm
  subst hws
  have HXN := Lib.hid HJ.out.num
  obtain ⟨⟨p0, p1⟩, pf0, pf1⟩ := two_at HXN.out
  go_wp2_with fail
  refine (contains_frac qs x gF cF _ (by rw [HLL.out]; exact h9) HJ.out.row.fracs HXM.out).mono ?_
  rintro e w7 ⟨rfl, hb⟩
  replace HJ := Lib.hid (HJ.out.step hb)
  clear hb p0 p1 pf0 pf1
  go_wp2_with fail
  refine (stop_no 6 _).mono ?_
  rintro e w8 ⟨rfl, hws⟩
  replace hws := hws.symm
  subst hws
  rw [HLL.out]
  go_wp2_with fail
  go_loopg [25, 6] L (fun gh v25 v6 wx => ∃ k : Nat, v25 = .int .i64 (k : Int) ∧ v6 = .int .i64 ((1 + overN x qs k : Nat) : Int) ∧ k ≤ L ∧ gh = L - k ∧ RkI w b g C [numVal' x, arrVal' r s gi qs.length Ci] gi qs 2 gF X x wx)
  case atStart => exact ⟨0, rfl, rfl, Nat.zero_le _, rfl, HJ.out⟩
  case round =>
    clear HJ
    obtain ⟨k, rfl, rfl, hk, rfl, hj⟩ := hrel
    have HJ := Lib.hid hj
    clear hj
    by_cases hlt : k < L
    · have hd : decide ((k : Int) < (L : Int)) = true := decide_eq_true (by omega)
      have hd2 : decide (k < L) = true := decide_eq_true hlt
      have hkq : k < qs.length := by rw [HLL.out]; exact hlt
      have hsn := overN_succ x qs k hkq
      have hol := overN_le x qs k
      obtain ⟨q, hqq⟩ : ∃ q, qs[k] = q := ⟨_, rfl⟩
      have hfq : fits q = true := by rw [← hqq]; exact HQ.out _ (List.getElem_mem hkq)
      rw [hqq] at hsn
      have TA := Lib.hid (c_compare hfq hfx)
      obtain ⟨ok, hok⟩ : ∃ o, overN x qs k = o := ⟨_, rfl⟩
      rw [hok] at hsn hol
      rw [hok]
      have HSN := Lib.hid hsn
      have hrow := HJ.out.row.fracs k hkq
      rw [hqq] at hrow
      obtain ⟨c0, c1⟩ := hrow
      rw [fracV_is x, fracV_is q] at TA
      have hi0 : (0 : Int) ≤ (k : Int) := by omega
      have hi1 : (k : Int) < (L : Int) := by omega
      have hwk : IntKind.i64.wrap ((k : Int) + 1) = (k : Int) + 1 := IntWalk.i64_in _ (by omega)
      have hwo : IntKind.i64.wrap (((1 + ok : Nat) : Int) + 1) = ((1 + (ok + 1) : Nat) : Int) := by rw [IntWalk.i64_in _ (by omega)]; omega
      clear hfq hsn hok hkq hqq
      have HXN := Lib.hid HJ.out.num
      obtain ⟨⟨p0, p1⟩, pf0, pf1⟩ := two_at HXN.out
      have hlp := heap_lt HXN.out
      have HTA := Lib.hid (HJ.out.step ((Below.refl wr.heap.size wr).alloc (Nat.le_refl _) (.cells #[.string (numS q), .string (denS q)] 24)))
      generalize hoi : ((1 + ok : Nat) : Int) = oi at hwo ⊢
      have HOI := Lib.hid hoi
      clear hoi
      go_wp2_with fail
      refine (TA.out _ HTA.out.arg.env).mono ?_
      rintro e w9 ⟨rfl, hb⟩
      have HT2 := Lib.hid (HTA.out.step hb)
      clear hb p0 p1 pf0 pf1 c0 c1 hlp
      by_cases hc : cmpR q x = 1
      · have hc2 : (cmpR q x == 1) = true := by rw [hc]; rfl
        rw [if_pos hc] at HSN
        clear hc
        go_wp2
        go_roundg (L - (k + 1))
        case measure => omega
        case rel => exact ⟨k + 1, by go_num, by rw [HSN.out]; congr 1 <;> omega, by omega, by omega, HT2.out⟩
      · have hc2 : (cmpR q x == 1) = false := by simpa using hc
        rw [if_neg hc] at HSN
        clear hc
        go_wp2
        go_roundg (L - (k + 1))
        case measure => omega
        case rel => exact ⟨k + 1, by go_num, by rw [HSN.out]; congr 1 <;> (have := HOI.out; omega), by omega, by omega, HT2.out⟩
    · have hd : decide ((k : Int) < (L : Int)) = false := decide_eq_false (by omega)
      have hd2 : decide (k < L) = false := decide_eq_false hlt
      have hkL : L = k := by omega
      subst hkL
      clear hlt
      go_wp2_with fail
      refine (TO.out _ HJ.out.arg.env).mono ?_
      rintro e w9 ⟨rfl, hb⟩
      replace HJ := Lib.hid (HJ.out.step hb)
      clear hb
      have HRR := Lib.hid HJ.out.arg.res
      obtain ⟨⟨r0, r1⟩, rf0, rf1⟩ := two_at HRR.out
      have HFI := Lib.hid (set2_at HRR.out (.string (numS z)) (.string (denS z)))
      have HG2 := Lib.hid (kept2 HJ.out.arg.low (Nat.le_refl _) (.string (numS z)) (.string (denS z)))
      obtain ⟨⟨z0, z1⟩, _⟩ := two_at HFI.out
      go_wp2
      refine bodyPost_ret (v := .agg #[.string (numS z), .string (denS z)]) (by simp [results, Tryz.results98, go_sem, z0, z1]) rfl ⟨rfl, HG2.out⟩
end Go.Proofs.YtgponoogifeopaaGreatDoor.Num.Ft
