/- Numbers as texts of digits, fractions, values and the functions of fmath: contracts of the program's functions, joined from smaller texts. Conditions stand at each theorem. -/
import Derived.Test.YtkghpiaoggljjaaGreatDoorNumF
import Derived.Deep.RegionWith
import Derived.Deep.AppendLies

/- package fmath: abs, signed, toward, MOD, QUOTIENT where nothing is too long. Conditions: the tables lie as they are laid. -/
namespace Go.Proofs.YtkghpiaoggljjaaGreatDoor.Num
open Go.RowKit Go.Lib

end Go.Proofs.YtkghpiaoggljjaaGreatDoor.Num

/- package fmath: MOD and QUOTIENT at two numbers. Conditions: nothing is too long; the tables lie as they are laid. -/
namespace Go.Proofs.YtkghpiaoggljjaaGreatDoor.Num
open Go.RowKit Go.Lib

theorem kept2 {w W : World} {b R : Nat} (h : w.grownBy W (some b)) (hge : w.heap.size ≤ R) (x y : Value) : w.grownBy ((W.setCell ⟨R, 0, none⟩ x).setCell ⟨R, 1, none⟩ y) (some b) :=
  only_setCell (p := ⟨R, 1, none⟩) (only_setCell (p := ⟨R, 0, none⟩) h (.inr hge) x) (.inr hge) y
theorem NumCells.below {w w' : World} {ab ao : Nat} {q : Rat} (h : NumCells w ab ao q) (hb : Below w.heap.size w w') : NumCells w' ab ao q := CellsAt.below h hb
end Go.Proofs.YtkghpiaoggljjaaGreatDoor.Num

/- package value: the numbers of all further arguments, where each is a number. Conditions: the tables lie as they are laid. -/
namespace Go.Proofs.YtkghpiaoggljjaaGreatDoor.Num
open Go.RowKit Go.Lib

def fracCells (qs : List Rat) : List Value := qs.flatMap fun q => [.string (numS q), .string (denS q)]
theorem fracCells_snoc (qs : List Rat) (q : Rat) : fracCells (qs ++ [q]) = fracCells qs ++ [.string (numS q), .string (denS q)] := by simp [fracCells]
theorem info_frac : ∃ i, Tryz.prog.info? 24 = some i ∧ i.zero = some (.agg #[.string { data := #[] }, .string { data := #[] }]) ∧ i.size = 2 ∧ i.bytes = 32 := info_parts (by kernel_rfl)
/-- fractions in a row of the call's own -/
def OwnF (B : Nat) (v : Value) (qs : List Rat) (W : World) : Prop := W.ownsRow B 24 2 v qs.length (fracCells qs)
def AllNums (W : World) (g : Nat) (qs : List Rat) : Prop := ∀ i (h : i < qs.length), NumCells W g (0 + i * 9) qs[i]
/-- what stays while the numbers are read -/
structure NumsI (W0 : World) (b g L C : Nat) (qs : List Rat) (i : Nat) (v : Value) (done : List Rat) (W : World) : Prop where
  args : ArgsAt W b (some ⟨g, 0, none⟩) L C i
  nums : AllNums W g qs
  env : Env W
  grown : W0.grownBy W (some b)
  own : OwnF W0.heap.size v done W
end Go.Proofs.YtkghpiaoggljjaaGreatDoor.Num

/- package fmath: the sum of a row of fractions. Conditions: no partial sum is too long; the tables lie as they are laid. -/
namespace Go.Proofs.YtkghpiaoggljjaaGreatDoor.Num
open Go.RowKit Go.Lib

def sumL (qs : List Rat) : Rat := qs.foldl (· + ·) 0
theorem sumL_snoc (qs : List Rat) (q : Rat) : sumL (qs ++ [q]) = sumL qs + q := by simp [sumL]
/-- fractions one behind the other in memory -/
def FracsAt (W : World) (g : Nat) (qs : List Rat) : Prop := ∀ i (h : i < qs.length), W.cell? ⟨g, i * 2, none⟩ = some (.string (numS qs[i])) ∧ W.cell? ⟨g, i * 2 + 1, none⟩ = some (.string (denS qs[i]))
theorem fracCells_get : ∀ (qs : List Rat) (i : Nat) (h : i < qs.length), (fracCells qs)[i * 2]? = some (.string (numS qs[i])) ∧ (fracCells qs)[i * 2 + 1]? = some (.string (denS qs[i]))
  | q :: r, 0, _ => ⟨rfl, rfl⟩
  | q :: r, i + 1, h => by
    have := fracCells_get r i (by simpa using h)
    unfold fracCells at this ⊢
    rw [List.flatMap_cons]
    refine ⟨?_, ?_⟩
    · rw [List.getElem?_append_right (by show 2 ≤ _; omega), show (i + 1) * 2 - [Value.string (numS q), Value.string (denS q)].length = i * 2 by show (i + 1) * 2 - 2 = _; omega]
      exact this.1
    · rw [List.getElem?_append_right (by show 2 ≤ _; omega), show (i + 1) * 2 + 1 - [Value.string (numS q), Value.string (denS q)].length = i * 2 + 1 by show (i + 1) * 2 + 1 - 2 = _; omega]
      exact this.2
theorem OwnF.at {B : Nat} {v : Value} {qs : List Rat} {W : World} (h : OwnF B v qs W) (h0 : 0 < qs.length) : ∃ g cap, v = .slice (some ⟨g, 0, none⟩) qs.length cap ∧ B ≤ g ∧ qs.length ≤ cap ∧ FracsAt W g qs := by
  rcases h.2 with ⟨_, h0'⟩ | ⟨g, cap, cur, rfl, hb, hg, hc1, hc2, hcs, htk⟩
  · omega
  · refine ⟨g, cap, rfl, hb, hc1, fun i hi => ?_⟩
    obtain ⟨h1, h2⟩ := fracCells_get qs i hi
    rw [← htk] at h1 h2
    rw [List.getElem?_take_of_lt (by omega)] at h1 h2
    exact ⟨by rw [Lib.cell_of_heap hg]; simpa using h1, by rw [Lib.cell_of_heap hg]; simpa using h2⟩
theorem FracsAt.below {w w' : World} {g : Nat} {qs : List Rat} (h : FracsAt w g qs) (hb : Below w.heap.size w w') : FracsAt w' g qs := fun i hi => ⟨cell_below (h i hi).1 hb, cell_below (h i hi).2 hb⟩
theorem FracsAt.but {W W' : World} {g R : Nat} {qs : List Rat} (h : FracsAt W g qs) (ho : ∀ k, k ≠ R → W'.heap[k]? = W.heap[k]?) (hne : g ≠ R) : FracsAt W' g qs := fun i hi => ⟨but_cell (h i hi).1 ho hne, but_cell (h i hi).2 ho hne⟩
theorem Env.but {W W' : World} {R : Nat} (h : Env W) (ho : ∀ k, k ≠ R → W'.heap[k]? = W.heap[k]?) (hs : W.heap.size ≤ W'.heap.size) (hP : Past R) : Env W' := by
  refine ⟨?_, ?_, Nat.lt_of_lt_of_le h.room.1 hs, Nat.lt_of_lt_of_le h.room.2 hs⟩
  · have := h.tab
    unfold Tab Lib.TabIs World.var? at this ⊢
    have hgl : Tryz.prog.globalNamed "internal/strconv.uint64pow10" = some 3 := by kernel_rfl
    rw [hgl] at this ⊢
    simp only [Option.bind_some] at this ⊢
    rw [ho _ (Nat.ne_of_lt hP.2)]; exact this
  · intro j hj
    have h1 := h.faults j hj
    have hl : j < faultTexts.size := hj
    rw [Array.getElem?_eq_getElem hl] at h1 ⊢
    exact but_cell h1 ho (Nat.ne_of_lt hP.1)
/-- what stays while a row is added up: the row, the sum so far (block P), the result's block R -/
structure TotI (w : World) (g P R : Nat) (qs : List Rat) (s : Rat) (W : World) : Prop where
  row : FracsAt W g qs
  sum : W.heap[P]? = some (.cells #[.string (numS s), .string (denS s)] 24 (0, 0))
  res : W.heap[R]? = some (.cells #[.string { data := #[] }, .string { data := #[] }] 24 (0, 0))
  env : Env W
  low : Below w.heap.size w W
theorem TotI.step {w W W' : World} {g P R : Nat} {qs : List Rat} {s : Rat} (h : TotI w g P R qs s W) (hb : Below W.heap.size W W') : TotI w g P R qs s W' :=
  ⟨h.row.below hb, keep_block h.sum hb, keep_block h.res hb, h.env.below hb, h.low.trans (hb.mono h.low.size)⟩
theorem TotI.set {w W : World} {g P R : Nat} {qs : List Rat} {s t : Rat} (h : TotI w g P R qs s W) (hg : g ≠ P) (hR : R ≠ P) (hP : w.heap.size ≤ P) (hPP : Past P) : TotI w g P R qs t ((W.setCell ⟨P, 0, none⟩ (.string (numS t))).setCell ⟨P, 1, none⟩ (.string (denS t))) :=
  ⟨h.row.but (fun k hk => set2_other W P _ _ hk) hg, set2_at h.sum _ _, (set2_other W P _ _ hR).trans h.res, h.env.but (fun k hk => set2_other W P _ _ hk) (by simp []) hPP, (h.low.setCell (p := ⟨P, 0, none⟩) hP _).setCell (p := ⟨P, 1, none⟩) hP _⟩

set_option maxHeartbeats 4000000 in
set_option maxRecDepth 100000 in
theorem total_any (qs : List Rat) (g cap : Nat) (w : World) (h0 : 0 < qs.length) (h9 : qs.length ≤ 1000000) (hr : FracsAt w g qs) (hq : ∀ q ∈ qs, fits q = true) (hf : ∀ k, k ≤ qs.length → fits (sumL (qs.take k)) = true) (hE : Env w) :
    Calls Tryz.prog 175 #[.slice (some ⟨g, 0, none⟩) qs.length cap] w fun e w' => e = .returned (fracV (sumL qs)) ∧ Below w.heap.size w w' := by
  have hgl : g < w.heap.size := cell_lt (hr 0 h0).1
  have TO := Lib.hid (fun W gg => of_any 0 W (by decide) (by decide) gg)
  rw [show ((0 : Int) : Rat) = 0 from rfl, fracV_is 0] at TO
  have hb : Below w.heap.size w (w.alloc (.cells #[.string { data := #[] }, .string { data := #[] }] 24)) := (Below.refl _ _).alloc (Nat.le_refl _) _
  have HR := Lib.hid (heap_alloc_new w (.cells #[.string { data := #[] }, .string { data := #[] }] 24))
  have HV := Lib.hid (hr.below hb)
  have HE := Lib.hid (hE.below hb)
  have HL := Lib.hid hb
  have HQ := Lib.hid hq
  have HF := Lib.hid hf
  obtain ⟨L, hL⟩ : ∃ L, qs.length = L := ⟨_, rfl⟩
  have HLL := Lib.hid hL
  rw [hL] at h0 h9 ⊢
  clear hb hr hq hf hE hL
  rw [fracV_is (sumL qs)]
  go_enter Tryz.func175, Tryz.ntmps175
  go_wp2_with fail
  refine (TO.out _ HE.out.tab).mono ?_
  rintro e w1 ⟨rfl, hb⟩
  replace HR := Lib.hid (keep_block HR.out hb)
  replace HV := Lib.hid (HV.out.below hb)
  replace HE := Lib.hid (HE.out.below hb)
  replace HL := Lib.hid (HL.out.trans (hb.mono HL.out.size))
  clear hb
  have hb : Below w1.heap.size w1 (w1.alloc (.cells #[.string (numS 0), .string (denS 0)] 24)) := (Below.refl _ _).alloc (Nat.le_refl _) _
  have HS := Lib.hid (heap_alloc_new w1 (.cells #[.string (numS 0), .string (denS 0)] 24))
  have NP := Lib.hid (show w.heap.size < w1.heap.size from heap_lt HR.out)
  have HPP := Lib.hid (show Past w1.heap.size from HE.out.room)
  replace HR := Lib.hid (keep_block HR.out hb)
  replace HV := Lib.hid (HV.out.below hb)
  replace HE := Lib.hid (HE.out.below hb)
  replace HL := Lib.hid (HL.out.trans (hb.mono HL.out.size))
  clear hb
  have HI0 := Lib.hid (show TotI w g w1.heap.size w.heap.size qs (sumL (qs.take 0)) _ from ⟨HV.out, HS.out, HR.out, HE.out, HL.out⟩)
  clear HR HV HE HL HS
  obtain ⟨P, hPn⟩ : ∃ P, w1.heap.size = P := ⟨_, rfl⟩
  have HPN := Lib.hid hPn
  rw [hPn] at NP HPP HI0
  go_wp2_with fail
  go_loopg [9] L (fun gh v9 wx => ∃ k : Nat, v9 = .int .i64 (k : Int) ∧ k ≤ L ∧ gh = L - k ∧ TotI w g P w.heap.size qs (sumL (qs.take k)) wx)
  case atStart => exact ⟨0, rfl, Nat.zero_le _, rfl, HI0.out⟩
  case round =>
    clear HI0
    obtain ⟨k, rfl, hk, rfl, hti⟩ := hrel
    have HTI := Lib.hid hti
    clear hti
    by_cases hlt : k < L
    · have hd : decide ((k : Int) < (L : Int)) = true := decide_eq_true (by omega)
      have hd2 : decide (k < L) = true := decide_eq_true hlt
      have hkq : k < qs.length := by rw [HLL.out]; exact hlt
      obtain ⟨q, hqq⟩ : ∃ q, qs[k] = q := ⟨_, rfl⟩
      have hfq : fits q = true := by rw [← hqq]; exact HQ.out _ (List.getElem_mem hkq)
      have hts : qs.take (k + 1) = qs.take k ++ [q] := by rw [List.take_succ_eq_append_getElem hkq, hqq]
      have hsn : sumL (qs.take (k + 1)) = sumL (qs.take k) + q := by rw [hts, sumL_snoc]
      have TA := Lib.hid (fun W gg => fm_add (sumL (qs.take k)) q W (HF.out k (by omega)) hfq (by rw [← hsn]; exact HF.out (k + 1) (by omega)) gg)
      rw [← hsn] at TA
      obtain ⟨sk, hsk⟩ : ∃ z, sumL (qs.take k) = z := ⟨_, rfl⟩
      obtain ⟨sn, hsn2⟩ : ∃ z, sumL (qs.take (k + 1)) = z := ⟨_, rfl⟩
      rw [hsk] at TA HTI
      rw [hsn2] at TA
      have HSN := Lib.hid hsn2
      have hrow := HTI.out.row k hkq
      rw [hqq] at hrow
      obtain ⟨c0, c1⟩ := hrow
      rw [fracV_is sk, fracV_is q, fracV_is sn] at TA
      have hi0 : (0 : Int) ≤ (k : Int) := by omega
      have hi1 : (k : Int) < (L : Int) := by omega
      clear hfq hts hsn hsk hsn2 hkq hqq
      have HTIS := Lib.hid HTI.out.sum
      obtain ⟨⟨p0, p1⟩, pf0, pf1⟩ := two_at HTIS.out
      have hlp := heap_lt HTIS.out
      have HTA := Lib.hid (HTI.out.step ((Below.refl wr.heap.size wr).alloc (Nat.le_refl _) (.cells #[.string (numS q), .string (denS q)] 24)))
      go_wp2_with fail
      refine (TA.out _ HTA.out.env).mono ?_
      rintro e w2 ⟨rfl, hb⟩
      have HT2 := Lib.hid (HTA.out.step hb)
      clear hb p0 p1 pf0 pf1 c0 c1 hlp
      have HT3 := Lib.hid (HT2.out.set (t := sn) (by have := NP.out; omega) (by have := NP.out; omega) (by have := NP.out; omega) HPP.out)
      have HTIS2 := Lib.hid HT2.out.sum
      obtain ⟨⟨p0, p1⟩, pf0, pf1⟩ := two_at HTIS2.out
      go_wp2
      go_roundg (L - (k + 1))
      case measure => omega
      case rel => exact ⟨k + 1, by go_num, by omega, by omega, by rw [HSN.out]; exact HT3.out⟩
    · have hd : decide ((k : Int) < (L : Int)) = false := decide_eq_false (by omega)
      have hd2 : decide (k < L) = false := decide_eq_false hlt
      have hkL : k = L := by omega
      have hall : qs.take k = qs := by rw [hkL, ← HLL.out, List.take_length]
      rw [hall] at HTI
      clear hkL hall hlt
      have HTIS := Lib.hid HTI.out.sum
      obtain ⟨⟨p0, p1⟩, pf0, pf1⟩ := two_at HTIS.out
      have HRR := Lib.hid HTI.out.res
      obtain ⟨⟨r0, r1⟩, rf0, rf1⟩ := two_at HRR.out
      obtain ⟨nb, e0, e1⟩ := frac_end (x := .string (numS (sumL qs))) (y := .string (denS (sumL qs))) HRR.out HTI.out.low (Nat.le_refl _)
      go_wp2
      refine bodyPost_ret (v := .agg #[.string (numS (sumL qs)), .string (denS (sumL qs))]) (by simp [results, Tryz.results175, go_sem, e0, e1]) rfl ⟨rfl, nb⟩
end Go.Proofs.YtkghpiaoggljjaaGreatDoor.Num

/- package fmath: SUM and PRODUCT at numbers. Conditions: no partial result is too long; the tables lie as they are laid. -/
namespace Go.Proofs.YtkghpiaoggljjaaGreatDoor.Num
open Go.RowKit Go.Lib

/-- what stays while a row is multiplied -/
structure ProI (w : World) (b g P R : Nat) (qs : List Rat) (s : Rat) (W : World) : Prop where
  row : FracsAt W g qs
  sum : W.heap[P]? = some (.cells #[.string (numS s), .string (denS s)] 24 (0, 0))
  res : W.heap[R]? = some (.cells #[.string { data := #[] }, .string { data := #[] }] 24 (0, 0))
  env : Env W
  low : w.grownBy W (some b)
end Go.Proofs.YtkghpiaoggljjaaGreatDoor.Num

/- the law's math at a function of numbers of the table. Conditions: the tables lie as they are laid. -/
namespace Go.Proofs.YtkghpiaoggljjaaGreatDoor.Num
open Go.RowKit Go.Lib

/-- values that are numbers -/
def numVals (qs : List Rat) : List Val := qs.map numVal'
theorem numVals_len (qs : List Rat) : (numVals qs).length = qs.length := by simp [numVals]
theorem numVals_at (qs : List Rat) (i : Nat) (h : i < (numVals qs).length) : (numVals qs)[i] = numVal' (qs[i]'(by rw [← numVals_len]; exact h)) := by simp [numVals]
end Go.Proofs.YtkghpiaoggljjaaGreatDoor.Num

/- the law's math at SUM, PRODUCT, MOD, QUOTIENT. Conditions: nothing is too long; the tables lie as they are laid. -/
namespace Go.Proofs.YtkghpiaoggljjaaGreatDoor.Num
open Go.RowKit Go.Lib

theorem fr_of (i : Nat) (hi : i < allRows.length) (h : freshB allRows[i].name (allRows.take i) = true) : ∀ j (hj : j < i), (allRows[i].name == (allRows[j]'(by omega)).name) = false := by
  intro j hj
  have := fresh_of h (allRows[j]'(by omega)) (by
    rw [List.mem_take_iff_getElem]
    exact ⟨j, by omega, rfl⟩)
  exact this

end Go.Proofs.YtkghpiaoggljjaaGreatDoor.Num

/- the laws' own small functions: mod, whole, number, plus. Conditions: the tables lie as they are laid. -/
namespace Go.Proofs.YtkghpiaoggljjaaGreatDoor.Num
open Go.RowKit Go.Lib

set_option maxHeartbeats 1000000 in
theorem kmod_any (n k : Int) (_ : -9223372036854775808 ≤ n) (_ : n ≤ 9223372036854775807) (hk0 : 0 < k) (hk1 : k ≤ 1000000000) (w : World) : Calls Tryz.prog 5 #[.int .i64 n, .int .i64 k] w fun e w' => e = .returned (.int .i64 (n % k)) ∧ w' = w := by
  have hm : (n.tmod k + k).tmod k = n % k := by
    rw [Int.tmod_eq_emod_of_nonneg (by have := Int.lt_tmod_of_pos n hk0; omega), Int.add_emod_right]
    have h : n.tmod k + k * n.tdiv k = n := Int.tmod_add_mul_tdiv n k
    conv => rhs; rw [← h]
    rw [Int.add_mul_emod_self_left]
  have h1 := Int.lt_tmod_of_pos n hk0
  have h2 := Int.tmod_lt_of_pos n hk0
  have hne : ¬ k = 0 := by omega
  go_enter Tryz.func5, Tryz.ntmps5
  go_wp2
  go_ret
  exact ⟨rfl, rfl⟩

set_option maxHeartbeats 4000000 in
set_option maxRecDepth 100000 in
theorem kwhole_any (n : Int) (w : World) (h0 : -9223372036854775808 ≤ n) (h1 : n ≤ 9223372036854775807) (hE : Env w) : Calls Tryz.prog 7 #[.int .i64 n] w fun e w' => e = .returned (numVal (n : Rat)) ∧ Below w.heap.size w w' := by
  have TW := Lib.hid (fun W g => whole_any n W h0 h1 g)
  rw [numVal_is] at TW ⊢
  have hb : Below w.heap.size w (w.alloc (.cells #[.int .i64 0, .string { data := #[] }, .string { data := #[] }, .string { data := #[] }, .bool false, .int .i64 0, .int .i64 0, .int .i64 0, .slice none 0 0] 27)) := (Below.refl _ _).alloc (Nat.le_refl _) _
  have HR := Lib.hid (heap_alloc_new w (.cells #[.int .i64 0, .string { data := #[] }, .string { data := #[] }, .string { data := #[] }, .bool false, .int .i64 0, .int .i64 0, .int .i64 0, .slice none 0 0] 27))
  have HL := Lib.hid hb
  have HE := Lib.hid (hE.below hb)
  clear hb hE h0 h1
  go_enter Tryz.func7, Tryz.ntmps7
  go_wp2_with fail
  refine (TW.out _ HE.out).mono ?_
  rintro e W1 ⟨rfl, hb⟩
  replace HR := Lib.hid (keep_block HR.out hb)
  replace HL := Lib.hid (HL.out.trans (hb.mono HL.out.size))
  clear hb
  obtain ⟨⟨r0, r1, r2, r3, r4, r5, r6, r7, r8⟩, g0, g1, g2, g3, g4, g5, g6, g7, g8⟩ := nine_at HR.out
  obtain ⟨nb, z0, z1, z2, z3, z4, z5, z6, z7, z8⟩ := nine_end (x0 := (.int .i64 1)) (x1 := (.string (numS ((n : Rat))))) (x2 := (.string (denS ((n : Rat))))) (x3 := (.string { data := #[] })) (x4 := (.bool false)) (x5 := (.int .i64 0)) (x6 := (.int .i64 0)) (x7 := (.int .i64 0)) (x8 := (.slice none 0 0)) HR.out HL.out (Nat.le_refl _)
  go_wp2
  refine bodyPost_ret (v := .agg #[.int .i64 1, .string (numS ((n : Rat))), .string (denS ((n : Rat))), .string { data := #[] }, .bool false, .int .i64 0, .int .i64 0, .int .i64 0, .slice none 0 0]) (by simp [results, Tryz.results7, go_sem, z0, z1, z2, z3, z4, z5, z6, z7, z8]) rfl ⟨rfl, nb⟩

/-- the number of hundredths that the laws draw -/
def hundredths (n : Int) : Rat := ((n % 2000001 - 1000000 : Int) : Rat) / ((100 : Int) : Rat)
end Go.Proofs.YtkghpiaoggljjaaGreatDoor.Num

/- the laws' plus; value.Same at numbers. Conditions: nothing is too long; the tables lie as they are laid. -/
namespace Go.Proofs.YtkghpiaoggljjaaGreatDoor.Num
open Go.RowKit Go.Lib

end Go.Proofs.YtkghpiaoggljjaaGreatDoor.Num

/- value.Same at numbers. Conditions: none but that they are numbers. -/
namespace Go.Proofs.YtkghpiaoggljjaaGreatDoor.Num
open Go.RowKit Go.Lib

theorem fracV_inj {p q : Rat} (h1 : numS p = numS q) (h2 : denS p = denS q) : p = q := by
  have e1 : numText p = numText q := by
    have := congrArg (fun b : ByteArray => b.data.toList) h1
    exact this
  have e2 : denText p = denText q := by
    have := congrArg (fun b : ByteArray => b.data.toList) h2
    exact this
  have hd : p.den = q.den := decDigits_inj e2
  have hn : neg p = neg q := by rw [← num_minus, ← num_minus, e1]
  have hu : up p = up q := by
    apply decDigits_inj
    rw [← num_rest, ← num_rest, e1]
  rw [← ratOf_self p, ← ratOf_self q, hn, hu, hd]

theorem same_of {p q : Rat} (h1 : (numS p).toList = (numS q).toList) (h2 : (denS p).toList = (denS q).toList) : p = q := by
  rw [Lib.toList_data, Lib.toList_data] at h1 h2
  exact fracV_inj (ByteArray.ext (Array.toList_inj.1 h1)) (ByteArray.ext (Array.toList_inj.1 h2))

set_option maxHeartbeats 1000000 in
theorem equalFunc_nil (F : Value) (w : World) (hF : ∃ f c d, F = .func f c d) : Calls Tryz.prog 19 #[.slice none 0 0, .slice none 0 0, F] w fun e w' => e = .returned (.bool true) ∧ w' = w := by
  obtain ⟨f, c, d, rfl⟩ := hF
  go_enter Tryz.func19, Tryz.ntmps19
  go_wp2
  refine wp_loop_once ?_
  go_wp2
  go_ret
  exact ⟨rfl, rfl⟩
theorem new_keep {W : World} {k : Nat} {o o' : Obj} (h : W.heap[k]? = some o) : (W.alloc o').heap[k]? = some o := keep_block h ((Below.refl _ _).alloc (Nat.le_refl _) _)
theorem both9 {W : World} {a b : Nat} {p q : Rat} {T U : TypeId} (h : W.heap[a]? = some (.cells #[.int .i64 1, .string (numS p), .string (denS p), .string { data := #[] }, .bool false, .int .i64 0, .int .i64 0, .int .i64 0, .slice none 0 0] T (0, 0))) (k : W.heap[b]? = some (.cells #[.int .i64 1, .string (numS q), .string (denS q), .string { data := #[] }, .bool false, .int .i64 0, .int .i64 0, .int .i64 0, .slice none 0 0] U (0, 0))) : (W.cell? ⟨a, 0, none⟩ = some (.int .i64 1) ∧ W.cell? ⟨a, 1, none⟩ = some (.string (numS p)) ∧ W.cell? ⟨a, 2, none⟩ = some (.string (denS p)) ∧ W.cell? ⟨a, 3, none⟩ = some (.string { data := #[] }) ∧ W.cell? ⟨a, 4, none⟩ = some (.bool false) ∧ W.cell? ⟨a, 5, none⟩ = some (.int .i64 0) ∧ W.cell? ⟨a, 6, none⟩ = some (.int .i64 0) ∧ W.cell? ⟨a, 7, none⟩ = some (.int .i64 0) ∧ W.cell? ⟨a, 8, none⟩ = some (.slice none 0 0)) ∧ W.cell? ⟨b, 0, none⟩ = some (.int .i64 1) ∧ W.cell? ⟨b, 1, none⟩ = some (.string (numS q)) ∧ W.cell? ⟨b, 2, none⟩ = some (.string (denS q)) ∧ W.cell? ⟨b, 3, none⟩ = some (.string { data := #[] }) ∧ W.cell? ⟨b, 4, none⟩ = some (.bool false) ∧ W.cell? ⟨b, 5, none⟩ = some (.int .i64 0) ∧ W.cell? ⟨b, 6, none⟩ = some (.int .i64 0) ∧ W.cell? ⟨b, 7, none⟩ = some (.int .i64 0) ∧ W.cell? ⟨b, 8, none⟩ = some (.slice none 0 0) :=
  ⟨(nine_at h).1, (nine_at k).1⟩

set_option maxHeartbeats 4000000 in
set_option maxRecDepth 100000 in
theorem same_num (p q : Rat) (w : World) : Calls Tryz.prog 9 #[numVal p, numVal q] w fun e w' => e = .returned (.bool (decide (p = q))) ∧ Below w.heap.size w w' := by
  rw [numVal_is p, numVal_is q]
  obtain ⟨hx, hy, hb⟩ := two_new w (.cells #[.int .i64 1, .string (numS p), .string (denS p), .string { data := #[] }, .bool false, .int .i64 0, .int .i64 0, .int .i64 0, .slice none 0 0] 27) (.cells #[.int .i64 1, .string (numS q), .string (denS q), .string { data := #[] }, .bool false, .int .i64 0, .int .i64 0, .int .i64 0, .slice none 0 0] 27)
  obtain ⟨W0, hW0⟩ : ∃ W0, (w.alloc (.cells #[.int .i64 1, .string (numS p), .string (denS p), .string { data := #[] }, .bool false, .int .i64 0, .int .i64 0, .int .i64 0, .slice none 0 0] 27)).alloc (.cells #[.int .i64 1, .string (numS q), .string (denS q), .string { data := #[] }, .bool false, .int .i64 0, .int .i64 0, .int .i64 0, .slice none 0 0] 27) = W0 := ⟨_, rfl⟩
  rw [hW0] at hx hy hb
  have HX := Lib.hid hx
  have HY := Lib.hid hy
  have HL := Lib.hid hb.drew
  have HL0 := Lib.hid hb
  have HW := Lib.hid hW0
  have NX := Lib.hid (And.intro (heap_lt hx) (heap_lt hy))
  clear hx hy hb hW0
  go_enter Tryz.func9, Tryz.ntmps9
  go_wp2_with fail
  rw [HW.out]
  go_region_held3 (fun W => (W.cell? ⟨w.heap.size, 0, none⟩ = some (.int .i64 1) ∧ W.cell? ⟨w.heap.size, 1, none⟩ = some (.string (numS p)) ∧ W.cell? ⟨w.heap.size, 2, none⟩ = some (.string (denS p)) ∧ W.cell? ⟨w.heap.size, 3, none⟩ = some (.string { data := #[] }) ∧ W.cell? ⟨w.heap.size, 4, none⟩ = some (.bool false) ∧ W.cell? ⟨w.heap.size, 5, none⟩ = some (.int .i64 0) ∧ W.cell? ⟨w.heap.size, 6, none⟩ = some (.int .i64 0) ∧ W.cell? ⟨w.heap.size, 7, none⟩ = some (.int .i64 0) ∧ W.cell? ⟨w.heap.size, 8, none⟩ = some (.slice none 0 0)) ∧ W.cell? ⟨w.heap.size + 1, 0, none⟩ = some (.int .i64 1) ∧ W.cell? ⟨w.heap.size + 1, 1, none⟩ = some (.string (numS q)) ∧ W.cell? ⟨w.heap.size + 1, 2, none⟩ = some (.string (denS q)) ∧ W.cell? ⟨w.heap.size + 1, 3, none⟩ = some (.string { data := #[] }) ∧ W.cell? ⟨w.heap.size + 1, 4, none⟩ = some (.bool false) ∧ W.cell? ⟨w.heap.size + 1, 5, none⟩ = some (.int .i64 0) ∧ W.cell? ⟨w.heap.size + 1, 6, none⟩ = some (.int .i64 0) ∧ W.cell? ⟨w.heap.size + 1, 7, none⟩ = some (.int .i64 0) ∧ W.cell? ⟨w.heap.size + 1, 8, none⟩ = some (.slice none 0 0))
    (first | (with_reducible exact both9 (drew_block HX.out) (drew_block HY.out)) | (with_reducible exact both9 (drew_block (new_keep HX.out)) (drew_block (new_keep HY.out))) | (with_reducible exact both9 (drew_block (new_keep (new_keep HX.out))) (drew_block (new_keep (new_keep HY.out)))) | fail)
    ((first | fail))
  all_goals
    obtain ⟨lx, ly⟩ := NX.out
    have x8 := (nine_at HX.out).1.2.2.2.2.2.2.2.2
    have y8 := (nine_at HY.out).1.2.2.2.2.2.2.2.2
    have HSZ := Lib.hid HL.out.size
    have HBL := Lib.hid (fun c1 c2 : Array Value => Below.drew (((HL0.out.alloc HL0.out.size (.cells c1 27))).alloc (by have := HL0.out.size; simp; omega) (.cells c2 27)))
    go_wp2_with fail
    all_goals first
      | (have h1 : (numS p).toList = (numS q).toList := by assumption
         have h2 : (denS p).toList = (denS q).toList := by assumption
         have he : p = q := same_of h1 h2
         have HEQ := Lib.hid he
         clear h1 h2 he
         refine (equalFunc_nil _ _ ⟨_, _, _, rfl⟩).mono ?_
         rintro e w2 ⟨rfl, rfl⟩
         go_wp2
         go_ret
         exact ⟨ret_bool (decide_eq_true HEQ.out).symm, HBL.out _ _⟩)
      | (have h2 : ¬ (denS p).toList = (denS q).toList := by assumption
         have HEQ := Lib.hid (show ¬ p = q from fun e => h2 (by rw [e]))
         clear h2
         go_ret
         exact ⟨ret_bool (decide_eq_false HEQ.out).symm, HBL.out _ _⟩)
      | (have h2 : ¬ (numS p).toList = (numS q).toList := by assumption
         have HEQ := Lib.hid (show ¬ p = q from fun e => h2 (by rw [e]))
         clear h2
         go_ret
         exact ⟨ret_bool (decide_eq_false HEQ.out).symm, HBL.out _ _⟩)
end Go.Proofs.YtkghpiaoggljjaaGreatDoor.Num

/- Fractions with bounds on their terms; when they fit. Plain: no program. -/
namespace Go.Proofs.YtkghpiaoggljjaaGreatDoor.Num

/-- a fraction with numerator at most A and denominator at most B, not always in lowest terms -/
def Sm (q : Rat) (A B : Nat) : Prop := ∃ (a : Int) (b : Nat), b ≠ 0 ∧ q = (a : Rat) / ((b : Nat) : Rat) ∧ a.natAbs ≤ A ∧ b ≤ B
end Go.Proofs.YtkghpiaoggljjaaGreatDoor.Num
