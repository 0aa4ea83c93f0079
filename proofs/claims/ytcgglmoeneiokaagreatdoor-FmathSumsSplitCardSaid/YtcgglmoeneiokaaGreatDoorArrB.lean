/- Numbers as texts of digits, fractions, values and the functions of fmath: contracts of the program's functions, joined from smaller texts. Conditions stand at each theorem. -/
import Derived.Test.YtcgglmoeneiokaaGreatDoorArrA
import Derived.Deep.RegionWith
import Derived.Deep.DeepCutAuto
import Derived.Test.YtcgglmoeneiokaaGreatDoorNumH
import Derived.Below
import Derived.Lib.MinMax
import Derived.Deep.RegionLaw
import Derived.Test.YtcgglmoeneiokaaGreatDoorNumI

/- package fmath: SUMPRODUCT at numbers and arrays of one shape. Conditions: all numbers fit; the tables lie as they are laid. -/
namespace Go.Proofs.YtcgglmoeneiokaaGreatDoor.Num
open Go.RowKit Go.Lib

/-- item i of each argument -/
def col (qss : List (List Rat)) (i : Nat) : List Rat := qss.map fun qs => qs.getD i 0
def prods (qss : List (List Rat)) (M : Nat) : List Rat := (List.range M).map fun i => prodL (col qss i)
theorem col_len (qss : List (List Rat)) (i : Nat) : (col qss i).length = qss.length := by simp [col]
theorem prods_len (qss : List (List Rat)) (M : Nat) : (prods qss M).length = M := by simp [prods]
theorem col_take (qss : List (List Rat)) (i j : Nat) (h : j < qss.length) (q : Rat) (hq : qss[j].getD i 0 = q) : prodL ((col qss i).take (j + 1)) = prodL ((col qss i).take j) * q := by
  rw [List.take_succ_eq_append_getElem (by rw [col_len]; exact h), prodL_snoc]
  congr 1
  simp only [col, List.getElem_map]
  exact hq
theorem prods_take (qss : List (List Rat)) (M k : Nat) (h : k < M) : sumL ((prods qss M).take (k + 1)) = sumL ((prods qss M).take k) + prodL (col qss k) := by
  rw [List.take_succ_eq_append_getElem (by rw [prods_len]; exact h), sumL_snoc]
  congr 1
  simp [prods]

structure PrI (w : World) (b g C R : Nat) (vs : List Val) (qss : List (List Rat)) (r s : Int) (W : World) : Prop where
  args : ArgsAt W b (some ⟨g, 0, none⟩) vs.length C 0
  vals : ValsAt W g 0 vs
  parts : ∀ j (h : j < vs.length) (h' : j < qss.length), PArg W vs[j] r s qss[j]
  tiny : ∀ j (h : j < vs.length) gi, vs[j].A = some ⟨gi, 0, none⟩ → gi < w.heap.size
  res : W.heap[R]? = some (.cells #[.string { data := #[] }, .string { data := #[] }] 24 (0, 0))
  env : Env W
  low : Below w.heap.size w W
theorem PrI.step {w W W' : World} {b g C R : Nat} {vs : List Val} {qss : List (List Rat)} {r s : Int} (h : PrI w b g C R vs qss r s W) (hb : Below W.heap.size W W') : PrI w b g C R vs qss r s W' :=
  ⟨keep_block h.args hb, h.vals.below hb, fun j hj hj' => (h.parts j hj hj').below hb, h.tiny, keep_block h.res hb, h.env.below hb, h.low.trans (hb.mono h.low.size)⟩
theorem PrI.set {w W : World} {b g C R X : Nat} {vs : List Val} {qss : List (List Rat)} {r s : Int} (h : PrI w b g C R vs qss r s W) (hX : w.heap.size < X) (hb : b < w.heap.size) (hg : g < w.heap.size) (hR : R ≤ w.heap.size) (hP : Past w.heap.size) (x y : Value) : PrI w b g C R vs qss r s ((W.setCell ⟨X, 0, none⟩ x).setCell ⟨X, 1, none⟩ y) := by
  have ho : ∀ k, k ≠ X → ((W.setCell ⟨X, 0, none⟩ x).setCell ⟨X, 1, none⟩ y).heap[k]? = W.heap[k]? := fun k hk => set2_other W X x y hk
  refine ⟨(ho b (by omega)).trans h.args, vals_other h.vals (ho g (by omega)), fun j hj hj' => (h.parts j hj hj').other (B := w.heap.size) (fun gi e => h.tiny j hj gi e) (fun k hk => ho k (by omega)), h.tiny, (ho R (by omega)).trans h.res, h.env.but ho (by simp [size_setCell]) ⟨by have := hP.1; omega, by have := hP.2; omega⟩, ?_⟩
  exact (h.low.setCell (p := ⟨X, 0, none⟩) (Nat.le_of_lt hX) x).setCell (p := ⟨X, 1, none⟩) (Nat.le_of_lt hX) y
structure SumI (w : World) (b g C R : Nat) (vs : List Val) (qss : List (List Rat)) (r s : Int) (P : Nat) (sv : Rat) (W : World) : Prop where
  base : PrI w b g C R vs qss r s W
  sum : W.heap[P]? = some (.cells #[.string (numS sv), .string (denS sv)] 24 (0, 0))
theorem SumI.step {w W W' : World} {b g C R P : Nat} {vs : List Val} {qss : List (List Rat)} {r s : Int} {sv : Rat} (h : SumI w b g C R vs qss r s P sv W) (hb : Below W.heap.size W W') : SumI w b g C R vs qss r s P sv W' := ⟨h.base.step hb, keep_block h.sum hb⟩
structure ProdI (w : World) (b g C R : Nat) (vs : List Val) (qss : List (List Rat)) (r s : Int) (P : Nat) (sv : Rat) (Q : Nat) (pv : Rat) (W : World) : Prop where
  base : SumI w b g C R vs qss r s P sv W
  prod : W.heap[Q]? = some (.cells #[.string (numS pv), .string (denS pv)] 24 (0, 0))
theorem ProdI.step {w W W' : World} {b g C R P Q : Nat} {vs : List Val} {qss : List (List Rat)} {r s : Int} {sv pv : Rat} (h : ProdI w b g C R vs qss r s P sv Q pv W) (hb : Below W.heap.size W W') : ProdI w b g C R vs qss r s P sv Q pv W' := ⟨h.base.step hb, keep_block h.prod hb⟩

set_option maxHeartbeats 8000000 in
set_option maxRecDepth 100000 in
theorem fn_sumproduct (vs : List Val) (qss : List (List Rat)) (r s : Int) (M b g C : Nat) (w : World) (h0 : 0 < vs.length) (h9 : vs.length ≤ 300) (hl : qss.length = vs.length) (hrs : r * s = (M : Int)) (hM : M ≤ 1000) (hr : 1 ≤ r ∧ r ≤ 1000) (hs : 1 ≤ s ∧ s ≤ 1000) (hql : ∀ qs ∈ qss, qs.length = M) (hp : ∀ j (h : j < vs.length) (h' : j < qss.length), PArg w vs[j] r s qss[j]) (hq : ∀ qs ∈ qss, ∀ q ∈ qs, fits q = true)
    (hfp : ∀ i, i < M → ∀ k, k ≤ vs.length → fits (prodL ((col qss i).take k)) = true) (hfs : ∀ k, k ≤ M → fits (sumL ((prods qss M).take k)) = true) (ha : ArgsAt w b (some ⟨g, 0, none⟩) vs.length C 0) (hv : ValsAt w g 0 vs) (hg0 : g < w.heap.size) (hE : Env w) :
    Calls Tryz.prog 138 #[.pointer (some ⟨b, 0, none⟩)] w fun e w' => e = .returned (fracV (sumL (prods qss M))) ∧ w.grownBy w' (some b) := by
  have hb : Below w.heap.size w (w.alloc (.cells #[.string { data := #[] }, .string { data := #[] }] 24)) := (Below.refl _ _).alloc (Nat.le_refl _) _
  have HPI := Lib.hid (show PrI w b g C w.heap.size vs qss r s (w.alloc (.cells #[.string { data := #[] }, .string { data := #[] }] 24)) from
    ⟨keep_block ha hb, hv.below hb, fun j hj hj' => (hp j hj hj').below hb, fun j hj gi e => (hp j hj (by rw [hl]; exact hj)).lt gi e, heap_alloc_new w _, hE.below hb, hb⟩)
  have HB0 := Lib.hid (show b < w.heap.size from heap_lt ha)
  have HG0 := Lib.hid hg0
  have HP0 := Lib.hid (show Past w.heap.size from hE.room)
  have HFP := Lib.hid hfp
  have HFS := Lib.hid hfs
  have HQ := Lib.hid hq
  have HQL := Lib.hid hql
  have HLQ := Lib.hid hl
  have TO0 := Lib.hid (fun W gg => of_any 0 W (by decide) (by decide) gg)
  have TO1 := Lib.hid (fun W gg => of_any 1 W (by decide) (by decide) gg)
  rw [show ((0 : Int) : Rat) = sumL ((prods qss M).take 0) from rfl, fracV_is] at TO0
  obtain ⟨one, hone⟩ : ∃ q : Rat, ((1 : Int) : Rat) = q := ⟨_, rfl⟩
  have HONE := Lib.hid (show (1 : Rat) = one from hone)
  rw [hone, fracV_is] at TO1
  obtain ⟨L, hL⟩ : ∃ L, vs.length = L := ⟨_, rfl⟩
  have HLL := Lib.hid hL
  rw [hL] at h0 h9
  have hwr : IntKind.i64.wrap (M : Int) = (M : Int) := IntWalk.i64_in _ (by omega)
  clear hb ha hv hp hg0 hE hq hfp hfs hql hl hL hone
  rw [fracV_is (sumL (prods qss M))]
  have hcell := HPI.out.args
  rw [HLL.out] at hcell
  have a0 := Lib.cell_of_heap hcell 0
  obtain ⟨c0, c1, c2, c3, c4, c5, c6, c7, c8⟩ := val_at HPI.out.vals 0 (by rw [HLL.out]; exact h0) _ rfl
  rw [Nat.zero_mul] at c0 c1 c2 c3 c4 c5 c6 c7 c8
  simp only [Nat.zero_add] at c1 c2 c3 c4 c5 c6 c7 c8
  have TS0 := Lib.hid (fun W h => size_val W (h : PArg W (vs[0]'(by rw [HLL.out]; exact h0)) r s (qss[0]'(by rw [HLQ.out, HLL.out]; exact h0))))
  have HPA0 := Lib.hid (HPI.out.parts 0 (by rw [HLL.out]; exact h0) (by rw [HLQ.out, HLL.out]; exact h0))
  obtain ⟨v0, hv0⟩ : ∃ v, vs[0]'(by rw [HLL.out]; exact h0) = v := ⟨_, rfl⟩
  rw [hv0] at c0 c1 c2 c3 c4 c5 c6 c7 c8 TS0 HPA0
  have hL0 : (0 : Int) < (L : Int) := by omega
  clear hcell hv0
  go_enter Tryz.func138, Tryz.ntmps138
  go_wp2_with fail
  refine (TS0.out _ HPA0.out).mono ?_
  rintro e w1 ⟨rfl, hb⟩
  replace HPI := Lib.hid (HPI.out.step hb)
  clear hb a0 c0 c1 c2 c3 c4 c5 c6 c7 c8
  have a0 := Lib.cell_of_heap (show w1.heap[b]? = some (.cells #[.slice (some ⟨g, 0, none⟩) L C, .int .i64 0] 138 (0, 0)) by have := HPI.out.args; rw [HLL.out] at this; exact this) 0
  go_wp2_with fail
  go_loopg [30] L (fun gh v30 wx => ∃ k : Nat, v30 = .int .i64 (k : Int) ∧ k ≤ L ∧ gh = L - k ∧ PrI w b g C w.heap.size vs qss r s wx)
  case atStart => exact ⟨0, rfl, Nat.zero_le _, rfl, HPI.out⟩
  case round =>
    clear HPI a0
    obtain ⟨k, rfl, hk, rfl, hti⟩ := hrel
    have HTI := Lib.hid hti
    clear hti
    by_cases hlt : k < L
    · have hd : decide ((k : Int) < (L : Int)) = true := decide_eq_true (by omega)
      have hd2 : decide (k < L) = true := decide_eq_true hlt
      have hkq : k < vs.length := by rw [HLL.out]; exact hlt
      obtain ⟨v, hvv⟩ : ∃ v, vs[k] = v := ⟨_, rfl⟩
      have hpa := HTI.out.parts k hkq (by rw [HLQ.out]; exact hkq)
      obtain ⟨qk, hqk⟩ : ∃ q, qss[k]'(by rw [HLQ.out]; exact hkq) = q := ⟨_, rfl⟩
      rw [hvv, hqk] at hpa
      have HPA := Lib.hid hpa
      obtain ⟨c0, c1, c2, c3, c4, c5, c6, c7, c8⟩ := val_at HTI.out.vals k hkq v hvv
      have hi0 : (0 : Int) ≤ (k : Int) := by omega
      have hi1 : (k : Int) < (L : Int) := by omega
      clear hpa hvv hqk
      have hq := (Below.refl wr.heap.size wr).alloc (Nat.le_refl _) (.cells #[.int .i64 v.k, .string v.n, .string v.d, .string v.t, .bool v.on, .int .i64 v.c, .int .i64 v.r, .int .i64 v.s, .slice v.A v.L v.C] 27)
      have HTA := Lib.hid (HTI.out.step hq)
      replace HPA := Lib.hid (HPA.out.below hq)
      clear hq
      go_wp2_with fail
      refine (size_val _ HPA.out).mono ?_
      rintro e w2 ⟨rfl, hb⟩
      have HT2 := Lib.hid (HTA.out.step hb)
      clear hb c0 c1 c2 c3 c4 c5 c6 c7 c8
      go_wp2
      go_roundg (L - (k + 1))
      case measure => omega
      case rel => exact ⟨k + 1, by go_num, by omega, by omega, HT2.out⟩
    · have hd : decide ((k : Int) < (L : Int)) = false := decide_eq_false (by omega)
      have hd2 : decide (k < L) = false := decide_eq_false hlt
      clear hlt hk
      have a0 := Lib.cell_of_heap (show wr.heap[b]? = some (.cells #[.slice (some ⟨g, 0, none⟩) L C, .int .i64 0] 138 (0, 0)) by have := HTI.out.args; rw [HLL.out] at this; exact this) 0
      have TF := Lib.hid (faults_any vs g C wr (by rw [HLL.out]; omega) HTI.out.vals (fun j hj => ⟨r, s, _, HTI.out.parts j hj (by rw [HLQ.out]; exact hj)⟩) HTI.out.env)
      rw [HLL.out] at TF
      go_wp2_with fail
      refine TF.out.mono ?_
      rintro e w2 ⟨rfl, hb⟩
      replace HTI := Lib.hid (HTI.out.step hb)
      clear hb a0
      go_wp2_with fail
      refine (TO0.out _ HTI.out.env.tab).mono ?_
      rintro e w3 ⟨rfl, hb⟩
      replace HTI := Lib.hid (HTI.out.step hb)
      clear hb
      have hb : Below w3.heap.size w3 (w3.alloc (.cells #[.string (numS (sumL ((prods qss M).take 0))), .string (denS (sumL ((prods qss M).take 0)))] 24)) := (Below.refl _ _).alloc (Nat.le_refl _) _
      have HS0 := Lib.hid (show SumI w b g C w.heap.size vs qss r s w3.heap.size (sumL ((prods qss M).take 0)) _ from ⟨HTI.out.step hb, heap_alloc_new w3 _⟩)
      have NP := Lib.hid (show w.heap.size < w3.heap.size from heap_lt HTI.out.res)
      clear hb
      obtain ⟨P, hPn⟩ : ∃ P, w3.heap.size = P := ⟨_, rfl⟩
      have HPN := Lib.hid hPn
      rw [hPn] at NP HS0
      clear HTI
      go_wp2_with fail
      go_loopg [58] M (fun gh v58 wx => ∃ i : Nat, v58 = .int .i64 (i : Int) ∧ i ≤ M ∧ gh = M - i ∧ SumI w b g C w.heap.size vs qss r s P (sumL ((prods qss M).take i)) wx)
      case atStart => exact ⟨0, rfl, Nat.zero_le _, rfl, HS0.out⟩
      case round =>
        clear HS0 hd hd2 hPn
        obtain ⟨i, rfl, hi, rfl, hsi⟩ := hrel
        have HSI := Lib.hid hsi
        clear hsi
        by_cases hlt : i < M
        · have hd : decide ((i : Int) < (M : Int)) = true := decide_eq_true (by omega)
          have hd2 : decide (i < M) = true := decide_eq_true hlt
          have HPT := Lib.hid (prods_take qss M i hlt)
          have HFI := Lib.hid (HFP.out i hlt)
          obtain ⟨sv, hsv⟩ : ∃ q, sumL ((prods qss M).take i) = q := ⟨_, rfl⟩
          have HSV := Lib.hid hsv
          rw [hsv] at HSI HPT
          clear hsv
          have hpl0 : one = prodL ((col qss i).take 0) := by rw [← HONE.out]; rfl
          go_wp2_with fail
          refine (TO1.out _ HSI.out.base.env.tab).mono ?_
          rintro e w4 ⟨rfl, hb⟩
          replace HSI := Lib.hid (HSI.out.step hb)
          clear hb
          have hb : Below w4.heap.size w4 (w4.alloc (.cells #[.string (numS one), .string (denS one)] 24)) := (Below.refl _ _).alloc (Nat.le_refl _) _
          have HJ0 := Lib.hid (show ProdI w b g C w.heap.size vs qss r s P sv w4.heap.size one _ from ⟨HSI.out.step hb, heap_alloc_new w4 _⟩)
          have NQ := Lib.hid (show P < w4.heap.size from heap_lt HSI.out.sum)
          rw [hpl0] at HJ0
          have HPL0 := Lib.hid hpl0
          clear hb hpl0
          have a0 := Lib.cell_of_heap (show (w4.alloc (.cells #[.string (numS one), .string (denS one)] 24)).heap[b]? = some (.cells #[.slice (some ⟨g, 0, none⟩) L C, .int .i64 0] 138 (0, 0)) by have := HJ0.out.base.base.args; rw [HLL.out, ← HPL0.out] at this; exact this) 0
          obtain ⟨Q, hQn⟩ : ∃ Q, w4.heap.size = Q := ⟨_, rfl⟩
          rw [hQn] at NQ HJ0
          rw [← HPL0.out] at HJ0
          go_wp2_with fail
          go_loopg [67] L (fun gh v67 wx => ∃ j : Nat, v67 = .int .i64 (j : Int) ∧ j ≤ L ∧ gh = L - j ∧ ProdI w b g C w.heap.size vs qss r s P sv Q (prodL ((col qss i).take j)) wx)
          case atStart => exact ⟨0, rfl, Nat.zero_le _, rfl, by rw [← HPL0.out]; exact HJ0.out⟩
          case round =>
            clear HJ0 a0 hd hd2 HSI hQn
            obtain ⟨j, rfl, hj, rfl, hji⟩ := hrel
            have HJI := Lib.hid hji
            clear hji
            by_cases hjl : j < L
            · have hd : decide ((j : Int) < (L : Int)) = true := decide_eq_true (by omega)
              have hd2 : decide (j < L) = true := decide_eq_true hjl
              have hkq : j < vs.length := by rw [HLL.out]; exact hjl
              have hkq2 : j < qss.length := by rw [HLQ.out]; exact hkq
              obtain ⟨v, hvv⟩ : ∃ v, vs[j] = v := ⟨_, rfl⟩
              have hpa := HJI.out.base.base.parts j hkq hkq2
              have hlen := HQL.out qss[j] (List.getElem_mem hkq2)
              have hqm := HQ.out qss[j] (List.getElem_mem hkq2)
              obtain ⟨q, hqe⟩ : ∃ q, qss[j].getD i 0 = q := ⟨_, rfl⟩
              have HCT := Lib.hid (col_take qss i j hkq2 q hqe)
              obtain ⟨qk, hqk⟩ : ∃ q, qss[j] = q := ⟨_, rfl⟩
              rw [hvv, hqk] at hpa
              rw [hqk] at hlen hqm hqe
              have hil : i < qk.length := by omega
              have hqe2 : qk[i] = q := by rw [← hqe, List.getD, List.getElem?_eq_getElem hil]; rfl
              have HFQ := Lib.hid (hqm q (by rw [← hqe2]; exact List.getElem_mem hil))
              have HPA := Lib.hid hpa
              have HIL := Lib.hid hil
              have HQE := Lib.hid hqe2
              have HLEN := Lib.hid hlen
              obtain ⟨c0, c1, c2, c3, c4, c5, c6, c7, c8⟩ := val_at HJI.out.base.base.vals j hkq v hvv
              have hi0 : (0 : Int) ≤ (j : Int) := by omega
              have hi1 : (j : Int) < (L : Int) := by omega
              clear hpa hvv hqk hqe hqe2 hlen hqm
              have hq := (Below.refl wr.heap.size wr).alloc (Nat.le_refl _) (.cells #[.int .i64 v.k, .string v.n, .string v.d, .string v.t, .bool v.on, .int .i64 v.c, .int .i64 v.r, .int .i64 v.s, .slice v.A v.L v.C] 27)
              have HTA := Lib.hid (HJI.out.step hq)
              replace HPA := Lib.hid (HPA.out.below hq)
              clear hq
              go_wp2_with fail
              refine (list_val _ HPA.out).mono ?_
              rintro e w5 ⟨gi, Ci, rfl, hvi, hb⟩
              replace HTA := Lib.hid (HTA.out.step hb)
              clear hb c0 c1 c2 c3 c4 c5 c6 c7 c8
              obtain ⟨c0, c1, c2, c3, c4, c5, c6, c7, c8⟩ := item_at hvi i HIL.out q HQE.out
              rw [HLEN.out]
              have hM0 : (0 : Int) ≤ (i : Int) := by omega
              have hM1 : (i : Int) < (M : Int) := by omega
              obtain ⟨pv, hpv⟩ : ∃ q, prodL ((col qss i).take j) = q := ⟨_, rfl⟩
              have HPV := Lib.hid hpv
              have hfpv := HFI.out j (by rw [HLL.out]; omega)
              have hfpn := HFI.out (j + 1) (by rw [HLL.out]; omega)
              rw [HCT.out] at hfpn
              rw [hpv] at HTA hfpv hfpn
              replace HCT := Lib.hid (show prodL ((col qss i).take (j + 1)) = pv * q by rw [← hpv]; exact HCT.out)
              have TM := Lib.hid (fun W gg => fm_mul pv q W hfpv HFQ.out hfpn gg)
              obtain ⟨pn, hpn⟩ : ∃ x, pv * q = x := ⟨_, rfl⟩
              rw [hpn] at TM HCT
              rw [fracV_is pv, fracV_is q, fracV_is pn] at TM
              clear hvi hpv hfpv hfpn hpn
              have hq := (Below.refl w5.heap.size w5).alloc (Nat.le_refl _) (.cells #[.int .i64 1, .string (numS q), .string (denS q), .string { data := #[] }, .bool false, .int .i64 0, .int .i64 0, .int .i64 0, .slice none 0 0] 27)
              have HTB := Lib.hid (HTA.out.step hq)
              clear hq
              have HPB := Lib.hid HTB.out.prod
              obtain ⟨⟨p0, p1⟩, pf0, pf1⟩ := two_at HPB.out
              go_wp2_with fail
              refine (TM.out _ HTB.out.base.base.env).mono ?_
              rintro e w6 ⟨rfl, hb⟩
              have HTC := Lib.hid (HTB.out.step hb)
              clear hb c0 c1 c2 c3 c4 c5 c6 c7 c8 p0 p1 pf0 pf1
              have HPC := Lib.hid HTC.out.prod
              obtain ⟨⟨p0, p1⟩, pf0, pf1⟩ := two_at HPC.out
              have hne : P ≠ Q := by have := NQ.out; omega
              have hbq : w.heap.size < Q := by have := NQ.out; have := NP.out; omega
              have HTD := Lib.hid (show ProdI w b g C w.heap.size vs qss r s P sv Q pn _ from ⟨⟨HTC.out.base.base.set hbq HB0.out HG0.out (Nat.le_refl _) HP0.out (.string (numS pn)) (.string (denS pn)), (set2_other _ Q _ _ hne).trans HTC.out.base.sum⟩, set2_at HTC.out.prod _ _⟩)
              clear hne hbq
              go_wp2
              go_roundg (L - (j + 1))
              case measure => omega
              case rel => exact ⟨j + 1, by go_num, by omega, by omega, by rw [HCT.out]; exact HTD.out⟩
            · have hd : decide ((j : Int) < (L : Int)) = false := decide_eq_false (by omega)
              have hd2 : decide (j < L) = false := decide_eq_false hjl
              have hjL : j = L := by omega
              have hall : (col qss i).take j = col qss i := by rw [hjL, ← HLL.out, ← HLQ.out, ← col_len qss i, List.take_length]
              have hfpc := HFI.out j (by rw [HLL.out]; omega)
              rw [hall] at HJI hfpc
              have hfs0 := HFS.out i (by omega)
              have hfs1 := HFS.out (i + 1) (by omega)
              rw [HSV.out] at hfs0
              rw [HPT.out] at hfs1
              have TA := Lib.hid (fun W gg => fm_add sv (prodL (col qss i)) W hfs0 hfpc hfs1 gg)
              obtain ⟨pc, hpc⟩ : ∃ x, prodL (col qss i) = x := ⟨_, rfl⟩
              rw [hpc] at HJI HPT TA
              obtain ⟨sn, hsn⟩ : ∃ x, sv + pc = x := ⟨_, rfl⟩
              rw [hsn] at TA HPT
              rw [fracV_is sv, fracV_is pc, fracV_is sn] at TA
              clear hjL hall hfpc hfs0 hfs1 hpc hsn hjl hj
              have HSB := Lib.hid HJI.out.base.sum
              have HPB := Lib.hid HJI.out.prod
              obtain ⟨⟨s0, s1⟩, sf0, sf1⟩ := two_at HSB.out
              obtain ⟨⟨p0, p1⟩, pf0, pf1⟩ := two_at HPB.out
              go_wp2_with fail
              refine (TA.out _ HJI.out.base.base.env).mono ?_
              rintro e w5 ⟨rfl, hb⟩
              have HTC := Lib.hid (HJI.out.base.step hb)
              clear hb s0 s1 sf0 sf1 p0 p1 pf0 pf1
              have HSC := Lib.hid HTC.out.sum
              obtain ⟨⟨s0, s1⟩, sf0, sf1⟩ := two_at HSC.out
              have HTD := Lib.hid (show SumI w b g C w.heap.size vs qss r s P sn _ from ⟨HTC.out.base.set NP.out HB0.out HG0.out (Nat.le_refl _) HP0.out (.string (numS sn)) (.string (denS sn)), set2_at HTC.out.sum _ _⟩)
              go_wp2
              go_roundg (M - (i + 1))
              case measure => omega
              case rel => exact ⟨i + 1, by go_num, by omega, by omega, by rw [HPT.out]; exact HTD.out⟩
        · have hd : decide ((i : Int) < (M : Int)) = false := decide_eq_false (by omega)
          have hd2 : decide (i < M) = false := decide_eq_false hlt
          have hiM : i = M := by omega
          have hall : (prods qss M).take i = prods qss M := by
            have := List.take_length (l := prods qss M)
            rw [prods_len] at this
            rw [hiM]; exact this
          rw [hall] at HSI
          clear hiM hall hlt
          have HSB := Lib.hid HSI.out.sum
          obtain ⟨⟨s0, s1⟩, sf0, sf1⟩ := two_at HSB.out
          have HRR := Lib.hid HSI.out.base.res
          obtain ⟨⟨r0, r1⟩, rf0, rf1⟩ := two_at HRR.out
          have hF := set2_at HRR.out (.string (numS (sumL (prods qss M)))) (.string (denS (sumL (prods qss M))))
          obtain ⟨⟨e0, e1⟩, _⟩ := two_at hF
          have HG2 := Lib.hid (kept2 (kept_below (b := b) HSI.out.base.low) (Nat.le_refl _) (.string (numS (sumL (prods qss M)))) (.string (denS (sumL (prods qss M)))))
          clear hF
          go_wp2
          refine bodyPost_ret (v := .agg #[.string (numS (sumL (prods qss M))), .string (denS (sumL (prods qss M)))]) (by simp [results, Tryz.results138, go_sem, e0, e1]) rfl ⟨rfl, HG2.out⟩
end Go.Proofs.YtcgglmoeneiokaaGreatDoor.Num

/- package fmath: SUMXMY2 at two arguments of as many numbers. Conditions: all numbers fit; the tables lie as they are laid. -/
namespace Go.Proofs.YtcgglmoeneiokaaGreatDoor.Num
open Go.RowKit Go.Lib

def sqdiff (x y : Rat) : Rat := (x - y) * (x - y)
def diffs (qa qb : List Rat) : List Rat := List.zipWith sqdiff qa qb
theorem diffs_take (qa qb : List Rat) (k : Nat) (ha : k < qa.length) (hb : k < qb.length) : sumL ((diffs qa qb).take (k + 1)) = sumL ((diffs qa qb).take k) + sqdiff qa[k] qb[k] := by
  have hl : k < (diffs qa qb).length := by simp [diffs]; omega
  rw [List.take_succ_eq_append_getElem hl, sumL_snoc]
  simp [diffs]

set_option maxHeartbeats 4000000 in
set_option maxRecDepth 100000 in
theorem fn_sqdiff (p q : Rat) (w : World) (hp : fits p = true) (hq : fits q = true) (h1 : fits (p - q) = true) (h2 : fits (sqdiff p q) = true) (hE : Env w) :
    Calls Tryz.prog 145 #[fracV p, fracV q] w fun e w' => e = .returned (fracV (sqdiff p q)) ∧ Below w.heap.size w w' := by
  have TS := Lib.hid (fun W g => fm_sub p q W hp hq h1 g)
  have TM := Lib.hid (fun W g => fm_mul (p - q) (p - q) W h1 h1 h2 g)
  rw [show (p - q) * (p - q) = sqdiff p q from rfl] at TM
  obtain ⟨dd, hdd⟩ : ∃ z, p - q = z := ⟨_, rfl⟩
  rw [hdd] at TS TM
  obtain ⟨rr, hrr⟩ : ∃ z, sqdiff p q = z := ⟨_, rfl⟩
  rw [hrr] at TM ⊢
  rw [fracV_is p, fracV_is q, fracV_is dd] at TS
  rw [fracV_is dd, fracV_is rr] at TM
  rw [fracV_is p, fracV_is q, fracV_is rr]
  obtain ⟨hx, hy, hr', hb⟩ := three_new w (.cells #[.string (numS p), .string (denS p)] 24) (.cells #[.string (numS q), .string (denS q)] 24) (.cells #[.string { data := #[] }, .string { data := #[] }] 24)
  obtain ⟨W0, hW0⟩ : ∃ W0, ((w.alloc (.cells #[.string (numS p), .string (denS p)] 24)).alloc (.cells #[.string (numS q), .string (denS q)] 24)).alloc (.cells #[.string { data := #[] }, .string { data := #[] }] 24) = W0 := ⟨_, rfl⟩
  rw [hW0] at hx hy hr' hb
  have HX := Lib.hid (drew_block hx)
  have HY := Lib.hid (drew_block hy)
  have HR := Lib.hid (drew_block hr')
  have HE := Lib.hid (hE.below hb.drew)
  have HL := Lib.hid hb.drew
  have HW := Lib.hid hW0
  clear hx hy hr' hb hW0 hE hp hq h1 h2 hdd hrr
  go_enter Tryz.func145, Tryz.ntmps145
  go_wp2_with fail
  rw [HW.out]
  go_region_held3 (fun Z => Z.cell? ⟨w.heap.size, 0, none⟩ = some (.string (numS p)) ∧ Z.cell? ⟨w.heap.size, 1, none⟩ = some (.string (denS p)) ∧ Z.cell? ⟨w.heap.size + 1, 0, none⟩ = some (.string (numS q)) ∧ Z.cell? ⟨w.heap.size + 1, 1, none⟩ = some (.string (denS q)))
    (first | (with_reducible exact cells4 HX.out HY.out) | (with_reducible exact cells4 ((set2_other _ _ _ _ (by omega)).trans HX.out) ((set2_other _ _ _ _ (by omega)).trans HY.out)) | fail)
    ((first | (go_at_call 129; (with_reducible refine (TS.out _ HE.out).mono ?_); rintro e V1 ⟨rfl, hq⟩; replace HX := Lib.hid (keep_block HX.out hq); replace HY := Lib.hid (keep_block HY.out hq); replace HR := Lib.hid (keep_block HR.out hq); replace HE := Lib.hid (HE.out.below hq); replace HL := Lib.hid (HL.out.trans (hq.mono HL.out.size)); clear hq) | (go_at_call 126; (with_reducible refine (TM.out _ HE.out).mono ?_); rintro e V3 ⟨rfl, hq⟩; replace HX := Lib.hid (keep_block HX.out hq); replace HY := Lib.hid (keep_block HY.out hq); replace HR := Lib.hid (keep_block HR.out hq); replace HE := Lib.hid (HE.out.below hq); replace HL := Lib.hid (HL.out.trans (hq.mono HL.out.size)); clear hq; obtain ⟨⟨r0, r1⟩, rf0, rf1⟩ := two_at HR.out)))
  obtain ⟨⟨r0, r1⟩, rf0, rf1⟩ := two_at HR.out
  have hF := set2_at HR.out (.string (numS (rr))) (.string (denS (rr)))
  obtain ⟨⟨e0, e1⟩, _⟩ := two_at hF
  have HG2 := Lib.hid ((HL.out.setCell (p := ⟨w.heap.size + 1 + 1, 0, none⟩) (by simp only []; omega) (.string (numS (rr)))).setCell (p := ⟨w.heap.size + 1 + 1, 1, none⟩) (by simp only []; omega) (.string (denS (rr))))
  clear hF
  go_wp2
  refine bodyPost_ret (v := .agg #[.string (numS (rr)), .string (denS (rr))]) (by simp [results, Tryz.results145, go_sem, e0, e1]) rfl ⟨rfl, HG2.out⟩

/-- what stays while the pairs are summed: two rows of numbers, the sum (block P), the result's block R, all behind the base -/
structure PaI (wb : World) (ga gb P R : Nat) (qa qb : List Rat) (sv : Rat) (W : World) : Prop where
  rowa : ValsAt W ga 0 (numVals qa)
  rowb : ValsAt W gb 0 (numVals qb)
  sum : W.heap[P]? = some (.cells #[.string (numS sv), .string (denS sv)] 24 (0, 0))
  res : W.heap[R]? = some (.cells #[.string { data := #[] }, .string { data := #[] }] 24 (0, 0))
  env : Env W
  low : Below wb.heap.size wb W
theorem PaI.step {wb W W' : World} {ga gb P R : Nat} {qa qb : List Rat} {sv : Rat} (h : PaI wb ga gb P R qa qb sv W) (hb : Below W.heap.size W W') : PaI wb ga gb P R qa qb sv W' :=
  ⟨h.rowa.below hb, h.rowb.below hb, keep_block h.sum hb, keep_block h.res hb, h.env.below hb, h.low.trans (hb.mono h.low.size)⟩
theorem PaI.set {wb W : World} {ga gb P R : Nat} {qa qb : List Rat} {sv : Rat} (h : PaI wb ga gb P R qa qb sv W) (ha : ga < wb.heap.size) (hb : gb < wb.heap.size) (hR : R < wb.heap.size) (hP : wb.heap.size ≤ P) (hPP : Past wb.heap.size) (t : Rat) : PaI wb ga gb P R qa qb t ((W.setCell ⟨P, 0, none⟩ (.string (numS t))).setCell ⟨P, 1, none⟩ (.string (denS t))) := by
  have ho : ∀ k, k ≠ P → ((W.setCell ⟨P, 0, none⟩ (.string (numS t))).setCell ⟨P, 1, none⟩ (.string (denS t))).heap[k]? = W.heap[k]? := fun k hk => set2_other W P _ _ hk
  exact ⟨vals_other h.rowa (ho ga (by omega)), vals_other h.rowb (ho gb (by omega)), set2_at h.sum _ _, (ho R (by omega)).trans h.res, h.env.but ho (by simp [size_setCell]) ⟨by have := hPP.1; omega, by have := hPP.2; omega⟩, (h.low.setCell (p := ⟨P, 0, none⟩) hP _).setCell (p := ⟨P, 1, none⟩) hP _⟩
theorem pargs_nums (W : World) (qs : List Rat) : PArgs W (numVals qs) := fun j hj => ⟨1, 1, [qs[j]'(by rw [← numVals_len]; exact hj)], .inl ⟨_, numVals_at qs j hj, rfl, rfl, rfl⟩⟩
/-- an argument of the row -/
theorem parg_at {W : World} {v : Val} {r s : Int} {qs : List Rat} (h : PArg W v r s qs) {W' : World} {b : Nat} (hg : W.grownBy W' (some b)) (hne : ∀ g, v.A = some ⟨g, 0, none⟩ → g ≠ b) : PArg W' v r s qs := by
  rcases h with h | ⟨g, C, rfl, h2, h3, h4, h5, h6, h7, h8, h9⟩
  · exact .inl h
  · exact .inr ⟨g, C, rfl, h2, h3, h4, h5, h6, h7, h8, vals_kept h9 hg (hne g rfl) (items_lt h9 h7)⟩
theorem parg_ne {W : World} {v : Val} {r s : Int} {qs : List Rat} {b L C n : Nat} {A : Option Addr} (h : PArg W v r s qs) (ha : ArgsAt W b A L C n) : ∀ g, v.A = some ⟨g, 0, none⟩ → g ≠ b := by
  intro g hg
  rcases h with ⟨q, rfl, _⟩ | ⟨g', C, rfl, h2, h3, h4, h5, h6, h7, h8, h9⟩
  · simp [numVal'] at hg
  · simp [arrVal'] at hg
    subst hg
    exact items_ne h9 h7 ha

set_option maxHeartbeats 8000000 in
set_option maxRecDepth 100000 in
theorem pairs_sq (va vb : Val) (r s r' s' : Int) (qa qb : List Rat) (M b g C : Nat) (w : World) (hM : M ≤ 1000) (hla : qa.length = M) (hlb : qb.length = M) (hpa : PArg w va r s qa) (hpb : PArg w vb r' s' qb) (hqa : ∀ q ∈ qa, fits q = true) (hqb : ∀ q ∈ qb, fits q = true)
    (hd1 : ∀ i (h : i < qa.length) (h' : i < qb.length), fits (qa[i] - qb[i]) = true ∧ fits (sqdiff qa[i] qb[i]) = true) (hfs : ∀ k, k ≤ M → fits (sumL ((diffs qa qb).take k)) = true) (ha : ArgsAt w b (some ⟨g, 0, none⟩) 2 C 0) (hv : ValsAt w g 0 [va, vb]) (hgb : g ≠ b) (hE : Env w) (hP : Past b) :
    Calls Tryz.prog 140 #[.pointer (some ⟨b, 0, none⟩), .func (.func 145) #[] #[]] w fun e w' => e = .returned (fracV (sumL (diffs qa qb))) ∧ w.grownBy w' (some b) := by
  have hg0 : g < w.heap.size := cell_lt (hv.at 0 (show 0 < 2 from by decide)).1
  have hb : Below w.heap.size w (w.alloc (.cells #[.string { data := #[] }, .string { data := #[] }] 24)) := (Below.refl _ _).alloc (Nat.le_refl _) _
  have HR := Lib.hid (heap_alloc_new w (.cells #[.string { data := #[] }, .string { data := #[] }] 24))
  have HA := Lib.hid (show ArgsAt (w.alloc (.cells #[.string { data := #[] }, .string { data := #[] }] 24)) b (some ⟨g, 0, none⟩) 2 C 0 from keep_block ha hb)
  have HV := Lib.hid (hv.below hb)
  have HE := Lib.hid (hE.below hb)
  have HPA := Lib.hid (hpa.below hb)
  have HPB := Lib.hid (hpb.below hb)
  have HG := Lib.hid (kept_below (b := b) hb)
  have HNA := Lib.hid (parg_ne hpa ha)
  have HNB := Lib.hid (parg_ne hpb ha)
  have NRB := Lib.hid (show w.heap.size ≠ b from Nat.ne_of_gt (heap_lt ha))
  have HGB := Lib.hid hgb
  have HP := Lib.hid hP
  have HQA := Lib.hid hqa
  have HQB := Lib.hid hqb
  have HD1 := Lib.hid hd1
  have HFS := Lib.hid hfs
  have HLA := Lib.hid hla
  have HLB := Lib.hid hlb
  have HG0 := Lib.hid hg0
  have TV1 := Lib.hid (fun W ga gc => value_any b g 0 2 C 0 va.k va.n va.d va.t va.on va.c va.r va.s va.A va.L va.C W ga (by decide) (by decide) hgb gc)
  have TV2 := Lib.hid (fun W ga gc => value_any b g 0 2 C 1 vb.k vb.n vb.d vb.t vb.on vb.c vb.r vb.s vb.A vb.L vb.C W ga (by decide) (by decide) hgb gc)
  have TO0 := Lib.hid (fun W gg => of_any 0 W (by decide) (by decide) gg)
  rw [show ((0 : Int) : Rat) = sumL ((diffs qa qb).take 0) from rfl, fracV_is] at TO0
  clear hb ha hv hgb hE hpa hpb hqa hqb hd1 hfs hla hlb hP hg0
  rw [fracV_is (sumL (diffs qa qb))]
  go_enter Tryz.func140, Tryz.ntmps140
  go_wp2_with fail
  refine (TV1.out _ HA.out (HV.out.at 0 (show 0 < 2 from by decide))).mono ?_
  rintro e W1 ⟨rfl, ha, hg⟩
  replace HA := Lib.hid ha
  have hsz := (show g < (w.alloc (.cells #[.string { data := #[] }, .string { data := #[] }] 24)).heap.size by simp; have := HG0.out; omega)
  replace HV := Lib.hid (vals_kept HV.out hg HGB.out hsz)
  replace HR := Lib.hid (kept_block HR.out hg NRB.out)
  replace HE := Lib.hid (HE.out.kept hg HP.out)
  replace HPA := Lib.hid (parg_at HPA.out hg HNA.out)
  replace HPB := Lib.hid (parg_at HPB.out hg HNB.out)
  replace HG := Lib.hid (kept_trans HG.out hg)
  clear ha hg hsz
  go_wp2_with fail
  refine (list_val _ HPA.out).mono ?_
  rintro e W2 ⟨ga, Ca, rfl, hva, hb⟩
  have HVA := Lib.hid hva
  replace HA := Lib.hid (keep_block HA.out hb)
  replace HV := Lib.hid (HV.out.below hb)
  replace HR := Lib.hid (keep_block HR.out hb)
  replace HE := Lib.hid (HE.out.below hb)
  replace HPA := Lib.hid (HPA.out.below hb)
  replace HPB := Lib.hid (HPB.out.below hb)
  replace HG := Lib.hid (kept_trans HG.out (kept_below hb))
  clear hb hva
  go_wp2_with fail
  refine (TV2.out _ HA.out (HV.out.at 1 (show 1 < 2 from by decide))).mono ?_
  rintro e W3 ⟨rfl, ha, hg⟩
  have HNVA := Lib.hid (show ga ≠ b by
    have hp := (HPA.out.pos).1
    exact items_ne HVA.out hp HA.out)
  replace HVA := Lib.hid (vals_kept HVA.out hg HNVA.out (items_lt HVA.out HPA.out.pos.1))
  replace HR := Lib.hid (kept_block HR.out hg NRB.out)
  replace HE := Lib.hid (HE.out.kept hg HP.out)
  replace HPB := Lib.hid (parg_at HPB.out hg HNB.out)
  replace HG := Lib.hid (kept_trans HG.out hg)
  clear ha hg HA HV
  go_wp2_with fail
  refine (list_val _ HPB.out).mono ?_
  rintro e W4 ⟨gb, Cb, rfl, hvb, hb⟩
  have HVB := Lib.hid hvb
  replace HVA := Lib.hid (HVA.out.below hb)
  replace HR := Lib.hid (keep_block HR.out hb)
  replace HE := Lib.hid (HE.out.below hb)
  replace HG := Lib.hid (kept_trans HG.out (kept_below hb))
  have HP0 := Lib.hid HPA.out.pos.1
  clear hb hvb HPB HPA
  rw [HLA.out, HLB.out]
  have TF1 := Lib.hid (fun W (h1 : ValsAt W ga 0 (numVals qa)) h2 => faults_any (numVals qa) ga Ca W (by rw [numVals_len, HLA.out]; omega) h1 (pargs_nums W qa) h2)
  have TF2 := Lib.hid (fun W (h1 : ValsAt W gb 0 (numVals qb)) h2 => faults_any (numVals qb) gb Cb W (by rw [numVals_len, HLB.out]; omega) h1 (pargs_nums W qb) h2)
  rw [numVals_len, HLA.out] at TF1
  rw [numVals_len, HLB.out] at TF2
  go_wp2_with fail
  refine (TF1.out _ HVA.out HE.out).mono ?_
  rintro e W5 ⟨rfl, hb⟩
  replace HVA := Lib.hid (HVA.out.below hb)
  replace HVB := Lib.hid (HVB.out.below hb)
  replace HR := Lib.hid (keep_block HR.out hb)
  replace HE := Lib.hid (HE.out.below hb)
  replace HG := Lib.hid (kept_trans HG.out (kept_below hb))
  clear hb
  go_wp2_with fail
  refine (TF2.out _ HVB.out HE.out).mono ?_
  rintro e W6 ⟨rfl, hb⟩
  replace HVA := Lib.hid (HVA.out.below hb)
  replace HVB := Lib.hid (HVB.out.below hb)
  replace HR := Lib.hid (keep_block HR.out hb)
  replace HE := Lib.hid (HE.out.below hb)
  replace HG := Lib.hid (kept_trans HG.out (kept_below hb))
  clear hb
  go_wp2_with fail
  refine (TO0.out _ HE.out.tab).mono ?_
  rintro e wb ⟨rfl, hb⟩
  replace HVA := Lib.hid (HVA.out.below hb)
  replace HVB := Lib.hid (HVB.out.below hb)
  replace HR := Lib.hid (keep_block HR.out hb)
  replace HE := Lib.hid (HE.out.below hb)
  replace HG := Lib.hid (kept_trans HG.out (kept_below hb))
  clear hb
  have hb : Below wb.heap.size wb (wb.alloc (.cells #[.string (numS (sumL ((diffs qa qb).take 0))), .string (denS (sumL ((diffs qa qb).take 0)))] 24)) := (Below.refl _ _).alloc (Nat.le_refl _) _
  have HI0 := Lib.hid (show PaI wb ga gb wb.heap.size w.heap.size qa qb (sumL ((diffs qa qb).take 0)) _ from ⟨HVA.out.below hb, HVB.out.below hb, heap_alloc_new wb _, keep_block HR.out hb, HE.out.below hb, hb⟩)
  have NA := Lib.hid (show ga < wb.heap.size from items_lt HVA.out HP0.out)
  have NB := Lib.hid (show gb < wb.heap.size from items_lt HVB.out (by rw [HLB.out, ← HLA.out]; exact HP0.out))
  have NR := Lib.hid (show w.heap.size < wb.heap.size from heap_lt HR.out)
  have NPP := Lib.hid (show Past wb.heap.size from HE.out.room)
  clear hb HVA HVB HR HE
  obtain ⟨P, hPn⟩ : ∃ P, wb.heap.size = P := ⟨_, rfl⟩
  have HPN := Lib.hid hPn
  rw [hPn] at HI0
  go_wp2_with fail
  go_loopg [28] M (fun gh v28 wx => ∃ k : Nat, v28 = .int .i64 (k : Int) ∧ k ≤ M ∧ gh = M - k ∧ PaI wb ga gb P w.heap.size qa qb (sumL ((diffs qa qb).take k)) wx)
  case atStart => exact ⟨0, rfl, Nat.zero_le _, rfl, HI0.out⟩
  case round =>
    clear HI0 hPn
    obtain ⟨k, rfl, hk, rfl, hti⟩ := hrel
    have HTI := Lib.hid hti
    clear hti
    by_cases hlt : k < M
    · have hd : decide ((k : Int) < (M : Int)) = true := decide_eq_true (by omega)
      have hd2 : decide (k < M) = true := decide_eq_true hlt
      have hka : k < qa.length := by rw [HLA.out]; exact hlt
      have hkb : k < qb.length := by rw [HLB.out]; exact hlt
      have hst := diffs_take qa qb k hka hkb
      obtain ⟨hf1, hf2⟩ := HD1.out k hka hkb
      have hfa := HQA.out qa[k] (List.getElem_mem hka)
      have hfb := HQB.out qb[k] (List.getElem_mem hkb)
      have hs0 := HFS.out k (by omega)
      have hs1 := HFS.out (k + 1) (by omega)
      rw [hst] at hs1
      obtain ⟨x, hx⟩ : ∃ q, qa[k] = q := ⟨_, rfl⟩
      obtain ⟨y, hy⟩ : ∃ q, qb[k] = q := ⟨_, rfl⟩
      have HXE := Lib.hid hx
      have HYE := Lib.hid hy
      rw [hx, hy] at hf1 hf2 hst hs1
      rw [hx] at hfa
      rw [hy] at hfb
      have TD := Lib.hid (fun W gg => fn_sqdiff x y W hfa hfb hf1 hf2 gg)
      have TA := Lib.hid (fun W gg => fm_add (sumL ((diffs qa qb).take k)) (sqdiff x y) W hs0 hf2 hs1 gg)
      obtain ⟨z, hz⟩ : ∃ q, sqdiff x y = q := ⟨_, rfl⟩
      rw [hz] at TD TA hst
      obtain ⟨sv, hsv⟩ : ∃ q, sumL ((diffs qa qb).take k) = q := ⟨_, rfl⟩
      rw [hsv] at TA HTI hst
      obtain ⟨sn, hsn⟩ : ∃ q, sv + z = q := ⟨_, rfl⟩
      rw [hsn] at TA hst
      have HST := Lib.hid hst
      rw [fracV_is x, fracV_is y, fracV_is z] at TD
      rw [fracV_is sv, fracV_is z, fracV_is sn] at TA
      have hi0 : (0 : Int) ≤ (k : Int) := by omega
      have hi1 : (k : Int) < (M : Int) := by omega
      clear hst hf1 hf2 hfa hfb hs0 hs1 hx hy hz hsv hsn
      have eF := enters_of Tryz.func145 (by kernel_rfl) rfl
      obtain ⟨c0, c1, c2, c3, c4, c5, c6, c7, c8⟩ := item_at HTI.out.rowa k hka x HXE.out
      obtain ⟨d0, d1, d2, d3, d4, d5, d6, d7, d8⟩ := item_at HTI.out.rowb k hkb y HYE.out
      go_upto_region 11 with fail
      clear c0 c1 c2 c3 c4 c5 c6 c7 c8 d0 d1 d2 d3 d4 d5 d6 d7 d8
      replace HTI := Lib.hid (HTI.out.step ((Below.refl wr.heap.size wr).drew))
      obtain ⟨c0, c1, c2, c3, c4, c5, c6, c7, c8⟩ := item_at HTI.out.rowa k hka x HXE.out
      obtain ⟨d0, d1, d2, d3, d4, d5, d6, d7, d8⟩ := item_at HTI.out.rowb k hkb y HYE.out
      have HTIS := Lib.hid HTI.out.sum
      obtain ⟨⟨p0, p1⟩, pf0, pf1⟩ := two_at HTIS.out
      go_region_with ((first | (go_at_call 145; (with_reducible refine (TD.out _ HTI.out.env).mono ?_); rintro e V1 ⟨rfl, hb⟩; replace HTI := Lib.hid (HTI.out.step hb); clear hb; have HTIT := Lib.hid HTI.out.sum; obtain ⟨⟨p0, p1⟩, pf0, pf1⟩ := two_at HTIT.out; clear HTIT) | (go_at_call 127; (with_reducible refine (TA.out _ HTI.out.env).mono ?_); rintro e V2 ⟨rfl, hb⟩; replace HTI := Lib.hid (HTI.out.step hb); clear hb; have HTIT := Lib.hid HTI.out.sum; obtain ⟨⟨p0, p1⟩, pf0, pf1⟩ := two_at HTIT.out; clear HTIT)))
      all_goals
        have HT3 := Lib.hid (HTI.out.set NA.out NB.out NR.out (by rw [HPN.out]; exact Nat.le_refl _) NPP.out sn)
        go_wp2
        go_roundg (M - (k + 1))
        case measure => omega
        case rel => exact ⟨k + 1, by go_num, by omega, by omega, by rw [HST.out]; exact HT3.out⟩
    · have hd : decide ((k : Int) < (M : Int)) = false := decide_eq_false (by omega)
      have hd2 : decide (k < M) = false := decide_eq_false hlt
      have hkL : k = M := by omega
      have hall : sumL ((diffs qa qb).take k) = sumL (diffs qa qb) := by
        rw [List.take_of_length_le]
        simp [diffs]
        rw [HLA.out, HLB.out]
        omega
      rw [hall] at HTI
      clear hall hkL hlt
      have HTIS := Lib.hid HTI.out.sum
      obtain ⟨⟨p0, p1⟩, pf0, pf1⟩ := two_at HTIS.out
      have HRR := Lib.hid HTI.out.res
      obtain ⟨⟨r0, r1⟩, rf0, rf1⟩ := two_at HRR.out
      have hF := set2_at HRR.out (.string (numS (sumL (diffs qa qb)))) (.string (denS (sumL (diffs qa qb))))
      obtain ⟨⟨e0, e1⟩, _⟩ := two_at hF
      have HG2 := Lib.hid (kept2 (kept_trans HG.out (kept_below HTI.out.low)) (Nat.le_refl _) (.string (numS (sumL (diffs qa qb)))) (.string (denS (sumL (diffs qa qb)))))
      clear hF
      go_wp2
      refine bodyPost_ret (v := .agg #[.string (numS (sumL (diffs qa qb))), .string (denS (sumL (diffs qa qb)))]) (by simp [results, Tryz.results140, go_sem, e0, e1]) rfl ⟨rfl, HG2.out⟩
end Go.Proofs.YtcgglmoeneiokaaGreatDoor.Num

/- the law's math at SUM, SUMSQ, SUMPRODUCT, SUMXMY2 of numbers and arrays. Conditions: all numbers fit; the tables lie as they are laid. -/
namespace Go.Proofs.YtcgglmoeneiokaaGreatDoor.Num
open Go.RowKit Go.Lib

set_option maxHeartbeats 8000000 in
set_option maxRecDepth 100000 in
theorem fn_sumxmy2 (va vb : Val) (r s r' s' : Int) (qa qb : List Rat) (M b g C : Nat) (w : World) (hM : M ≤ 1000) (hla : qa.length = M) (hlb : qb.length = M) (hpa : PArg w va r s qa) (hpb : PArg w vb r' s' qb) (hqa : ∀ q ∈ qa, fits q = true) (hqb : ∀ q ∈ qb, fits q = true)
    (hd1 : ∀ i (h : i < qa.length) (h' : i < qb.length), fits (qa[i] - qb[i]) = true ∧ fits (sqdiff qa[i] qb[i]) = true) (hfs : ∀ k, k ≤ M → fits (sumL ((diffs qa qb).take k)) = true) (ha : ArgsAt w b (some ⟨g, 0, none⟩) 2 C 0) (hv : ValsAt w g 0 [va, vb]) (hgb : g ≠ b) (hE : Env w) (hP : Past b) :
    Calls Tryz.prog 144 #[.pointer (some ⟨b, 0, none⟩)] w fun e w' => e = .returned (fracV (sumL (diffs qa qb))) ∧ w.grownBy w' (some b) := by
  have hb : Below w.heap.size w (w.alloc (.cells #[.string { data := #[] }, .string { data := #[] }] 24)) := (Below.refl _ _).alloc (Nat.le_refl _) _
  have HR := Lib.hid (heap_alloc_new w (.cells #[.string { data := #[] }, .string { data := #[] }] 24))
  have HG := Lib.hid (kept_below (b := b) hb)
  have NRB := Lib.hid (show w.heap.size ≠ b from Nat.ne_of_gt (heap_lt ha))
  have TP := Lib.hid (pairs_sq va vb r s r' s' qa qb M b g C _ hM hla hlb (hpa.below hb) (hpb.below hb) hqa hqb hd1 hfs (show ArgsAt (w.alloc (.cells #[.string { data := #[] }, .string { data := #[] }] 24)) b (some ⟨g, 0, none⟩) 2 C 0 from keep_block ha hb) (hv.below hb) hgb (hE.below hb) hP)
  obtain ⟨sv, hsv⟩ : ∃ z, sumL (diffs qa qb) = z := ⟨_, rfl⟩
  rw [hsv, fracV_is sv] at TP
  rw [hsv, fracV_is sv]
  clear hb hM hla hlb hpa hpb hqa hqb hd1 hfs ha hv hgb hE hP hsv
  go_enter Tryz.func144, Tryz.ntmps144
  go_wp2_with fail
  refine TP.out.mono ?_
  rintro e w1 ⟨rfl, hg⟩
  replace HR := Lib.hid (kept_block HR.out hg NRB.out)
  replace HG := Lib.hid (kept_trans HG.out hg)
  clear hg
  obtain ⟨⟨r0, r1⟩, rf0, rf1⟩ := two_at HR.out
  have hF := set2_at HR.out (.string (numS sv)) (.string (denS sv))
  obtain ⟨⟨e0, e1⟩, _⟩ := two_at hF
  have HG2 := Lib.hid (kept2 HG.out (Nat.le_refl _) (.string (numS sv)) (.string (denS sv)))
  clear hF
  go_wp2
  refine bodyPost_ret (v := .agg #[.string (numS sv), .string (denS sv)]) (by simp [results, Tryz.results144, go_sem, e0, e1]) rfl ⟨rfl, HG2.out⟩

/-- what else is known of the arguments is carried as Cc -/
theorem math_c_val (i : Nat) (r : Row) (hi : i < allRows.length) (hr : allRows[i] = r) (hkd : r.kinds = { data := #[97] }) (hfr : ∀ j (hj : j < i), (allRows[i].name == (allRows[j]'(by omega)).name) = false) (hnum : r.num = true) (eF : ∀ args w, (callFunc r.fn args).run Tryz.prog w = .ok (.enter r.fn args) w) (vs : List Val) (qss : List (List Rat)) (ab ao C : Nat) (q : Rat) (w : World) (h0 : 0 < vs.length) (h9 : vs.length ≤ 300) (hc1 : r.least ≤ vs.length) (hc2 : (vs.length : Int) ≤ r.most) (hv : ValsAt w ab ao vs) (hA : Args2 w vs qss) (hE : Env w) (hqs : ∀ qs ∈ qss, ∀ q ∈ qs, fits q = true) (hq : fits q = true)
    (Cc : World → Prop) (hC : Cc w) (hCb : ∀ W W', Cc W → Below W.heap.size W W' → Cc W')
    (hF : ∀ W b g cap, Env W → Past b → b < W.heap.size → g < W.heap.size → ArgsAt W b (some ⟨g, 0, none⟩) vs.length cap 0 → ValsAt W g 0 vs → Cc W → g ≠ b → Calls Tryz.prog r.fn #[.pointer (some ⟨b, 0, none⟩)] W fun e w' => e = .returned (fracV q) ∧ W.grownBy w' (some b)) :
    Calls Tryz.prog 10 #[.string r.name, .slice (some ⟨ab, ao, none⟩) vs.length C] w fun e w' => e = .returned (numVal q) ∧ Below w.heap.size w w' :=
  math_of r.name (.slice (some ⟨ab, ao, none⟩) vs.length C) (numVal' q) w ⟨_, _, _, rfl⟩ (fun W b hb hT =>
    run_a_val i r hi hr hkd hfr vs b ab ao C (numVal' q) W h0 h9 hc1 hc2 (hv.below hb) (hE.below hb) hT ⟨rfl, rfl, rfl, rfl, rfl⟩ (fun W g => check_num q W hq g)
      (fun v hv' W' h => by
        obtain ⟨j, hj, rfl⟩ := List.mem_iff_getElem.1 hv'
        have hj' : j < qss.length := by rw [hA.1]; exact hj
        exact ((hA.below (hb.trans (h.mono hb.size))).2 j hj hj').check (hqs _ (List.getElem_mem hj')) ((hE.below hb).below h))
      (fun W' e g cap hb' hE' hfn hva => entry1_val r g cap e vs q W' hnum hfn eF hE' hva hq (fun W'' b' hb'' hE'' hP hlt ha hva' hne => hF W'' b' g cap hE'' hP hlt (cell_lt (hva'.at 0 h0).1) ha hva' (hCb _ _ (hCb _ _ (hCb _ _ hC hb) hb') hb'') hne) h0))

theorem take_all {xs : List Rat} {f : List Rat → Rat} (h : ∀ k, k ≤ xs.length → fits (f (xs.take k)) = true) : fits (f xs) = true := by
  have := h xs.length (Nat.le_refl _)
  rwa [List.take_length] at this

theorem args2_two {W : World} {va vb : Val} {qa qb : List Rat} (ha : AArg W va qa) (hb : AArg W vb qb) : Args2 W [va, vb] [qa, qb] := by
  refine ⟨rfl, fun j h h' => ?_⟩
  match j, h with
  | 0, _ => exact ha
  | 1, _ => exact hb
theorem args2_one {W : World} {va : Val} {qa : List Rat} (ha : AArg W va qa) : Args2 W [va] [qa] := by
  refine ⟨rfl, fun j h h' => ?_⟩
  match j, h with
  | 0, _ => exact ha

theorem m_SUM2 (vs : List Val) (qss : List (List Rat)) (ab ao C : Nat) (w : World) (h0 : 0 < vs.length) (h9 : vs.length ≤ 255) (hA : Args2 w vs qss) (hq : ∀ qs ∈ qss, ∀ q ∈ qs, fits q = true) (h00 : 0 < qss.flatten.length) (h99 : qss.flatten.length ≤ 300000) (hf : ∀ k, k ≤ qss.flatten.length → fits (sumL (qss.flatten.take k)) = true) (hv : ValsAt w ab ao vs) (hE : Env w) :
    Calls Tryz.prog 10 #[.string { data := #[83, 85, 77] }, .slice (some ⟨ab, ao, none⟩) vs.length C] w fun e w' => e = .returned (numVal (sumL qss.flatten)) ∧ Below w.heap.size w w' :=
  math_c_val 17 ⟨{ data := #[83, 85, 77] }, 1, 255, { data := #[97] }, true, 133⟩ (by decide) rfl rfl (fr_of 17 (by decide) (by kernel_rfl)) rfl (enters_of Tryz.func133 (by kernel_rfl) rfl) vs qss ab ao C (sumL qss.flatten) w h0 (by omega) (by show (1 : Int) ≤ _; omega) (by show _ ≤ (255 : Int); omega) hv hA hE hq (take_all (f := sumL) hf)
    (fun W => Args2 W vs qss) (hA) (fun W W' h hb => h.below hb)
    (fun W b g cap hE' hP hlt hgl ha hn hcc hne => fn_sum_mix vs qss b g cap W (by omega) hcc hq h00 h99 hf ha hn hne hgl hE' hP)

theorem m_SUMSQ (vs : List Val) (qss : List (List Rat)) (ab ao C : Nat) (w : World) (h0 : 0 < vs.length) (h9 : vs.length ≤ 255) (hA : Args2 w vs qss) (hq : ∀ qs ∈ qss, ∀ q ∈ qs, fits q = true) (hqq : ∀ qs ∈ qss, ∀ q ∈ qs, fits (q * q) = true) (h00 : 0 < qss.flatten.length) (h99 : qss.flatten.length ≤ 300000) (hf : ∀ k, k ≤ qss.flatten.length → fits (sumL ((qss.flatten.map fun q => q * q).take k)) = true) (hv : ValsAt w ab ao vs) (hE : Env w) :
    Calls Tryz.prog 10 #[.string { data := #[83, 85, 77, 83, 81] }, .slice (some ⟨ab, ao, none⟩) vs.length C] w fun e w' => e = .returned (numVal (sumL (qss.flatten.map fun q => q * q))) ∧ Below w.heap.size w w' :=
  math_c_val 19 ⟨{ data := #[83, 85, 77, 83, 81] }, 1, 255, { data := #[97] }, true, 137⟩ (by decide) rfl rfl (fr_of 19 (by decide) (by kernel_rfl)) rfl (enters_of Tryz.func137 (by kernel_rfl) rfl) vs qss ab ao C (sumL (qss.flatten.map fun q => q * q)) w h0 (by omega) (by show (1 : Int) ≤ _; omega) (by show _ ≤ (255 : Int); omega) hv hA hE hq (take_all (f := sumL) (fun k hk => hf k (by rwa [List.length_map] at hk)))
    (fun W => Args2 W vs qss) (hA) (fun W W' h hb => h.below hb)
    (fun W b g cap hE' hP hlt hgl ha hn hcc hne => fn_sumsq vs qss b g cap W (by omega) hcc hq hqq h00 h99 hf ha hn hne hgl hE' hP)

theorem m_SUMPRODUCT (vs : List Val) (qss : List (List Rat)) (r s : Int) (M : Nat) (ab ao C : Nat) (w : World) (h0 : 0 < vs.length) (h9 : vs.length ≤ 255) (hl : qss.length = vs.length) (hrs : r * s = (M : Int)) (hM : M ≤ 1000) (hr : 1 ≤ r ∧ r ≤ 1000) (hs : 1 ≤ s ∧ s ≤ 1000) (hql : ∀ qs ∈ qss, qs.length = M) (hp : ∀ j (h : j < vs.length) (h' : j < qss.length), PArg w vs[j] r s qss[j]) (hq : ∀ qs ∈ qss, ∀ q ∈ qs, fits q = true)
    (hfp : ∀ i, i < M → ∀ k, k ≤ vs.length → fits (prodL ((col qss i).take k)) = true) (hfs : ∀ k, k ≤ M → fits (sumL ((prods qss M).take k)) = true) (hv : ValsAt w ab ao vs) (hE : Env w) :
    Calls Tryz.prog 10 #[.string { data := #[83, 85, 77, 80, 82, 79, 68, 85, 67, 84] }, .slice (some ⟨ab, ao, none⟩) vs.length C] w fun e w' => e = .returned (numVal (sumL (prods qss M))) ∧ Below w.heap.size w w' :=
  math_c_val 20 ⟨{ data := #[83, 85, 77, 80, 82, 79, 68, 85, 67, 84] }, 1, 255, { data := #[97] }, true, 138⟩ (by decide) rfl rfl (fr_of 20 (by decide) (by kernel_rfl)) rfl (enters_of Tryz.func138 (by kernel_rfl) rfl) vs qss ab ao C (sumL (prods qss M)) w h0 (by omega) (by show (1 : Int) ≤ _; omega) (by show _ ≤ (255 : Int); omega) hv ⟨hl, fun j hj hj' => (hp j hj hj').aarg⟩ hE hq (take_all (f := sumL) (fun k hk => hfs k (by rwa [prods_len] at hk)))
    (fun W => ∀ j (h : j < vs.length) (h' : j < qss.length), PArg W vs[j] r s qss[j]) (hp) (fun W W' h hb j hj hj' => (h j hj hj').below hb)
    (fun W b g cap hE' hP hlt hgl ha hn hcc hne => fn_sumproduct vs qss r s M b g cap W h0 (by omega) hl hrs hM hr hs hql hcc hq hfp hfs ha hn hgl hE')

theorem m_SUMXMY2 (va vb : Val) (r s r' s' : Int) (qa qb : List Rat) (M : Nat) (ab ao C : Nat) (w : World) (hM : M ≤ 1000) (hla : qa.length = M) (hlb : qb.length = M) (hpa : PArg w va r s qa) (hpb : PArg w vb r' s' qb) (hqa : ∀ q ∈ qa, fits q = true) (hqb : ∀ q ∈ qb, fits q = true)
    (hd1 : ∀ i (h : i < qa.length) (h' : i < qb.length), fits (qa[i] - qb[i]) = true ∧ fits (sqdiff qa[i] qb[i]) = true) (hfs : ∀ k, k ≤ M → fits (sumL ((diffs qa qb).take k)) = true) (hv : ValsAt w ab ao [va, vb]) (hE : Env w) :
    Calls Tryz.prog 10 #[.string { data := #[83, 85, 77, 88, 77, 89, 50] }, .slice (some ⟨ab, ao, none⟩) 2 C] w fun e w' => e = .returned (numVal (sumL (diffs qa qb))) ∧ Below w.heap.size w w' :=
  math_c_val 23 ⟨{ data := #[83, 85, 77, 88, 77, 89, 50] }, 2, 2, { data := #[97] }, true, 144⟩ (by decide) rfl rfl (fr_of 23 (by decide) (by kernel_rfl)) rfl (enters_of Tryz.func144 (by kernel_rfl) rfl) [va, vb] [qa, qb] ab ao C (sumL (diffs qa qb)) w (show 0 < 2 from by decide) (show 2 ≤ 300 from by decide) (show (2 : Int) ≤ 2 from by decide) (show (2 : Int) ≤ 2 from by decide) hv (args2_two hpa.aarg hpb.aarg) hE (by intro qs h1; simp only [List.mem_cons, List.not_mem_nil, or_false] at h1; rcases h1 with rfl | rfl; exact hqa; exact hqb) (take_all (f := sumL) (fun k hk => hfs k (by simp [diffs] at hk; omega)))
    (fun W => PArg W va r s qa ∧ PArg W vb r' s' qb) (⟨hpa, hpb⟩) (fun W W' h hb => ⟨h.1.below hb, h.2.below hb⟩)
    (fun W b g cap hE' hP hlt hgl ha hn hcc hne => fn_sumxmy2 va vb r s r' s' qa qb M b g cap W hM hla hlb hcc.1 hcc.2 hqa hqb hd1 hfs ha hn hne hE' hP)
end Go.Proofs.YtcgglmoeneiokaaGreatDoor.Num

/- the laws' own array: at most 12 numbers as one value. Conditions: the tables lie as they are laid. -/
namespace Go.Proofs.YtcgglmoeneiokaaGreatDoor.Num
open Go.RowKit Go.Lib

/-- append to a row of the call's own, as one step of a region that draws -/
theorem step_append_own {P : Program} {ops : Array Oper} {o : Oper} {a : Act} {w : World} {K : Act → World → Prop} {Q : Exit → Act → World → Prop} {E : Prop} (hgd : o.guard = none) (s x : Operand) (t : TypeId)
    (ho : o.op = .call { callee := .builtin .append, args := #[s, x], argTypes := #[t, t] })
    (base : Nat) (e : TypeId) (i : TypeInfo) (z : Value) (size bytes : Nat) (ht : P.underlying t = some (.slice e)) (hi : P.info? e = some i) (hz : i.zero = some z)
    (hsize : i.size = size) (hby : i.bytes = bytes) (hzs : z.cells.size = size) (hsz : 0 < size)
    (v : Value) (n : Nat) (xs : List Value) (hs : a.eval s = v) (hown : w.ownsRow base e size v n xs)
    (ad : Addr) (m c : Nat) (news : List Value) (hx : a.eval x = .slice (some ad) m c) (hl : news.length = m * size) (hnews : ∀ j u, news[j]? = some u → w.cell? (ad.add j) = some u) (h1 : ∀ u ∈ news, u.oneCell' = true)
    (h63 : n + m ≤ maxLen) (hbytes : (n + m) * bytes ≤ 140737488355328) (hbase : base ≤ w.heap.size)
    (hK : ∀ v' w', w'.ownsRow base e size v' (n + m) (xs ++ news) → w.grownBy w' v.ownBlock → K (a.put o.dst v') w') :
    if Region.wanted o (yielded ops a.tmps) = true then Oper.wp P o a w K Q else E := by
  have hw : Region.wanted o (yielded ops a.tmps) = true := by simp [Region.wanted, hgd]
  rw [if_pos hw]
  exact wp_append_own w s x t ho base e i z size bytes ht hi hz hsize hby hzs hsz v n xs hs hown ad m c news hx hl hnews h1 h63 hbytes hbase fun v' w' h2 h3 _ => hK v' w' h2 h3

/-- whole numbers that came in -/
def CameInts (W : World) (A : Addr) (ns : List Int) : Prop := ∀ i (h : i < ns.length), W.cell? (A.add i) = some (.int .i64 ns[i])
theorem CameInts.below {W W' : World} {A : Addr} {ns : List Int} (h : CameInts W A ns) (hb : Below W.heap.size W W') : CameInts W' A ns := fun i hi => cell_below (h i hi) hb

theorem numVals_snoc (qs : List Rat) (q : Rat) : flat (numVals (qs ++ [q])) = flat (numVals qs) ++ (numVal' q).cells := by simp [numVals, flat]

/-- what stays while the values are collected: the result's block, the value's block, the row -/
structure ArrI (w : World) (c : Nat) (bv v : Value) (done : List Rat) (W : World) : Prop where
  res : W.heap[w.heap.size]? = some (.cells #[.int .i64 0, .string { data := #[] }, .string { data := #[] }, .string { data := #[] }, .bool false, .int .i64 0, .int .i64 0, .int .i64 0, .slice none 0 0] 27 (0, 0))
  box : W.heap[w.heap.size + 1]? = some (.cells #[.int .i64 5, .string { data := #[] }, .string { data := #[] }, .string { data := #[] }, .bool false, .int .i64 0, .int .i64 1, .int .i64 (c : Int), bv] 27 (0, 0))
  low : Below w.heap.size w W
  own : W.ownsRow (w.heap.size + 2) 27 9 v done.length (flat (numVals done))
theorem ArrI.step {w W W' : World} {c : Nat} {bv v : Value} {done : List Rat} (h : ArrI w c bv v done W) (hb : Below W.heap.size W W') : ArrI w c bv v done W' :=
  ⟨keep_block h.res hb, keep_block h.box hb, h.low.trans (hb.mono h.low.size), h.own.kept (only_of_below hb none) (by cases v.ownBlock <;> simp)⟩
theorem ArrI.size {w W : World} {c : Nat} {bv v : Value} {done : List Rat} (h : ArrI w c bv v done W) : w.heap.size + 2 ≤ W.heap.size := heap_lt h.box
theorem ArrI.push {w W W' : World} {c : Nat} {bv v v' : Value} {done : List Rat} {q : Rat} (h : ArrI w c bv v done W) (ho : W'.ownsRow (w.heap.size + 2) 27 9 v' (done.length + 1) (flat (numVals done) ++ (numVal' q).cells)) (hg : W.grownBy W' v.ownBlock) : ArrI w c bv v' (done ++ [q]) W' := by
  have hge : ∀ r, v.ownBlock = some r → w.heap.size + 2 ≤ r := owned_lt h.own
  have hother : ∀ k, k < w.heap.size + 2 → W'.heap[k]? = W.heap[k]? := fun k hk => hg.block k (Nat.lt_of_lt_of_le hk h.size) (fun e => by have := hge k e.symm; omega)
  exact ⟨(hother _ (by omega)).trans h.res, (hother _ (by omega)).trans h.box, h.low.grown hg h.low.size (fun r hr => by have := hge r hr; omega), by rw [numVals_snoc, List.length_append]; exact ho⟩
theorem ArrI.store {w W : World} {c : Nat} {bv v : Value} {done : List Rat} (h : ArrI w c bv v done W) : ArrI w c v v done (W.setCell ⟨w.heap.size + 1, 8, none⟩ v) := by
  refine ⟨(Below.heap_setCell _ ⟨w.heap.size + 1, 8, none⟩ v w.heap.size (by simp only []; omega)).trans h.res, ?_, h.low.setCell (p := ⟨w.heap.size + 1, 8, none⟩) (by simp only []; omega) _, ownsRow_setCell_below h.own (a := ⟨w.heap.size + 1, 8, none⟩) (by simp only []; omega) v⟩
  have := heap_setCell_at h.box 8 v
  rw [this]; rfl

set_option maxHeartbeats 8000000 in
set_option maxRecDepth 100000 in
theorem karr_some (A : Addr) (ns : List Int) (L C : Nat) (w : World) (hL : ns.length = L) (h0 : 0 < L) (hm : L ≤ 9223372036854775807) (hLC : L ≤ C) (hn : ∀ n ∈ ns, -9223372036854775808 ≤ n ∧ n ≤ 9223372036854775807) (hc : CameInts w A ns) (hE : Env w) :
    Calls Tryz.prog 18 #[.slice (some A) L C] w fun e w' => ∃ v s, e = .returned v.agg ∧ PArg w' v 1 s ((ns.take 12).map hundredths) ∧ Below w.heap.size w w' := by
  obtain ⟨c, hcv⟩ : ∃ c, (ns.take 12).length = c := ⟨_, rfl⟩
  have hc12 : c ≤ 12 := by rw [← hcv]; simp; omega
  have hc0 : 0 < c := by rw [← hcv]; simp; omega
  have hcL : c ≤ L := by rw [← hcv]; simp; omega
  have hmin : min (L : Int) 12 = (c : Int) := by rw [← hcv]; simp; omega
  have hcz : ((c : Int) == 0) = false := by simp; omega
  have HQ := Lib.hid (show ∀ (k : Nat) (hk : k < c), ∃ (h : k < ns.length), (((ns.take 12).map hundredths).take (k + 1) = ((ns.take 12).map hundredths).take k ++ [hundredths ns[k]]) ∧ (((ns.take 12).map hundredths).take k).length = k by
    intro k hk
    have hk' : k < ns.length := by omega
    have hk2 : k < ((ns.take 12).map hundredths).length := by rw [List.length_map, hcv]; exact hk
    refine ⟨hk', ?_, by rw [List.length_take]; omega⟩
    rw [List.take_succ_eq_append_getElem hk2]
    simp)
  have HQL := Lib.hid (show ((ns.take 12).map hundredths).length = c by rw [List.length_map, hcv])
  obtain ⟨qs, hqs⟩ : ∃ qs, (ns.take 12).map hundredths = qs := ⟨_, rfl⟩
  rw [hqs] at HQ HQL ⊢
  have HN := Lib.hid hn
  have HC := Lib.hid hc
  have HEW := Lib.hid hE
  have hb2 : Below w.heap.size w ((w.alloc (.cells #[.int .i64 0, .string { data := #[] }, .string { data := #[] }, .string { data := #[] }, .bool false, .int .i64 0, .int .i64 0, .int .i64 0, .slice none 0 0] 27)).alloc (.cells #[.int .i64 5, .string { data := #[] }, .string { data := #[] }, .string { data := #[] }, .bool false, .int .i64 0, .int .i64 1, .int .i64 (c : Int), .slice none 0 0] 27)) := ((Below.refl _ _).alloc (Nat.le_refl _) _).alloc (by simp) _
  have HI0 := Lib.hid (show ArrI w c (.slice none 0 0) (.slice none 0 0) [] _ from ⟨keep_block (heap_alloc_new w _) ((Below.refl _ _).alloc (Nat.le_refl _) _), by have := heap_alloc_new (w.alloc (.cells #[.int .i64 0, .string { data := #[] }, .string { data := #[] }, .string { data := #[] }, .bool false, .int .i64 0, .int .i64 0, .int .i64 0, .slice none 0 0] 27)) (.cells #[.int .i64 5, .string { data := #[] }, .string { data := #[] }, .string { data := #[] }, .bool false, .int .i64 0, .int .i64 1, .int .i64 (c : Int), .slice none 0 0] 27); rw [World.size_alloc] at this; exact this, hb2, World.ownsRow_nil _ _ _ _⟩)
  obtain ⟨i0, hi0', hz0, hz1, hz2⟩ := info_val
  clear hb2 hqs hcv hn hc hE
  go_enter Tryz.func18, Tryz.ntmps18
  go_wp2_with fail
  go_loopg [15] c (fun gh v15 wx => ∃ k v, v15 = .int .i64 ((k : Nat) : Int) ∧ k ≤ c ∧ gh = c - k ∧ ArrI w c v v (qs.take k) wx)
  case atStart => exact ⟨0, _, rfl, Nat.zero_le _, rfl, HI0.out⟩
  case round =>
    clear HI0
    obtain ⟨k, v, rfl, hk, rfl, hti⟩ := hrel
    have HTI := Lib.hid hti
    by_cases hlt : k < c
    · have hd : decide ((k : Int) < (c : Int)) = true := decide_eq_true (by omega)
      have hd2 : decide (k < c) = true := decide_eq_true hlt
      obtain ⟨hkn, htk, hdl⟩ := HQ.out k hlt
      have hcell := cell_below (HC.out k hkn) HTI.out.low
      obtain ⟨hb1, hb2⟩ := HN.out _ (List.getElem_mem hkn)
      obtain ⟨z, hz⟩ : ∃ z, ns[k] = z := ⟨_, rfl⟩
      rw [hz] at hcell hb1 hb2 htk
      have TN := Lib.hid (fun W g => knumber_any z hb1 hb2 W g)
      obtain ⟨q, hq⟩ : ∃ q, hundredths z = q := ⟨_, rfl⟩
      rw [hq] at TN htk
      rw [numVal_is q] at TN
      have HTK := Lib.hid htk
      have HDL := Lib.hid hdl
      have hown := hti.own
      rw [hdl] at hown
      obtain ⟨av, cv, hu⟩ := owns_form hown
      subst hu
      have hi0 : (0 : Int) ≤ (k : Int) := by omega
      have hi1 : (k : Int) < (c : Int) := by omega
      have hml : k + 1 ≤ maxLen := by unfold maxLen; omega
      clear hti hown htk hdl hb1 hb2 hz hq hkn
      go_upto_region 5 with fail
      clear hcell
      replace HTI := Lib.hid (HTI.out.step ((Below.refl wr.heap.size wr).drew))
      obtain ⟨⟨x0, x1, x2, x3, x4, x5, x6, x7, x8⟩, y0, y1, y2, y3, y4, y5, y6, y7, y8⟩ := nine_at HTI.out.box
      go_region_law (first
        | (have HT3 := Lib.hid (HT2.out.step ((Below.refl W2.heap.size W2).alloc (Nat.le_refl _) (.cells #[.int .i64 1, .string (numS q), .string (denS q), .string { data := #[] }, .bool false, .int .i64 0, .int .i64 0, .int .i64 0, .slice none 0 0] 27)));
           have HOW := Lib.hid (show (W2.alloc (.cells #[.int .i64 1, .string (numS q), .string (denS q), .string { data := #[] }, .bool false, .int .i64 0, .int .i64 0, .int .i64 0, .slice none 0 0] 27)).ownsRow (w.heap.size + 2) 27 9 (.slice av k cv) k (flat (numVals (qs.take k))) from by have := HT3.out.own; rw [HDL.out] at this; exact this);
           have HNW := Lib.hid (World.news_of_block (cs := #[.int .i64 1, .string (numS q), .string (denS q), .string { data := #[] }, .bool false, .int .i64 0, .int .i64 0, .int .i64 0, .slice none 0 0]) (t := 27) (fr := (0, 0)) (heap_alloc_new W2 (.cells #[.int .i64 1, .string (numS q), .string (denS q), .string { data := #[] }, .bool false, .int .i64 0, .int .i64 0, .int .i64 0, .slice none 0 0] 27)));
           refine step_append_own rfl _ _ 25 rfl (w.heap.size + 2) 27 i0 _ 9 112 Tryz.underlying25 hi0' hz0 hz1 hz2 rfl (by decide) (.slice av k cv) k (flat (numVals (qs.take k))) (by simp [Act.eval, Act.put]) HOW.out ⟨W2.heap.size, 0, none⟩ 1 1 [.int .i64 1, .string (numS q), .string (denS q), .string { data := #[] }, .bool false, .int .i64 0, .int .i64 0, .int .i64 0, .slice none 0 0] (by simp [Act.eval, Act.put]) rfl HNW.out (by simp [Value.oneCell']) hml (by omega) HT3.out.size ?_;
           intro v5 w5 hown5 hgrow5;
           obtain ⟨a5, c5, hu5⟩ := owns_form hown5;
           subst hu5;
           have HT5 := Lib.hid (HT3.out.push (by rw [HDL.out]; exact hown5) hgrow5);
           rw [← HTK.out] at HT5;
           clear hown5 hgrow5 HT3 HOW HNW;
           obtain ⟨⟨x0, x1, x2, x3, x4, x5, x6, x7, x8⟩, y0, y1, y2, y3, y4, y5, y6, y7, y8⟩ := nine_at HT5.out.box)
        | (go_simp; go_at_call 14; (with_reducible refine (TN.out _ (HEW.out.below HTI.out.low)).mono ?_); rintro e W2 ⟨rfl, hb⟩; have HT2 := Lib.hid (HTI.out.step hb); clear hb; obtain ⟨⟨x0, x1, x2, x3, x4, x5, x6, x7, x8⟩, y0, y1, y2, y3, y4, y5, y6, y7, y8⟩ := nine_at HT2.out.box; obtain ⟨⟨_, _, _, _, _, _, _, _, z8⟩, _⟩ := nine_at (HT2.out.step ((Below.refl W2.heap.size W2).alloc (Nat.le_refl _) (.cells #[.int .i64 1, .string (numS q), .string (denS q), .string { data := #[] }, .bool false, .int .i64 0, .int .i64 0, .int .i64 0, .slice none 0 0] 27))).box))
      all_goals
        have HT6 := Lib.hid HT5.out.store
        go_wp2
        go_roundg (c - (k + 1))
        case measure => omega
        case rel => exact ⟨k + 1, _, by go_num, by omega, by omega, HT6.out⟩
    · have hd : decide ((k : Int) < (c : Int)) = false := decide_eq_false (by omega)
      have hd2 : decide (k < c) = false := decide_eq_false hlt
      have hkL : k = c := by omega
      have hall : qs.take k = qs := by rw [hkL, ← HQL.out, List.take_length]
      rw [hall] at HTI
      have hown := HTI.out.own
      rw [HQL.out] at hown
      obtain ⟨g, cap, hv, hg, hcap, hva⟩ := vals_of_owns hown (by rw [numVals_len]; exact HQL.out) hc0
      subst hv
      clear hti hall hkL hlt hown
      obtain ⟨⟨x0, x1, x2, x3, x4, x5, x6, x7, x8⟩, y0, y1, y2, y3, y4, y5, y6, y7, y8⟩ := nine_at HTI.out.box
      obtain ⟨⟨r0, r1, r2, r3, r4, r5, r6, r7, r8⟩, g0, g1, g2, g3, g4, g5, g6, g7, g8⟩ := nine_at HTI.out.res
      have HVA := Lib.hid (vals_other hva (set9_other wr w.heap.size (.int .i64 5) (.string { data := #[] }) (.string { data := #[] }) (.string { data := #[] }) (.bool false) (.int .i64 0) (.int .i64 1) (.int .i64 (c : Int)) (.slice (some ⟨g, 0, none⟩) c cap) (show g ≠ w.heap.size by omega)))
      obtain ⟨nb, z0, z1, z2, z3, z4, z5, z6, z7, z8⟩ := nine_end (x0 := (.int .i64 5)) (x1 := (.string { data := #[] })) (x2 := (.string { data := #[] })) (x3 := (.string { data := #[] })) (x4 := (.bool false)) (x5 := (.int .i64 0)) (x6 := (.int .i64 1)) (x7 := (.int .i64 (c : Int))) (x8 := (.slice (some ⟨g, 0, none⟩) c cap)) HTI.out.res HTI.out.low (Nat.le_refl _)
      have NB := Lib.hid nb
      clear hva nb
      go_wp2
      refine bodyPost_ret (v := (arrVal' 1 (c : Int) g c cap).agg) (by simp [arrVal', Val.agg, results, Tryz.results18, go_sem, z0, z1, z2, z3, z4, z5, z6, z7, z8]) rfl ⟨_, (c : Int), rfl, .inr ⟨g, cap, by rw [HQL.out], by decide, by decide, by omega, by omega, by rw [HQL.out]; omega, by rw [HQL.out]; exact hc0, by rw [HQL.out]; omega, HVA.out⟩, NB.out⟩

set_option maxHeartbeats 8000000 in
set_option maxRecDepth 100000 in
/-- a row of no number -/
theorem karr_none (A : Option Addr) (C : Nat) (w : World) (hE : Env w) :
    Calls Tryz.prog 18 #[.slice A 0 C] w fun e w' => e = .returned (numVal (hundredths 0)) ∧ Below w.heap.size w w' := by
  have TN := Lib.hid (fun W g => knumber_any 0 (by decide) (by decide) W g)
  rw [numVal_is (hundredths 0)] at TN ⊢
  have hb2 : Below w.heap.size w ((w.alloc (.cells #[.int .i64 0, .string { data := #[] }, .string { data := #[] }, .string { data := #[] }, .bool false, .int .i64 0, .int .i64 0, .int .i64 0, .slice none 0 0] 27)).alloc (.cells #[.int .i64 5, .string { data := #[] }, .string { data := #[] }, .string { data := #[] }, .bool false, .int .i64 0, .int .i64 1, .int .i64 0, .slice none 0 0] 27)) := ((Below.refl _ _).alloc (Nat.le_refl _) _).alloc (by simp) _
  have HI0 := Lib.hid (show ArrI w 0 (.slice none 0 0) (.slice none 0 0) [] _ from ⟨keep_block (heap_alloc_new w _) ((Below.refl _ _).alloc (Nat.le_refl _) _), by have := heap_alloc_new (w.alloc (.cells #[.int .i64 0, .string { data := #[] }, .string { data := #[] }, .string { data := #[] }, .bool false, .int .i64 0, .int .i64 0, .int .i64 0, .slice none 0 0] 27)) (.cells #[.int .i64 5, .string { data := #[] }, .string { data := #[] }, .string { data := #[] }, .bool false, .int .i64 0, .int .i64 1, .int .i64 0, .slice none 0 0] 27); rw [World.size_alloc] at this; exact this, hb2, World.ownsRow_nil _ _ _ _⟩)
  have HEW := Lib.hid hE
  obtain ⟨⟨x0, x1, x2, x3, x4, x5, x6, x7, x8⟩, y0, y1, y2, y3, y4, y5, y6, y7, y8⟩ := nine_at HI0.out.box
  have hmin : min (0 : Int) 12 = 0 := by decide
  clear hb2 hE
  cases A
  all_goals
    go_enter Tryz.func18, Tryz.ntmps18
    go_wp2_with fail
    refine wp_loop_rounds 1 ?_
    rw [rounds_succ]
    go_wp2_with fail
    refine (TN.out _ (HEW.out.below HI0.out.low)).mono ?_
    rintro e w1 ⟨rfl, hb⟩
    have HTI := Lib.hid (HI0.out.step hb)
    clear hb
    obtain ⟨⟨r0, r1, r2, r3, r4, r5, r6, r7, r8⟩, g0, g1, g2, g3, g4, g5, g6, g7, g8⟩ := nine_at HTI.out.res
    obtain ⟨nb, z0, z1, z2, z3, z4, z5, z6, z7, z8⟩ := nine_end (x0 := (.int .i64 1)) (x1 := (.string (numS (hundredths 0)))) (x2 := (.string (denS (hundredths 0)))) (x3 := (.string { data := #[] })) (x4 := (.bool false)) (x5 := (.int .i64 0)) (x6 := (.int .i64 0)) (x7 := (.int .i64 0)) (x8 := (.slice none 0 0)) HTI.out.res HTI.out.low (Nat.le_refl _)
    have NB := Lib.hid nb
    clear nb
    go_wp2
    refine bodyPost_ret (v := .agg #[.int .i64 1, .string (numS (hundredths 0)), .string (denS (hundredths 0)), .string { data := #[] }, .bool false, .int .i64 0, .int .i64 0, .int .i64 0, .slice none 0 0]) (by simp [results, Tryz.results18, go_sem, z0, z1, z2, z3, z4, z5, z6, z7, z8]) rfl ⟨rfl, NB.out⟩
end Go.Proofs.YtcgglmoeneiokaaGreatDoor.Num

/- Sums of hundredths, of their squares, products and differences: what fits and what is equal. Plain: no program. -/
namespace Go.Proofs.YtcgglmoeneiokaaGreatDoor.Num

def over (c : Nat) (xs : List Int) : List Rat := xs.map fun (x : Int) => (x : Rat) / ((c : Nat) : Rat)
theorem foldl_add (qs : List Rat) : ∀ s : Rat, qs.foldl (· + ·) s = s + sumL qs := by
  unfold sumL
  induction qs with
  | nil => intro s; simp [Rat.add_zero]
  | cons q r ih => intro s; rw [List.foldl_cons, List.foldl_cons, ih, ih (0 + q)]; grind
theorem sumL_cons (q : Rat) (qs : List Rat) : sumL (q :: qs) = q + sumL qs := by
  show (q :: qs).foldl (· + ·) 0 = _
  rw [List.foldl_cons, foldl_add]; grind
theorem sumL_append (a b : List Rat) : sumL (a ++ b) = sumL a + sumL b := by
  show (a ++ b).foldl (· + ·) 0 = _
  rw [List.foldl_append, foldl_add]; rfl
theorem sumL_over (c : Nat) : ∀ xs : List Int, sumL (over c xs) = ((xs.sum : Int) : Rat) / ((c : Nat) : Rat)
  | [] => by show (0 : Rat) = _; simp; grind
  | x :: r => by
    show sumL ((x : Rat) / ((c : Nat) : Rat) :: over c r) = _
    rw [sumL_cons, sumL_over c r, List.sum_cons, Rat.intCast_add]; grind
theorem sum_bound (X : Nat) : ∀ xs : List Int, (∀ x ∈ xs, x.natAbs ≤ X) → xs.sum.natAbs ≤ xs.length * X
  | [], _ => by simp
  | x :: r, h => by
    have h1 := h x (by simp)
    have h2 := sum_bound X r (fun y hy => h y (by simp [hy]))
    rw [List.sum_cons, List.length_cons, Nat.add_mul, Nat.one_mul]
    omega
theorem over_take (c : Nat) (xs : List Int) (k : Nat) : (over c xs).take k = over c (xs.take k) := by simp [over]

theorem fits_over {c X : Nat} {xs : List Int} (hc : c ≠ 0) (hc9 : c ≤ 10000) (hl : xs.length ≤ 24) (hX : X ≤ 1000000000000) (h : ∀ x ∈ xs, x.natAbs ≤ X) (k : Nat) : fits (sumL ((over c xs).take k)) = true := by
  rw [over_take, sumL_over]
  refine Sm.fits (A := 24 * 1000000000000) (B := 10000) ⟨_, c, hc, rfl, ?_, hc9⟩ (by decide +kernel) (by decide +kernel)
  refine Nat.le_trans (sum_bound X _ (fun x hx => h x (List.mem_of_mem_take hx))) (Nat.mul_le_mul ?_ hX)
  rw [List.length_take]; omega

def sq (q : Rat) : Rat := q * q
/-- a row of numbers whose sums and whose squares' sums fit -/
structure Good (qs : List Rat) : Prop where
  pos : 0 < qs.length
  len : qs.length ≤ 24
  each : ∀ q ∈ qs, fits q = true
  sqs : ∀ q ∈ qs, fits (q * q) = true
  sum : ∀ k, fits (sumL (qs.take k)) = true
  sumsq : ∀ k, fits (sumL ((qs.map fun q => q * q).take k)) = true
theorem over_sq (c : Nat) (xs : List Int) : ((over c xs).map fun q => q * q) = over (c * c) (xs.map fun x => x * x) := by
  simp only [over, List.map_map]
  apply List.map_congr_left
  intro x _
  show (x : Rat) / ((c : Nat) : Rat) * ((x : Rat) / ((c : Nat) : Rat)) = ((x * x : Int) : Rat) / ((c * c : Nat) : Rat)
  rw [Rat.intCast_mul, Rat.natCast_mul]
  by_cases h : ((c : Nat) : Rat) = 0
  · rw [h]; grind
  · grind
theorem good_over {xs : List Int} (h0 : 0 < xs.length) (hl : xs.length ≤ 24) (h : ∀ x ∈ xs, x.natAbs ≤ 1000000) : Good (over 100 xs) := by
  have hs : ∀ x ∈ xs.map (fun x => x * x), x.natAbs ≤ 1000000000000 := by
    intro x hx
    obtain ⟨y, hy, rfl⟩ := List.mem_map.1 hx
    rw [Int.natAbs_mul]
    exact Nat.mul_le_mul (h y hy) (h y hy)
  have one : ∀ x ∈ xs, Sm ((x : Rat) / ((100 : Nat) : Rat)) 1000000 100 := fun x hx => ⟨x, 100, by decide, rfl, h x hx, Nat.le_refl _⟩
  refine ⟨by simpa [over] using h0, by simpa [over] using hl, ?_, ?_, ?_, ?_⟩
  · intro q hq
    obtain ⟨x, hx, rfl⟩ := List.mem_map.1 hq
    exact (one x hx).fits (by decide +kernel) (by decide +kernel)
  · intro q hq
    obtain ⟨x, hx, rfl⟩ := List.mem_map.1 hq
    exact ((one x hx).mul (one x hx)).fits (by decide +kernel) (by decide +kernel)
  · exact fits_over (by decide) (by decide) hl (by decide) h
  · rw [over_sq]
    exact fits_over (by decide) (by decide) (by simpa using hl) (by decide) hs
theorem over_append (c : Nat) (xs ys : List Int) : over c (xs ++ ys) = over c xs ++ over c ys := by simp [over]

/-- the numbers of one array of the laws -/
def arrInts (ns : List Int) : List Int := if ns = [] then [0 % 2000001 - 1000000] else (ns.take 12).map fun n => n % 2000001 - 1000000
theorem arrInts_pos (ns : List Int) : 0 < (arrInts ns).length := by
  unfold arrInts
  split
  · simp
  · rename_i h
    have : 0 < ns.length := List.length_pos_iff.2 h
    simp; omega
theorem arrInts_len (ns : List Int) : (arrInts ns).length ≤ 12 := by
  unfold arrInts
  split <;> simp; omega
theorem arrInts_le (ns : List Int) : ∀ x ∈ arrInts ns, x.natAbs ≤ 1000000 := by
  intro x hx
  unfold arrInts at hx
  split at hx
  · simp at hx; omega
  · obtain ⟨n, _, rfl⟩ := List.mem_map.1 hx
    omega
theorem hundredths_over (n : Int) : hundredths n = ((n % 2000001 - 1000000 : Int) : Rat) / ((100 : Nat) : Rat) := by
  unfold hundredths
  rfl
theorem arr_some {ns : List Int} (h : ns ≠ []) : (ns.take 12).map hundredths = over 100 (arrInts ns) := by
  unfold arrInts
  rw [if_neg h]
  simp only [over, List.map_map]
  apply List.map_congr_left
  intro n _
  exact hundredths_over n
theorem arr_none : [hundredths 0] = over 100 (arrInts []) := by
  show [hundredths 0] = [_]
  rw [hundredths_over]
theorem good_arr (ns : List Int) : Good (over 100 (arrInts ns)) := good_over (arrInts_pos ns) (by have := arrInts_len ns; omega) (arrInts_le ns)
theorem good_two (ns ms : List Int) : Good (over 100 (arrInts ns) ++ over 100 (arrInts ms)) := by
  rw [← over_append]
  refine good_over (by have := arrInts_pos ns; rw [List.length_append]; omega) (by have := arrInts_len ns; have := arrInts_len ms; rw [List.length_append]; omega) ?_
  intro x hx
  rcases List.mem_append.1 hx with h | h
  · exact arrInts_le ns x h
  · exact arrInts_le ms x h

/-- products of a row with itself -/
theorem prodL_two (x : Rat) : prodL [x, x] = x * x := by show 1 * x * x = x * x; grind
theorem prods_self (qs : List Rat) : prods [qs, qs] qs.length = qs.map fun q => q * q := by
  apply List.ext_getElem
  · simp [prods]
  · intro i h1 h2
    have hi : i < qs.length := by simpa [prods] using h1
    simp only [prods, col, List.getElem_map, List.getElem_range, List.map_cons, List.map_nil, List.getD_eq_getElem?_getD, List.getElem?_eq_getElem hi, Option.getD_some]
    exact prodL_two _
theorem prefix_self {qs : List Rat} (g : Good qs) (i : Nat) (hi : i < qs.length) (k : Nat) (hk : k ≤ 2) : fits (prodL ((col [qs, qs] i).take k)) = true := by
  have hc : col [qs, qs] i = [qs[i], qs[i]] := by simp [col, hi]
  rw [hc]
  have hm := List.getElem_mem hi
  rcases (by omega : k = 0 ∨ k = 1 ∨ k = 2) with rfl | rfl | rfl
  · exact (by decide +kernel : fits (prodL []) = true)
  · show fits (1 * qs[i]) = true
    rw [Rat.one_mul]; exact g.each _ hm
  · show fits (1 * qs[i] * qs[i]) = true
    rw [Rat.one_mul]; exact g.sqs _ hm
/-- differences of a row with itself -/
theorem sqdiff_self (x : Rat) : sqdiff x x = 0 := by unfold sqdiff; grind
theorem diffs_self (qs : List Rat) : diffs qs qs = qs.map fun _ => (0 : Rat) := by
  unfold diffs
  rw [List.zipWith_self]
  apply List.map_congr_left
  intro x _
  exact sqdiff_self x
theorem sum_zeros : ∀ (qs : List Rat), sumL (qs.map fun _ => (0 : Rat)) = 0
  | [] => rfl
  | x :: r => by rw [List.map_cons, sumL_cons, sum_zeros r]; grind
theorem diffs_sum (qs : List Rat) : sumL (diffs qs qs) = 0 := by rw [diffs_self, sum_zeros]
theorem diffs_pre (qs : List Rat) (k : Nat) : sumL ((diffs qs qs).take k) = 0 := by rw [diffs_self, ← List.map_take, sum_zeros]
end Go.Proofs.YtcgglmoeneiokaaGreatDoor.Num
