/- Numbers as texts of digits, fractions, values and the functions of fmath: contracts of the program's functions, joined from smaller texts. Conditions stand at each theorem. -/
import Derived.Test.YtemdjmaakajhjaaGreatDoorFttA
import Derived.Deep.DeepCutAuto

/- The law FstatLines' own walk where the line is flat. Conditions: what the functions give; the tables lie as they are laid. -/
namespace Go.Proofs.YtemdjmaakajhjaaGreatDoor.Num.Ft
open Go.RowKit Go.Lib Num
attribute [local irreducible] wpOp
set_option linter.unusedVariables false in
/-- what the operations of region 10 yield -/
def FtLinBKs10 (x pv p kq bq : Rat) (BB k cv : Nat) (av : Option Addr) : List RK :=
  [.pure (.pointer (some ⟨BB, 8, none⟩)),
   .pure (.slice av k cv),
   .pure (.agg #[.int .i64 1, .string (numS x), .string (denS x), .string { data := #[] }, .bool false, .int .i64 0, .int .i64 0, .int .i64 0, .slice none 0 0]),
   .pure (.agg #[.int .i64 1, .string (numS kq), .string (denS kq), .string { data := #[] }, .bool false, .int .i64 0, .int .i64 0, .int .i64 0, .slice none 0 0]),
   .row #[.int .i64 1, .string (numS x), .string (denS x), .string { data := #[] }, .bool false, .int .i64 0, .int .i64 0, .int .i64 0, .slice none 0 0, .int .i64 1, .string (numS kq), .string (denS kq), .string { data := #[] }, .bool false, .int .i64 0, .int .i64 0, .int .i64 0, .slice none 0 0] 27 2,
   .pure (.agg #[.int .i64 1, .string (numS pv), .string (denS pv), .string { data := #[] }, .bool false, .int .i64 0, .int .i64 0, .int .i64 0, .slice none 0 0]),
   .pure (.agg #[.int .i64 1, .string (numS bq), .string (denS bq), .string { data := #[] }, .bool false, .int .i64 0, .int .i64 0, .int .i64 0, .slice none 0 0]),
   .pure (.agg #[.int .i64 1, .string (numS p), .string (denS p), .string { data := #[] }, .bool false, .int .i64 0, .int .i64 0, .int .i64 0, .slice none 0 0]),
   .row #[.int .i64 1, .string (numS p), .string (denS p), .string { data := #[] }, .bool false, .int .i64 0, .int .i64 0, .int .i64 0, .slice none 0 0] 27 1,
   .put 0,
   .put 0,
   .put 0]
set_option linter.unusedVariables false in
/-- what the operations of region 14 yield -/
def FtLinBKs14 (k g cap g2 cap2 B7 BB B9 B10 : Nat) (kq bq fc ten tk one : Rat) (w3 : World) : List RK :=
  [.pure (.agg #[.int .i64 5, .string { data := #[] }, .string { data := #[] }, .string { data := #[] }, .bool false, .int .i64 0, .int .i64 (k : Int), .int .i64 1, .slice (some ⟨g2, 0, none⟩) k cap2]),
   .pure (.agg #[.int .i64 5, .string { data := #[] }, .string { data := #[] }, .string { data := #[] }, .bool false, .int .i64 0, .int .i64 (k : Int), .int .i64 1, .slice (some ⟨g, 0, none⟩) k cap]),
   .row #[.int .i64 5, .string { data := #[] }, .string { data := #[] }, .string { data := #[] }, .bool false, .int .i64 0, .int .i64 (k : Int), .int .i64 1, .slice (some ⟨g2, 0, none⟩) k cap2, .int .i64 5, .string { data := #[] }, .string { data := #[] }, .string { data := #[] }, .bool false, .int .i64 0, .int .i64 (k : Int), .int .i64 1, .slice (some ⟨g, 0, none⟩) k cap] 27 2,
   .pure (.agg #[.int .i64 1, .string (numS kq), .string (denS kq), .string { data := #[] }, .bool false, .int .i64 0, .int .i64 0, .int .i64 0, .slice none 0 0]),
   .pure (.agg #[.int .i64 1, .string (numS kq), .string (denS kq), .string { data := #[] }, .bool false, .int .i64 0, .int .i64 0, .int .i64 0, .slice none 0 0]),
   .pure (.bool true),
   .pure (.bool true),
   .pure (.agg #[.int .i64 5, .string { data := #[] }, .string { data := #[] }, .string { data := #[] }, .bool false, .int .i64 0, .int .i64 (k : Int), .int .i64 1, .slice (some ⟨g2, 0, none⟩) k cap2]),
   .pure (.agg #[.int .i64 5, .string { data := #[] }, .string { data := #[] }, .string { data := #[] }, .bool false, .int .i64 0, .int .i64 (k : Int), .int .i64 1, .slice (some ⟨g, 0, none⟩) k cap]),
   .row #[.int .i64 5, .string { data := #[] }, .string { data := #[] }, .string { data := #[] }, .bool false, .int .i64 0, .int .i64 (k : Int), .int .i64 1, .slice (some ⟨g2, 0, none⟩) k cap2, .int .i64 5, .string { data := #[] }, .string { data := #[] }, .string { data := #[] }, .bool false, .int .i64 0, .int .i64 (k : Int), .int .i64 1, .slice (some ⟨g, 0, none⟩) k cap] 27 2,
   .pure (.agg #[.int .i64 1, .string (numS bq), .string (denS bq), .string { data := #[] }, .bool false, .int .i64 0, .int .i64 0, .int .i64 0, .slice none 0 0]),
   .pure (.agg #[.int .i64 1, .string (numS bq), .string (denS bq), .string { data := #[] }, .bool false, .int .i64 0, .int .i64 0, .int .i64 0, .slice none 0 0]),
   .pure (.bool true),
   .pure (.bool true),
   .pure (.bool true),
   .pure (.agg #[.int .i64 1, .string (numS ten), .string (denS ten), .string { data := #[] }, .bool false, .int .i64 0, .int .i64 0, .int .i64 0, .slice none 0 0]),
   .pure (.agg #[.int .i64 5, .string { data := #[] }, .string { data := #[] }, .string { data := #[] }, .bool false, .int .i64 0, .int .i64 (k : Int), .int .i64 1, .slice (some ⟨g2, 0, none⟩) k cap2]),
   .pure (.agg #[.int .i64 5, .string { data := #[] }, .string { data := #[] }, .string { data := #[] }, .bool false, .int .i64 0, .int .i64 (k : Int), .int .i64 1, .slice (some ⟨g, 0, none⟩) k cap]),
   .row #[.int .i64 1, .string (numS ten), .string (denS ten), .string { data := #[] }, .bool false, .int .i64 0, .int .i64 0, .int .i64 0, .slice none 0 0, .int .i64 5, .string { data := #[] }, .string { data := #[] }, .string { data := #[] }, .bool false, .int .i64 0, .int .i64 (k : Int), .int .i64 1, .slice (some ⟨g2, 0, none⟩) k cap2, .int .i64 5, .string { data := #[] }, .string { data := #[] }, .string { data := #[] }, .bool false, .int .i64 0, .int .i64 (k : Int), .int .i64 1, .slice (some ⟨g, 0, none⟩) k cap] 27 3,
   .pure (.agg #[.int .i64 1, .string (numS fc), .string (denS fc), .string { data := #[] }, .bool false, .int .i64 0, .int .i64 0, .int .i64 0, .slice none 0 0]),
   .pure (.agg #[.int .i64 1, .string (numS ten), .string (denS ten), .string { data := #[] }, .bool false, .int .i64 0, .int .i64 0, .int .i64 0, .slice none 0 0]),
   .pure (.agg #[.int .i64 1, .string (numS kq), .string (denS kq), .string { data := #[] }, .bool false, .int .i64 0, .int .i64 0, .int .i64 0, .slice none 0 0]),
   .row #[.int .i64 1, .string (numS ten), .string (denS ten), .string { data := #[] }, .bool false, .int .i64 0, .int .i64 0, .int .i64 0, .slice none 0 0, .int .i64 1, .string (numS kq), .string (denS kq), .string { data := #[] }, .bool false, .int .i64 0, .int .i64 0, .int .i64 0, .slice none 0 0] 27 2,
   .pure (.agg #[.int .i64 1, .string (numS tk), .string (denS tk), .string { data := #[] }, .bool false, .int .i64 0, .int .i64 0, .int .i64 0, .slice none 0 0]),
   .pure (.agg #[.int .i64 1, .string (numS bq), .string (denS bq), .string { data := #[] }, .bool false, .int .i64 0, .int .i64 0, .int .i64 0, .slice none 0 0]),
   .pure (.agg #[.int .i64 1, .string (numS fc), .string (denS fc), .string { data := #[] }, .bool false, .int .i64 0, .int .i64 0, .int .i64 0, .slice none 0 0]),
   .pure (.bool true),
   .pure (.bool true),
   .pure (.bool true),
   .pure (.bool true),
   .pure (.bool true),
   .pure (.pointer (some ⟨w3.heap.size, 5, none⟩)),
   .pure (.int .i64 1),
   .pure (.bool true),
   .pure (.bool true),
   .pure (.bool true),
   .pure (undef),
   .pure (undef),
   .pure (undef),
   .pure (.bool true),
   .pure (.bool true),
   .pure (.bool true)]
set_option linter.unusedSimpArgs false in
set_option linter.unusedVariables false in
set_option maxHeartbeats 16000000 in
set_option maxRecDepth 100000 in
theorem lines_flat (A : Option Addr) (L C ln : Nat) (z y : Int) (zs : List Int) (qs ps vk : List Rat) (kq bq fc ten tk one : Rat) (w : World) (hE : EnvY w)
    (hi : IntsIn w A L C zs)
    (hL9 : L ≤ 17592186043904)
    (hxs : qs = over 1 (tabI (if L = 0 then [0, 1, 3] else 0 :: 1 :: zs)))
    (hln : qs.length = ln)
    (hl2 : 2 ≤ ln)
    (hl9 : ln ≤ 30)
    (hps : ps.length = ln)
    (tK : Fun1 7 (.int .i64 z) (.agg #[.int .i64 1, .string (numS kq), .string (denS kq), .string { data := #[] }, .bool false, .int .i64 0, .int .i64 0, .int .i64 0, .slice none 0 0]))
    (tB : Fun1 7 (.int .i64 y) (.agg #[.int .i64 1, .string (numS bq), .string (denS bq), .string { data := #[] }, .bool false, .int .i64 0, .int .i64 0, .int .i64 0, .slice none 0 0]))
    (tV : ∀ (i : Nat) (h : i < qs.length) (h' : i < vk.length), P2 { data := #[80, 82, 79, 68, 85, 67, 84] } qs[i] kq vk[i])
    (hvk : vk.length = ln)
    (tP : ∀ (i : Nat) (h : i < vk.length) (h' : i < ps.length), Fun2 8 (numVal vk[i]) (numVal bq) (numVal ps[i]))
    (rS : L2 { data := #[83, 76, 79, 80, 69] } ln ps qs (.agg #[.int .i64 1, .string (numS kq), .string (denS kq), .string { data := #[] }, .bool false, .int .i64 0, .int .i64 0, .int .i64 0, .slice none 0 0]))
    (rI : L2 { data := #[73, 78, 84, 69, 82, 67, 69, 80, 84] } ln ps qs (.agg #[.int .i64 1, .string (numS bq), .string (denS bq), .string { data := #[] }, .bool false, .int .i64 0, .int .i64 0, .int .i64 0, .slice none 0 0]))
    (rR : L2 { data := #[82, 83, 81] } ln ps qs (.agg #[.int .i64 4, .string { data := #[] }, .string { data := #[] }, .string { data := #[] }, .bool false, .int .i64 1, .int .i64 0, .int .i64 0, .slice none 0 0]))
    (rF : L3 { data := #[70, 79, 82, 69, 67, 65, 83, 84] } ln ten ps qs (.agg #[.int .i64 1, .string (numS fc), .string (denS fc), .string { data := #[] }, .bool false, .int .i64 0, .int .i64 0, .int .i64 0, .slice none 0 0]))
    (pT : P2 { data := #[80, 82, 79, 68, 85, 67, 84] } ten kq tk)
    (tF : Fun2 8 (.agg #[.int .i64 1, .string (numS tk), .string (denS tk), .string { data := #[] }, .bool false, .int .i64 0, .int .i64 0, .int .i64 0, .slice none 0 0]) (.agg #[.int .i64 1, .string (numS bq), .string (denS bq), .string { data := #[] }, .bool false, .int .i64 0, .int .i64 0, .int .i64 0, .slice none 0 0]) (.agg #[.int .i64 1, .string (numS fc), .string (denS fc), .string { data := #[] }, .bool false, .int .i64 0, .int .i64 0, .int .i64 0, .slice none 0 0]))
    (t10 : Fun1 10 (.int .i64 10) (.agg #[.int .i64 1, .string (numS ten), .string (denS ten), .string { data := #[] }, .bool false, .int .i64 0, .int .i64 0, .int .i64 0, .slice none 0 0]))
    (t1 : Fun1 10 (.int .i64 1) (.agg #[.int .i64 1, .string (numS one), .string (denS one), .string { data := #[] }, .bool false, .int .i64 0, .int .i64 0, .int .i64 0, .slice none 0 0]))
    (hfl : (numS kq).toList = [48]) :
    Calls Tryz.prog 4 #[.slice A L C, .int .i64 z, .int .i64 y] w fun e w' => e = .returned (.bool true) ∧ Below w.heap.size w w' := by
  have Qhi := Lib.hid hi
  have Qhxs := Lib.hid hxs
  have Qhln := Lib.hid hln
  have Qhps := Lib.hid hps
  have QtK := Lib.hid tK
  have QtB := Lib.hid tB
  have QtV := Lib.hid tV
  have Qhvk := Lib.hid hvk
  have QtP := Lib.hid tP
  have QrS := Lib.hid rS
  have QrI := Lib.hid rI
  have QrR := Lib.hid rR
  have QrF := Lib.hid rF
  have QpT := Lib.hid pT
  have QtF := Lib.hid tF
  have Qt10 := Lib.hid t10
  have Qt1 := Lib.hid t1
  have Qhfl := Lib.hid hfl
  unfold Fun1 at QtK QtB Qt10 Qt1
  unfold Fun2 at QtF
  have HW := Lib.hid hE
  have hb0 : Below w.heap.size w (w.alloc (.cells #[.int .i64 0, .int .i64 1] 3)) := (Below.refl _ _).alloc (Nat.le_refl _) _
  have HLB := Lib.hid hb0
  have HOW := Lib.hid (World.ownsRow_lit (base := w.heap.size) (e := 3) (size := 1) w #[.int .i64 0, .int .i64 1] 2 (Nat.le_refl _) (by decide) rfl)
  have HNL := Lib.hid (show (zs.map fun n => Value.int .i64 n).length = L * 1 by rw [List.length_map, hi.len, Nat.mul_one])
  have HNA := Lib.hid (show A = none → L = 0 by
    intro e
    rcases Nat.eq_zero_or_pos L with h | h
    · exact h
    · obtain ⟨A', e', _⟩ := hi.src h
      rw [e] at e'; cases e')
  have HNC := Lib.hid (show ∀ ad, A = some ad → ∀ j u, (zs.map fun n => Value.int .i64 n)[j]? = some u → (w.alloc (.cells #[.int .i64 0, .int .i64 1] 3)).cell? (ad.add j) = some u by
    intro ad e j u hu
    obtain ⟨hj, hju⟩ := List.getElem?_eq_some_iff.1 hu
    rw [List.length_map] at hj
    obtain ⟨A', e', hc⟩ := hi.src (by rw [← hi.len]; omega)
    rw [e] at e'; injection e' with e'
    subst e'
    have := cell_below (hc j hj) hb0
    rw [this, ← hju, List.getElem_map])
  have HN1 := Lib.hid (show ∀ u ∈ (zs.map fun n => Value.int .i64 n), u.oneCell' = true by
    intro u hu
    obtain ⟨n, _, rfl⟩ := List.mem_map.1 hu
    rfl)
  have hml : 2 + L ≤ maxLen := by unfold maxLen; omega
  obtain ⟨i0, hi0', hz0, hz1, hz2⟩ := info_int1
  obtain ⟨iv0, hiv0', hy0, hy1, hy2⟩ := info_val
  clear hb0 hE hi hxs hln hps tK tB tV hvk tP rS rI rR rF pT tF t10 t1 hfl
  go_enter Tryz.func4, Tryz.ntmps4
  go_wp2_with (at_builtin; refine wpList_append_came rfl _ _ 22 rfl w.heap.size 3 i0 _ 1 8 Tryz.underlying22 hi0' hz0 hz1 hz2 rfl (by decide) (.slice (some ⟨w.heap.size, 0, none⟩) 2 2) 2 [.int .i64 0, .int .i64 1] rfl HOW.out A L C (zs.map fun n => Value.int .i64 n) rfl HNL.out HNA.out HNC.out HN1.out hml (by omega) HLB.out.size ?_)
  intro v1 w1 hown hgrow
  have hb1 : Below w.heap.size w w1 := HLB.out.grown hgrow HLB.out.size (fun r hr => by simp only [Value.ownBlock, Option.some.injEq] at hr; omega)
  have HL1 := Lib.hid hb1
  obtain ⟨g1, cap1, hv1, _, hc1⟩ := own_came (ns := 0 :: 1 :: zs) hown (by rw [List.length_cons, List.length_cons, Qhi.out.len]; omega) (by omega)
  subst hv1
  have TT := Lib.hid (table_some ⟨g1, 0, none⟩ (0 :: 1 :: zs) (2 + L) cap1 w1 (by rw [List.length_cons, List.length_cons, Qhi.out.len]; omega) (by omega) (by omega) (by
    intro n hn
    rcases List.mem_cons.1 hn with rfl | hn
    · decide
    rcases List.mem_cons.1 hn with rfl | hn
    · decide
    exact Qhi.out.rng n hn) hc1 (HW.out.below hb1))
  clear hown hgrow hb1 hc1 HOW HNL HNA HNC HN1 HLB hml
  go_wp2_with fail
  refine TT.out.mono ?_
  rintro e w2 ⟨g2, cap2, rfl, hva, hge, hq⟩
  clear TT
  obtain ⟨m2, hm2⟩ : ∃ m2, (tabI (0 :: 1 :: zs)).length = m2 := ⟨_, rfl⟩
  rw [hm2]
  have HM2 := Lib.hid hm2
  have hq2 := HL1.out.trans (hq.mono HL1.out.size)
  have hb : Below w2.heap.size w2 (w2.alloc (.cells #[.int .i64 5, .string { data := #[] }, .string { data := #[] }, .string { data := #[] }, .bool false, .int .i64 0, .int .i64 (m2 : Int), .int .i64 1, .slice (some ⟨g2, 0, none⟩) m2 cap2] 27)) := (Below.refl _ _).alloc (Nat.le_refl _) _
  have H7 := Lib.hid (heap_alloc_new w2 (.cells #[.int .i64 5, .string { data := #[] }, .string { data := #[] }, .string { data := #[] }, .bool false, .int .i64 0, .int .i64 (m2 : Int), .int .i64 1, .slice (some ⟨g2, 0, none⟩) m2 cap2] 27))
  have HE := Lib.hid (HW.out.below (hq2.trans (hb.mono hq2.size)))
  have HL := Lib.hid (hq2.trans (hb.mono hq2.size))
  have HVA := Lib.hid (hva.below hb)
  obtain ⟨B7, hB⟩ : ∃ B7, w2.heap.size = B7 := ⟨_, rfl⟩
  obtain ⟨W1, hW⟩ : ∃ Z, w2.alloc (.cells #[.int .i64 5, .string { data := #[] }, .string { data := #[] }, .string { data := #[] }, .bool false, .int .i64 0, .int .i64 (m2 : Int), .int .i64 1, .slice (some ⟨g2, 0, none⟩) m2 cap2] 27) = Z := ⟨_, rfl⟩
  rw [hW] at H7 HE HL HVA
  rw [hB] at H7
  have GE7 := Lib.hid (show w.heap.size ≤ B7 from by rw [← hB]; exact hq2.size)
  have EW := Lib.hid hW
  have EB := Lib.hid hB
  clear hb hq hq2 hva hge hW hB hm2
  go_upto_region 2 with fail
  rw [EW.out, EB.out]
  go_upto_if 21 with fail
  go_cut [] (fun wx => ∃ gi cap, wx.heap[B7]? = some (.cells #[.int .i64 5, .string { data := #[] }, .string { data := #[] }, .string { data := #[] }, .bool false, .int .i64 0, .int .i64 (ln : Int), .int .i64 1, .slice (some ⟨gi, 0, none⟩) ln cap] 27 (0, 0)) ∧ ValsAt wx gi 0 (numVals qs) ∧ Below w.heap.size w wx)
  case first =>
    by_cases h0 : L = 0
    · have hd : decide ((L : Int) < 1) = true := decide_eq_true (by omega)
      rw [hd]
      clear hd
      have eqs : qs = over 1 (tabI [0, 1, 3]) := by rw [Qhxs.out, if_pos h0]
      have eln : (3 : Nat) = ln := by rw [← Qhln.out, eqs]; rfl
      have HEQ := Lib.hid eqs
      have HLN := Lib.hid eln
      have hb : Below W1.heap.size W1 (W1.alloc (.cells #[.int .i64 0, .int .i64 1, .int .i64 3] 3)) := (Below.refl _ _).alloc (Nat.le_refl _) _
      have hG := heap_alloc_new W1 (.cells #[.int .i64 0, .int .i64 1, .int .i64 3] 3)
      have TQ := Lib.hid (table_some ⟨W1.heap.size, 0, none⟩ [0, 1, 3] 3 3 (W1.alloc (.cells #[.int .i64 0, .int .i64 1, .int .i64 3] 3)) rfl (by decide) (by decide) (by
        intro n hn
        simp only [List.mem_cons, List.not_mem_nil, or_false] at hn
        rcases hn with rfl | rfl | rfl <;> decide) (by
        intro i hi
        rw [addr_add]
        match i, hi with
        | 0, _ => exact Lib.cell_of_heap hG 0
        | 1, _ => exact Lib.cell_of_heap hG 1
        | 2, _ => exact Lib.cell_of_heap hG 2) (HE.out.below hb))
      have HB7 := Lib.hid (keep_block H7.out hb)
      have HL2 := Lib.hid (HL.out.trans (hb.mono HL.out.size))
      clear hb hG eqs eln h0
      go_wp2_with fail
      refine (TQ.out).mono ?_
      rintro e w3 ⟨gi, Ci, rfl, hva, hgl, hq⟩
      rw [show (tabI [0, 1, 3]).length = 3 from rfl]
      have h7 := keep_block HB7.out hq
      have h7' := nine_at h7
      obtain ⟨⟨c0, c1, c2, c3, c4, c5, c6, c7, c8⟩, f0, f1, f2, f3, f4, f5, f6, f7, f8⟩ := h7'
      have hnew := set9_at h7 (.int .i64 5) (.string { data := #[] }) (.string { data := #[] }) (.string { data := #[] }) (.bool false) (.int .i64 0) (.int .i64 3) (.int .i64 1) (.slice (some ⟨gi, 0, none⟩) 3 Ci)
      have hlow := HL2.out.trans ((hq.mono HL2.out.size).trans (put9_below GE7.out w3 (.int .i64 5) (.string { data := #[] }) (.string { data := #[] }) (.string { data := #[] }) (.bool false) (.int .i64 0) (.int .i64 3) (.int .i64 1) (.slice (some ⟨gi, 0, none⟩) 3 Ci)))
      have hne : gi ≠ B7 := by have := heap_lt HB7.out; omega
      have hva2 : ValsAt (((((((((w3.setCell ⟨B7, 0, none⟩ (.int .i64 5)).setCell ⟨B7, 1, none⟩ (.string { data := #[] })).setCell ⟨B7, 2, none⟩ (.string { data := #[] })).setCell ⟨B7, 3, none⟩ (.string { data := #[] })).setCell ⟨B7, 4, none⟩ (.bool false)).setCell ⟨B7, 5, none⟩ (.int .i64 0)).setCell ⟨B7, 6, none⟩ (.int .i64 3)).setCell ⟨B7, 7, none⟩ (.int .i64 1)).setCell ⟨B7, 8, none⟩ (.slice (some ⟨gi, 0, none⟩) 3 Ci)) gi 0 (numVals (over 1 (tabI [0, 1, 3]))) := vals_other hva (set9_other w3 B7 _ _ _ _ _ _ _ _ _ hne)
      have HN := Lib.hid (And.intro hnew (And.intro hva2 hlow))
      clear hva hnew hlow hva2 hne h7 hq hgl
      go_wp2
      go_meet
      case rel =>
        rw [HEQ.out, ← HLN.out]
        exact ⟨gi, Ci, HN.out⟩
    · have hd : decide ((L : Int) < 1) = false := decide_eq_false (by omega)
      rw [hd]
      clear hd
      have eqs : qs = over 1 (tabI (0 :: 1 :: zs)) := by rw [Qhxs.out, if_neg h0]
      have eln : m2 = ln := by rw [← Qhln.out, eqs, over_len, HM2.out]
      have HEQ := Lib.hid eqs
      have HLN := Lib.hid eln
      clear eqs eln h0
      go_wp2
      go_meet
      case rel =>
        rw [HEQ.out, ← HLN.out]
        exact ⟨g2, cap2, H7.out, HVA.out, HL.out⟩
  case rest =>
    obtain ⟨g, cap, hb7, hva, hlow⟩ := hcut
    have H7 := Lib.hid hb7
    have HV := Lib.hid hva
    replace HL := Lib.hid hlow
    replace HE := Lib.hid (HW.out.below hlow)
    clear hb7 hva hlow HVA HM2
    have HE4 := Lib.hid HE.out
    have HL4 := Lib.hid HL.out
    have HV4 := Lib.hid HV.out
    have H74 := Lib.hid H7.out
    obtain ⟨⟨lH70, lH71, lH72, lH73, lH74, lH75, lH76, lH77, lH78⟩, _⟩ := nine_at H7.out
    have hq : Below wc.heap.size wc (wc.alloc (.cells #[.int .i64 5, .string { data := #[] }, .string { data := #[] }, .string { data := #[] }, .bool false, .int .i64 0, .int .i64 (ln : Int), .int .i64 1, .slice (some ⟨g, 0, none⟩) ln cap] 27)) := ((Below.refl _ _).alloc (Nat.le_refl _) _)
    replace HE := Lib.hid (HE.out.below hq)
    replace HL := Lib.hid (HL.out.trans (hq.mono HL.out.size))
    replace H7 := Lib.hid (keep_block H7.out hq)
    replace HV := Lib.hid (HV.out.below hq)
    have H8 : Hid ((wc.alloc (.cells #[.int .i64 5, .string { data := #[] }, .string { data := #[] }, .string { data := #[] }, .bool false, .int .i64 0, .int .i64 (ln : Int), .int .i64 1, .slice (some ⟨g, 0, none⟩) ln cap] 27)).heap[wc.heap.size]? = some (.cells #[.int .i64 5, .string { data := #[] }, .string { data := #[] }, .string { data := #[] }, .bool false, .int .i64 0, .int .i64 (ln : Int), .int .i64 1, .slice (some ⟨g, 0, none⟩) ln cap] 27 (0, 0))) := Lib.hid (by
      have h := heap_alloc_new wc (.cells #[.int .i64 5, .string { data := #[] }, .string { data := #[] }, .string { data := #[] }, .bool false, .int .i64 0, .int .i64 (ln : Int), .int .i64 1, .slice (some ⟨g, 0, none⟩) ln cap] 27)
      exact h)
    clear hq
    obtain ⟨WL1, hWL1⟩ : ∃ Z, (wc.alloc (.cells #[.int .i64 5, .string { data := #[] }, .string { data := #[] }, .string { data := #[] }, .bool false, .int .i64 0, .int .i64 (ln : Int), .int .i64 1, .slice (some ⟨g, 0, none⟩) ln cap] 27)) = Z := ⟨_, rfl⟩
    rw [hWL1] at HE HL H7 H8 HV
    have EWL1 := Lib.hid hWL1
    clear hWL1
    have SWL1 : Hid (wc.heap.size + 1 = WL1.heap.size) := Lib.hid (by rw [← EWL1.out]; simp only [World.size_alloc])
    go_upto_region 5 with fail
    rw [EWL1.out]
    have hq0 : Below wc.heap.size wc WL1 := by rw [← EWL1.out]; exact (Below.refl _ _).alloc (Nat.le_refl _) _
    have hq : Below wc.heap.size wc (WL1.setCell ⟨wc.heap.size, 8, none⟩ (.slice none 0 0)) := hq0.setCell (p := ⟨wc.heap.size, 8, none⟩) (Nat.le_refl _) _
    have h8 := heap_setCell_at H8.out 8 (.slice none 0 0)
    have hlt8 := heap_lt H8.out
    obtain ⟨⟨x0, x1, x2, x3, x4, x5, x6, x7, x8⟩, y0, y1, y2, y3, y4, y5, y6, y7, y8⟩ := nine_at H8.out
    obtain ⟨W5, hW5⟩ : ∃ Z, WL1.setCell ⟨wc.heap.size, 8, none⟩ (.slice none 0 0) = Z := ⟨_, rfl⟩
    go_upto_region 6 with fail
    clear x0 x1 x2 x3 x4 x5 x6 x7 x8 y0 y1 y2 y3 y4 y5 y6 y7 y8
    rw [hW5] at hq h8
    replace H7 := Lib.hid (keep_block H74.out hq)
    replace HV := Lib.hid (HV4.out.below hq)
    replace HE := Lib.hid (HE4.out.below hq)
    replace HL := Lib.hid (HL4.out.trans (hq.mono HL4.out.size))
    have HQ4 := Lib.hid hq
    obtain ⟨BB, hBB⟩ : ∃ BB, wc.heap.size = BB := ⟨_, rfl⟩
    rw [hBB] at h8 hlt8
    rw [hBB]
    replace H8 := Lib.hid h8
    have GE8 := Lib.hid (show wc.heap.size ≤ BB from by rw [← hBB]; exact Nat.le_refl _)
    have LT8 := Lib.hid (show BB < W5.heap.size from by rw [← hW5]; simp only [World.size_setCell]; exact hlt8)
    clear hq0 hq h8 hlt8 hW5 hBB
    go_wp2_with fail
    (with_reducible refine (QtK.out _ HE.out).mono ?_)
    rintro e w1 ⟨rfl, hq⟩
    replace HE := Lib.hid (HE.out.below hq)
    replace HL := Lib.hid (HL.out.trans (hq.mono HL.out.size))
    replace H7 := Lib.hid (keep_block H7.out hq)
    replace H8 := Lib.hid (keep_block H8.out hq)
    replace HV := Lib.hid (HV.out.below hq)
    replace HQ4 := Lib.hid (HQ4.out.trans (hq.mono HQ4.out.size))
    replace LT8 := Lib.hid (Nat.lt_of_lt_of_le LT8.out hq.size)
    clear hq
    clear lH70 lH71 lH72 lH73 lH74 lH75 lH76 lH77 lH78
    go_wp2_with fail
    (with_reducible refine (QtB.out _ HE.out).mono ?_)
    rintro e w2 ⟨rfl, hq⟩
    replace HE := Lib.hid (HE.out.below hq)
    replace HL := Lib.hid (HL.out.trans (hq.mono HL.out.size))
    replace H7 := Lib.hid (keep_block H7.out hq)
    replace H8 := Lib.hid (keep_block H8.out hq)
    replace HV := Lib.hid (HV.out.below hq)
    replace HQ4 := Lib.hid (HQ4.out.trans (hq.mono HQ4.out.size))
    replace LT8 := Lib.hid (Nat.lt_of_lt_of_le LT8.out hq.size)
    clear hq
    have hq : Below w2.heap.size w2 ((w2.alloc (.cells #[.int .i64 1, .string (numS kq), .string (denS kq), .string { data := #[] }, .bool false, .int .i64 0, .int .i64 0, .int .i64 0, .slice none 0 0] 27)).alloc (.cells #[.int .i64 1, .string (numS bq), .string (denS bq), .string { data := #[] }, .bool false, .int .i64 0, .int .i64 0, .int .i64 0, .slice none 0 0] 27)) := (((Below.refl _ _).alloc (Nat.le_refl _) _).alloc (by simp only [World.size_alloc]; omega) _)
    replace HE := Lib.hid (HE.out.below hq)
    replace HL := Lib.hid (HL.out.trans (hq.mono HL.out.size))
    replace H7 := Lib.hid (keep_block H7.out hq)
    replace H8 := Lib.hid (keep_block H8.out hq)
    replace HV := Lib.hid (HV.out.below hq)
    replace HQ4 := Lib.hid (HQ4.out.trans (hq.mono HQ4.out.size))
    replace LT8 := Lib.hid (Nat.lt_of_lt_of_le LT8.out hq.size)
    have H9 : Hid (((w2.alloc (.cells #[.int .i64 1, .string (numS kq), .string (denS kq), .string { data := #[] }, .bool false, .int .i64 0, .int .i64 0, .int .i64 0, .slice none 0 0] 27)).alloc (.cells #[.int .i64 1, .string (numS bq), .string (denS bq), .string { data := #[] }, .bool false, .int .i64 0, .int .i64 0, .int .i64 0, .slice none 0 0] 27)).heap[w2.heap.size]? = some (.cells #[.int .i64 1, .string (numS kq), .string (denS kq), .string { data := #[] }, .bool false, .int .i64 0, .int .i64 0, .int .i64 0, .slice none 0 0] 27 (0, 0))) := Lib.hid (by
      have h := heap_alloc_new w2 (.cells #[.int .i64 1, .string (numS kq), .string (denS kq), .string { data := #[] }, .bool false, .int .i64 0, .int .i64 0, .int .i64 0, .slice none 0 0] 27)
      exact new_keep (h))
    have H10 : Hid (((w2.alloc (.cells #[.int .i64 1, .string (numS kq), .string (denS kq), .string { data := #[] }, .bool false, .int .i64 0, .int .i64 0, .int .i64 0, .slice none 0 0] 27)).alloc (.cells #[.int .i64 1, .string (numS bq), .string (denS bq), .string { data := #[] }, .bool false, .int .i64 0, .int .i64 0, .int .i64 0, .slice none 0 0] 27)).heap[w2.heap.size + 1]? = some (.cells #[.int .i64 1, .string (numS bq), .string (denS bq), .string { data := #[] }, .bool false, .int .i64 0, .int .i64 0, .int .i64 0, .slice none 0 0] 27 (0, 0))) := Lib.hid (by
      have h := heap_alloc_new (w2.alloc (.cells #[.int .i64 1, .string (numS kq), .string (denS kq), .string { data := #[] }, .bool false, .int .i64 0, .int .i64 0, .int .i64 0, .slice none 0 0] 27)) (.cells #[.int .i64 1, .string (numS bq), .string (denS bq), .string { data := #[] }, .bool false, .int .i64 0, .int .i64 0, .int .i64 0, .slice none 0 0] 27)
      simp only [World.size_alloc] at h
      exact h)
    clear hq
    obtain ⟨WL2, hWL2⟩ : ∃ Z, ((w2.alloc (.cells #[.int .i64 1, .string (numS kq), .string (denS kq), .string { data := #[] }, .bool false, .int .i64 0, .int .i64 0, .int .i64 0, .slice none 0 0] 27)).alloc (.cells #[.int .i64 1, .string (numS bq), .string (denS bq), .string { data := #[] }, .bool false, .int .i64 0, .int .i64 0, .int .i64 0, .slice none 0 0] 27)) = Z := ⟨_, rfl⟩
    rw [hWL2] at HE HL H7 H8 H9 H10 HV HQ4 LT8
    have EWL2 := Lib.hid hWL2
    clear hWL2
    have SWL2 : Hid (w2.heap.size + 1 + 1 = WL2.heap.size) := Lib.hid (by rw [← EWL2.out]; simp only [World.size_alloc])
    go_upto_region 7 with fail
    rw [EWL2.out]
    have HI := Lib.hid (show RowM wc WL2 BB (ln : Int) 1 (.slice none 0 0) (.slice none 0 0) 0 [] WL2 from ⟨H8.out, HQ4.out, GE8.out, LT8.out, Nat.le_refl _, World.ownsRow_nil _ _ _ _, fun _ _ _ => rfl⟩)
    have LT9 := Lib.hid (heap_lt H9.out)
    have LT10 := Lib.hid (heap_lt H10.out)
    obtain ⟨B9, hB9⟩ : ∃ B9, w2.heap.size = B9 := ⟨_, rfl⟩
    obtain ⟨B10, hB10⟩ : ∃ B10, w2.heap.size + 1 = B10 := ⟨_, rfl⟩
    rw [hB10] at H10 LT10
    rw [hB9] at H9 LT9
    have NE9 := Lib.hid (show B9 ≠ BB from fun e => by have h1 := Lib.cell_of_heap H9.out 0; rw [e] at h1; have h2 := Lib.cell_of_heap H8.out 0; rw [h1] at h2; cases h2)
    have NE10 := Lib.hid (show B10 ≠ BB from fun e => by have h1 := Lib.cell_of_heap H10.out 0; rw [e] at h1; have h2 := Lib.cell_of_heap H8.out 0; rw [h1] at h2; cases h2)
    rw [hB10, hB9]
    have H96 := Lib.hid H9.out
    have H106 := Lib.hid H10.out
    clear hB9 hB10
    obtain ⟨⟨x0, x1, x2, x3, x4, x5, x6, x7, x8⟩, _⟩ := nine_at H7.out
    go_wp2_with fail
    clear x0 x1 x2 x3 x4 x5 x6 x7 x8
    go_loopg [33] ln (fun gh v33 wx => ∃ (k : Nat) (v' : Value), v33 = .int .i64 ((k : Nat) : Int) ∧ k ≤ ln ∧ gh = ln - k ∧ RowM wc WL2 BB (ln : Int) 1 v' v' k (flat (numVals (ps.take k))) wx)
    case atStart => exact ⟨0, _, rfl, Nat.zero_le _, rfl, HI.out⟩
    case round =>
      clear HI H7 H8 H9 H10 HE HL HV HQ4
      obtain ⟨k, v', rfl, hk, hgk, hti⟩ := hrel
      have HTI := Lib.hid hti
      by_cases hlt : k < ln
      · have hd : decide ((k : Int) < (ln : Int)) = true := decide_eq_true (by omega)
        have hd2 : decide (k < ln) = true := decide_eq_true hlt
        have hi0 : (0 : Int) ≤ (k : Int) := by omega
        have hi1 : (k : Int) < (ln : Int) := by omega
        have hwk : IntKind.i64.wrap ((k : Int) + 1) = (k : Int) + 1 := IntWalk.i64_in _ (by omega)
        have hkq : k < qs.length := by rw [Qhln.out]; exact hlt
        have hkp : k < ps.length := by rw [Qhps.out]; exact hlt
        have hkv : k < vk.length := by rw [Qhvk.out]; exact hlt
        have TP := Lib.hid (QtP.out k hkv hkp)
        have TV := Lib.hid (QtV.out k hkq hkv)
        obtain ⟨x, hx⟩ : ∃ x, qs[k] = x := ⟨_, rfl⟩
        obtain ⟨pv, hpv⟩ : ∃ pv, vk[k] = pv := ⟨_, rfl⟩
        obtain ⟨p, hp⟩ : ∃ p, ps[k] = p := ⟨_, rfl⟩
        have HTK := Lib.hid (show flat (numVals (ps.take (k + 1))) = flat (numVals (ps.take k)) ++ [.int .i64 1, .string (numS p), .string (denS p), .string { data := #[] }, .bool false, .int .i64 0, .int .i64 0, .int .i64 0, .slice none 0 0] by rw [List.take_succ_eq_append_getElem hkp, hp, flat_snoc])
        rw [hpv, hp] at TP
        rw [hx, hpv] at TV
        rw [numVal_is pv, numVal_is bq, numVal_is p] at TP
        unfold Fun2 at TP
        obtain ⟨j0, j1, j2, j3, j4, j5, j6, j7, j8⟩ := item_at (HV4.out.below HTI.out.low) k hkq x hx
        obtain ⟨xs, hxs⟩ : ∃ xs, flat (numVals (ps.take k)) = xs := ⟨_, rfl⟩
        rw [hxs] at HTI HTK
        obtain ⟨av, cv, hu⟩ := owns_form HTI.out.own
        subst hu
        have hml : k + 1 ≤ maxLen := by unfold maxLen; omega
        have H8 := Lib.hid HTI.out.box
        have H9 := Lib.hid ((HTI.out.mid B9 LT9.out NE9.out).trans H96.out)
        have H10 := Lib.hid ((HTI.out.mid B10 LT10.out NE10.out).trans H106.out)
        have HE := Lib.hid (HE4.out.below HTI.out.low)
        have HL := Lib.hid (HL4.out.trans (HTI.out.low.mono HL4.out.size))
        clear hti hx hp hpv hkq hkp hkv hxs hd2
        have hd2 : decide (k < ln) = true := decide_eq_true hlt
        have hq : Below wr.heap.size wr (wr.alloc (.cells #[.int .i64 1, .string (numS x), .string (denS x), .string { data := #[] }, .bool false, .int .i64 0, .int .i64 0, .int .i64 0, .slice none 0 0] 27)) := ((Below.refl _ _).alloc (Nat.le_refl _) _)
        replace HE := Lib.hid (HE.out.below hq)
        replace HL := Lib.hid (HL.out.trans (hq.mono HL.out.size))
        replace H8 := Lib.hid (keep_block H8.out hq)
        replace H9 := Lib.hid (keep_block H9.out hq)
        replace H10 := Lib.hid (keep_block H10.out hq)
        replace HTI := Lib.hid (HTI.out.step hq)
        have H12 : Hid ((wr.alloc (.cells #[.int .i64 1, .string (numS x), .string (denS x), .string { data := #[] }, .bool false, .int .i64 0, .int .i64 0, .int .i64 0, .slice none 0 0] 27)).heap[wr.heap.size]? = some (.cells #[.int .i64 1, .string (numS x), .string (denS x), .string { data := #[] }, .bool false, .int .i64 0, .int .i64 0, .int .i64 0, .slice none 0 0] 27 (0, 0))) := Lib.hid (by
          have h := heap_alloc_new wr (.cells #[.int .i64 1, .string (numS x), .string (denS x), .string { data := #[] }, .bool false, .int .i64 0, .int .i64 0, .int .i64 0, .slice none 0 0] 27)
          exact h)
        clear hq
        obtain ⟨WL3, hWL3⟩ : ∃ Z, (wr.alloc (.cells #[.int .i64 1, .string (numS x), .string (denS x), .string { data := #[] }, .bool false, .int .i64 0, .int .i64 0, .int .i64 0, .slice none 0 0] 27)) = Z := ⟨_, rfl⟩
        rw [hWL3] at HE HL H8 H9 H10 H12 HTI
        have EWL3 := Lib.hid hWL3
        clear hWL3
        have SWL3 : Hid (wr.heap.size + 1 = WL3.heap.size) := Lib.hid (by rw [← EWL3.out]; simp only [World.size_alloc])
        go_upto_region 10 with fail
        rw [EWL3.out]
        clear j0 j1 j2 j3 j4 j5 j6 j7 j8
        go_wp2_with fail
        have hok : okB 12 (FtLinBKs10 x pv p kq bq BB k cv av) = true := by kernel_rfl
        have hna := noAny_of (ks := (FtLinBKs10 x pv p kq bq BB k cv av)) (by kernel_rfl)
        have hla := lasts_of hna
        refine wp_region_facts_tail_r (row := none) (w := WL3) 6 9 3 12 [9, 10, 11] (FtLinBKs10 x pv p kq bq BB k cv av) [some 37, some 38, some 39, some 40, some 41, some 42, some 43, some 44, some 45, some 46, some 47, none] (by kernel_rfl) (by kernel_rfl) (by kernel_rfl) rfl rfl (by decide) rfl [u37, u38, u39, u40, u41, u42, u43, u44, u45, u46, u47, undef] ?h00 (Fs.start rfl rfl) ?hs ?hd
        case h00 => simp only [putO, layL]
        case hs =>
          rintro listed vs Wr hF i hi hun hpre
          obtain ⟨s0, s1, s2, s3, s4, s5, s6, s7, s8, s9, s10, s11, hvs⟩ := exl_of 12 vs (fun l => vs = l) hF.len rfl
          subst hvs
          have hge := Nat.zero_le i
          simp only [putO, layL]
          rcases Nat.lt_or_ge i 4 with hlt | hgt
          · replace hi := hlt
            clear hlt
            rcases Nat.lt_or_ge i 2 with hlt | hgt
            · replace hi := hlt
              clear hlt
              rcases Nat.lt_or_ge i 1 with hlt | hgt
              · replace hi := hlt
                clear hlt
                obtain rfl := eqi hi hge
                refine step_of ⟨some 37, _, _, _, _, _⟩ rfl (fun K' hK => ?_)
                go_simp
                refine hK.out _ _ ⟨_, hF.pure hok hla hpre rfl (Below.refl _ _), ?fr⟩
                case fr => simp only [putO, layL]
              · replace hge : 1 ≤ i := hgt
                clear hgt
                obtain rfl := eqi hi hge
                have p0 := hpre 0 (by kernel_rfl)
                have e0 : s0 = .pointer (some ⟨BB, 8, none⟩) := hF.get 0 _ rfl (.inr p0)
                subst e0
                have hcc := (nine_at (keep_block H8.out (below_none hF.low))).1
                have cH80 := hcc.1
                have cH81 := hcc.2.1
                have cH82 := hcc.2.2.1
                have cH83 := hcc.2.2.2.1
                have cH84 := hcc.2.2.2.2.1
                have cH85 := hcc.2.2.2.2.2.1
                have cH86 := hcc.2.2.2.2.2.2.1
                have cH87 := hcc.2.2.2.2.2.2.2.1
                have cH88 := hcc.2.2.2.2.2.2.2.2
                clear hcc
                refine step_of ⟨some 38, _, _, _, _, _⟩ rfl (fun K' hK => ?_)
                go_simp
                refine hK.out _ _ ⟨_, hF.pure hok hla hpre rfl (Below.refl _ _), ?fr⟩
                case fr => simp only [putO, layL]
            · replace hge : 2 ≤ i := hgt
              clear hgt
              rcases Nat.lt_or_ge i 3 with hlt | hgt
              · replace hi := hlt
                clear hlt
                obtain rfl := eqi hi hge
                have hcc := (nine_at (keep_block H12.out (below_none hF.low))).1
                have cH120 := hcc.1
                have cH121 := hcc.2.1
                have cH122 := hcc.2.2.1
                have cH123 := hcc.2.2.2.1
                have cH124 := hcc.2.2.2.2.1
                have cH125 := hcc.2.2.2.2.2.1
                have cH126 := hcc.2.2.2.2.2.2.1
                have cH127 := hcc.2.2.2.2.2.2.2.1
                have cH128 := hcc.2.2.2.2.2.2.2.2
                clear hcc
                refine step_of ⟨some 39, _, _, _, _, _⟩ rfl (fun K' hK => ?_)
                go_simp
                refine hK.out _ _ ⟨_, hF.pure hok hla hpre rfl (Below.refl _ _), ?fr⟩
                case fr => simp only [putO, layL]
              · replace hge : 3 ≤ i := hgt
                clear hgt
                obtain rfl := eqi hi hge
                have hcc := (nine_at (keep_block H9.out (below_none hF.low))).1
                have cH90 := hcc.1
                have cH91 := hcc.2.1
                have cH92 := hcc.2.2.1
                have cH93 := hcc.2.2.2.1
                have cH94 := hcc.2.2.2.2.1
                have cH95 := hcc.2.2.2.2.2.1
                have cH96 := hcc.2.2.2.2.2.2.1
                have cH97 := hcc.2.2.2.2.2.2.2.1
                have cH98 := hcc.2.2.2.2.2.2.2.2
                clear hcc
                refine step_of ⟨some 40, _, _, _, _, _⟩ rfl (fun K' hK => ?_)
                go_simp
                refine hK.out _ _ ⟨_, hF.pure hok hla hpre rfl (Below.refl _ _), ?fr⟩
                case fr => simp only [putO, layL]
          · replace hge : 4 ≤ i := hgt
            clear hgt
            rcases Nat.lt_or_ge i 6 with hlt | hgt
            · replace hi := hlt
              clear hlt
              rcases Nat.lt_or_ge i 5 with hlt | hgt
              · replace hi := hlt
                clear hlt
                obtain rfl := eqi hi hge
                have p2 := hpre 2 (by kernel_rfl)
                have e2 : s2 = .agg #[.int .i64 1, .string (numS x), .string (denS x), .string { data := #[] }, .bool false, .int .i64 0, .int .i64 0, .int .i64 0, .slice none 0 0] := hF.get 2 _ rfl (.inr p2)
                subst e2
                have p3 := hpre 3 (by kernel_rfl)
                have e3 : s3 = .agg #[.int .i64 1, .string (numS kq), .string (denS kq), .string { data := #[] }, .bool false, .int .i64 0, .int .i64 0, .int .i64 0, .slice none 0 0] := hF.get 3 _ rfl (.inr p3)
                subst e3
                refine step_of ⟨some 41, _, _, _, _, _⟩ rfl (fun K' hK => ?_)
                go_simp
                refine hK.out _ _ ⟨_, hF.row hok hla hpre rfl, ?fr⟩
                case fr => simp only [putO, layL]
              · replace hge : 5 ≤ i := hgt
                clear hgt
                obtain rfl := eqi hi hge
                have p4 := hpre 4 (by kernel_rfl)
                obtain ⟨G, eG, _, hGB⟩ : ∃ G, s4 = .slice (some ⟨G, 0, none⟩) 2 2 ∧ _ ≤ G ∧ Wr.heap[G]? = some (.cells #[.int .i64 1, .string (numS x), .string (denS x), .string { data := #[] }, .bool false, .int .i64 0, .int .i64 0, .int .i64 0, .slice none 0 0, .int .i64 1, .string (numS kq), .string (denS kq), .string { data := #[] }, .bool false, .int .i64 0, .int .i64 0, .int .i64 0, .slice none 0 0] 27 (0, 0)) := hF.get 4 _ rfl (.inr p4)
                subst eG
                refine step_of ⟨some 42, _, _, _, _, _⟩ rfl (fun K' hK => ?_)
                go_simp
                go_at_call 12
                (with_reducible refine (P2.on TV.out _ _ hGB (HE.out.below (below_none hF.low))).mono ?_)
                rintro e Wq ⟨rfl, hq⟩
                refine hK.out _ _ ⟨_, hF.pure hok hla hpre rfl hq, ?fr⟩
                case fr => simp only [putO, layL]
            · replace hge : 6 ≤ i := hgt
              clear hgt
              rcases Nat.lt_or_ge i 7 with hlt | hgt
              · replace hi := hlt
                clear hlt
                obtain rfl := eqi hi hge
                have hcc := (nine_at (keep_block H10.out (below_none hF.low))).1
                have cH100 := hcc.1
                have cH101 := hcc.2.1
                have cH102 := hcc.2.2.1
                have cH103 := hcc.2.2.2.1
                have cH104 := hcc.2.2.2.2.1
                have cH105 := hcc.2.2.2.2.2.1
                have cH106 := hcc.2.2.2.2.2.2.1
                have cH107 := hcc.2.2.2.2.2.2.2.1
                have cH108 := hcc.2.2.2.2.2.2.2.2
                clear hcc
                refine step_of ⟨some 43, _, _, _, _, _⟩ rfl (fun K' hK => ?_)
                go_simp
                refine hK.out _ _ ⟨_, hF.pure hok hla hpre rfl (Below.refl _ _), ?fr⟩
                case fr => simp only [putO, layL]
              · replace hge : 7 ≤ i := hgt
                clear hgt
                rcases Nat.lt_or_ge i 8 with hlt | hgt
                · replace hi := hlt
                  clear hlt
                  obtain rfl := eqi hi hge
                  have p5 := hpre 5 (by kernel_rfl)
                  have e5 : s5 = .agg #[.int .i64 1, .string (numS pv), .string (denS pv), .string { data := #[] }, .bool false, .int .i64 0, .int .i64 0, .int .i64 0, .slice none 0 0] := hF.get 5 _ rfl (.inr p5)
                  subst e5
                  have p6 := hpre 6 (by kernel_rfl)
                  have e6 : s6 = .agg #[.int .i64 1, .string (numS bq), .string (denS bq), .string { data := #[] }, .bool false, .int .i64 0, .int .i64 0, .int .i64 0, .slice none 0 0] := hF.get 6 _ rfl (.inr p6)
                  subst e6
                  refine step_of ⟨some 44, _, _, _, _, _⟩ rfl (fun K' hK => ?_)
                  go_simp
                  go_at_call 8
                  (with_reducible refine (TP.out _ (HE.out.below (below_none hF.low))).mono ?_)
                  rintro e Wq ⟨rfl, hq⟩
                  refine hK.out _ _ ⟨_, hF.pure hok hla hpre rfl hq, ?fr⟩
                  case fr => simp only [putO, layL]
                · replace hge : 8 ≤ i := hgt
                  clear hgt
                  obtain rfl := eqi hi hge
                  have p7 := hpre 7 (by kernel_rfl)
                  have e7 : s7 = .agg #[.int .i64 1, .string (numS p), .string (denS p), .string { data := #[] }, .bool false, .int .i64 0, .int .i64 0, .int .i64 0, .slice none 0 0] := hF.get 7 _ rfl (.inr p7)
                  subst e7
                  refine step_of ⟨some 45, _, _, _, _, _⟩ rfl (fun K' hK => ?_)
                  go_simp
                  refine hK.out _ _ ⟨_, hF.row hok hla hpre rfl, ?fr⟩
                  case fr => simp only [putO, layL]
        case hd =>
          rintro listed vs WA hF hall
          obtain ⟨s0, s1, s2, s3, s4, s5, s6, s7, s8, s9, s10, s11, hvs⟩ := exl_of 12 vs (fun l => vs = l) hF.len rfl
          subst hvs
          have e1 : s1 = .slice av k cv := hF.get 1 _ rfl (.inr (hall 1 (by decide)))
          subst e1
          have e7 : s7 = .agg #[.int .i64 1, .string (numS p), .string (denS p), .string { data := #[] }, .bool false, .int .i64 0, .int .i64 0, .int .i64 0, .slice none 0 0] := hF.get 7 _ rfl (.inr (hall 7 (by decide)))
          subst e7
          obtain ⟨G45, e8, _, k8⟩ : ∃ G, s8 = .slice (some ⟨G, 0, none⟩) 1 1 ∧ _ ≤ G ∧ WA.heap[G]? = some (.cells #[.int .i64 1, .string (numS p), .string (denS p), .string { data := #[] }, .bool false, .int .i64 0, .int .i64 0, .int .i64 0, .slice none 0 0] 27 (0, 0)) := hF.get 8 _ rfl (.inr (hall 8 (by decide)))
          subst e8
          have HR45 := Lib.hid k8
          clear k8
          have hq := below_none hF.low
          replace HE := Lib.hid (HE.out.below hq)
          replace HL := Lib.hid (HL.out.trans (hq.mono HL.out.size))
          replace H8 := Lib.hid (keep_block H8.out hq)
          replace H9 := Lib.hid (keep_block H9.out hq)
          replace H10 := Lib.hid (keep_block H10.out hq)
          replace H12 := Lib.hid (keep_block H12.out hq)
          replace HTI := Lib.hid (HTI.out.step hq)
          clear hq
          clear hF hall hok hna hla
          simp only [putO, layL]
          have HOW := Lib.hid HTI.out.own
          have HLN := Lib.hid HTI.out.len
          refine rest_one 9 ⟨some 46, _, _, _, _, _⟩ rfl (by kernel_rfl) rfl (fun K' hK => ?_)
          refine step_append_rowx rfl _ _ 25 rfl WL2.heap.size 27 iv0 _ 9 112 Tryz.underlying25 hiv0' hy0 hy1 hy2 rfl (by decide) (.slice av k cv) k xs (by simp [Act.eval, Act.put]) HOW.out ⟨G45, 0, none⟩ 1 1 [.int .i64 1, .string (numS p), .string (denS p), .string { data := #[] }, .bool false, .int .i64 0, .int .i64 0, .int .i64 0, .slice none 0 0] (by simp [Act.eval, Act.put]) rfl (World.news_of_block (cs := #[.int .i64 1, .string (numS p), .string (denS p), .string { data := #[] }, .bool false, .int .i64 0, .int .i64 0, .int .i64 0, .slice none 0 0]) (t := 27) (fr := (0, 0)) HR45.out) (by simp [Value.oneCell']) hml (by omega) HTI.out.size ?_
          intro v5 w5 hown5 hgrow5
          obtain ⟨a5, c5, hu5⟩ := owns_form hown5
          subst hu5
          have HT5 := Lib.hid (HTI.out.push hown5 hgrow5)
          clear hown5 hgrow5 HOW
          refine hK.out _ _ ?_
          refine rest_one 10 ⟨some 47, _, _, _, _, _⟩ rfl (by kernel_rfl) rfl (fun K' hK => ?_)
          go_simp
          refine hK.out _ _ ?_
          refine rest_one 11 ⟨none, _, _, _, _, _⟩ rfl (by kernel_rfl) rfl (fun K' hK => ?_)
          obtain ⟨⟨x0, x1, x2, x3, x4, x5, x6, x7, x8⟩, y0, y1, y2, y3, y4, y5, y6, y7, y8⟩ := nine_at HT5.out.box
          go_simp
          clear x0 x1 x2 x3 x4 x5 x6 x7 x8 y0 y1 y2 y3 y4 y5 y6 y7 y8
          refine hK.out _ _ ?_
          have HU := Lib.hid HT5.out.store
          rw [← HTK.out] at HU
          refine rest_end ?_
          go_wp2
          go_roundg (ln - (k + 1))
          case measure => omega
          case rel => exact ⟨k + 1, _, by go_num, by omega, by omega, HU.out⟩
      · have hd : decide ((k : Int) < (ln : Int)) = false := decide_eq_false (by omega)
        have hd2 : decide (k < ln) = false := decide_eq_false hlt
        have hkL : k = ln := by omega
        subst hkL
        rw [show ps.take k = ps by rw [← Qhps.out, List.take_length]] at hti
        obtain ⟨g2, cap2, hv, _, _, hvb⟩ := hti.vals Qhps.out (by omega)
        subst hv
        have HVb := Lib.hid hvb
        have HV := Lib.hid (HV4.out.below hti.low)
        have H7 := Lib.hid (keep_block H74.out hti.low)
        have H8 := Lib.hid hti.box
        have H9 := Lib.hid ((hti.mid B9 LT9.out NE9.out).trans H96.out)
        have H10 := Lib.hid ((hti.mid B10 LT10.out NE10.out).trans H106.out)
        have HE := Lib.hid (HE4.out.below hti.low)
        have HL := Lib.hid (HL4.out.trans (hti.low.mono HL4.out.size))
        clear hti HTI hvb hlt hgk hk
        obtain ⟨⟨lH80, lH81, lH82, lH83, lH84, lH85, lH86, lH87, lH88⟩, _⟩ := nine_at H8.out
        obtain ⟨⟨lH70, lH71, lH72, lH73, lH74, lH75, lH76, lH77, lH78⟩, _⟩ := nine_at H7.out
        go_wp2_with fail
        (with_reducible refine (L2.at QrR.out _ _ _ _ _ HVb.out HV.out HE.out).mono ?_)
        rintro e w3 ⟨rfl, hq⟩
        replace HE := Lib.hid (HE.out.below hq)
        replace HL := Lib.hid (HL.out.trans (hq.mono HL.out.size))
        replace H7 := Lib.hid (keep_block H7.out hq)
        replace H8 := Lib.hid (keep_block H8.out hq)
        replace H9 := Lib.hid (keep_block H9.out hq)
        replace H10 := Lib.hid (keep_block H10.out hq)
        replace HV := Lib.hid (HV.out.below hq)
        replace HVb := Lib.hid (HVb.out.below hq)
        clear hq
        clear lH80 lH81 lH82 lH83 lH84 lH85 lH86 lH87 lH88 lH70 lH71 lH72 lH73 lH74 lH75 lH76 lH77 lH78
        have hq : Below w3.heap.size w3 (w3.alloc (.cells #[.int .i64 4, .string { data := #[] }, .string { data := #[] }, .string { data := #[] }, .bool false, .int .i64 1, .int .i64 0, .int .i64 0, .slice none 0 0] 27)) := ((Below.refl _ _).alloc (Nat.le_refl _) _)
        replace HE := Lib.hid (HE.out.below hq)
        replace HL := Lib.hid (HL.out.trans (hq.mono HL.out.size))
        replace H7 := Lib.hid (keep_block H7.out hq)
        replace H8 := Lib.hid (keep_block H8.out hq)
        replace H9 := Lib.hid (keep_block H9.out hq)
        replace H10 := Lib.hid (keep_block H10.out hq)
        replace HV := Lib.hid (HV.out.below hq)
        replace HVb := Lib.hid (HVb.out.below hq)
        have H13 : Hid ((w3.alloc (.cells #[.int .i64 4, .string { data := #[] }, .string { data := #[] }, .string { data := #[] }, .bool false, .int .i64 1, .int .i64 0, .int .i64 0, .slice none 0 0] 27)).heap[w3.heap.size]? = some (.cells #[.int .i64 4, .string { data := #[] }, .string { data := #[] }, .string { data := #[] }, .bool false, .int .i64 1, .int .i64 0, .int .i64 0, .slice none 0 0] 27 (0, 0))) := Lib.hid (by
          have h := heap_alloc_new w3 (.cells #[.int .i64 4, .string { data := #[] }, .string { data := #[] }, .string { data := #[] }, .bool false, .int .i64 1, .int .i64 0, .int .i64 0, .slice none 0 0] 27)
          exact h)
        clear hq
        obtain ⟨WL5, hWL5⟩ : ∃ Z, (w3.alloc (.cells #[.int .i64 4, .string { data := #[] }, .string { data := #[] }, .string { data := #[] }, .bool false, .int .i64 1, .int .i64 0, .int .i64 0, .slice none 0 0] 27)) = Z := ⟨_, rfl⟩
        rw [hWL5] at HE HL H7 H8 H9 H10 H13 HV HVb
        have EWL5 := Lib.hid hWL5
        clear hWL5
        have SWL5 : Hid (w3.heap.size + 1 = WL5.heap.size) := Lib.hid (by rw [← EWL5.out]; simp only [World.size_alloc])
        have hfl : ((numS kq).toList == [48]) = true := by rw [Qhfl.out]; rfl
        have hld := H9.out
        rw [← EWL5.out] at hld
        obtain ⟨⟨lH90, lH91, lH92, lH93, lH94, lH95, lH96, lH97, lH98⟩, _⟩ := nine_at hld
        clear hld
        go_upto_region 14 with fail
        rw [EWL5.out]
        go_wp2_with fail
        clear lH90 lH91 lH92 lH93 lH94 lH95 lH96 lH97 lH98
        have hok : okB 42 (FtLinBKs14 k g cap g2 cap2 B7 BB B9 B10 kq bq fc ten tk one w3) = true := by kernel_rfl
        have hna := noAny_of (ks := (FtLinBKs14 k g cap g2 cap2 B7 BB B9 B10 kq bq fc ten tk one w3)) (by kernel_rfl)
        have hla := lasts_of hna
        refine wp_region_facts (row := none) (w := WL5) 42 (FtLinBKs14 k g cap g2 cap2 B7 BB B9 B10 kq bq fc ten tk one w3) [some 57, some 58, some 59, some 60, some 61, some 62, some 63, some 64, some 65, some 66, some 67, some 68, some 69, some 70, some 71, some 72, some 73, some 74, some 75, some 76, some 77, some 78, some 79, some 80, some 81, some 82, some 83, some 84, some 85, some 86, some 87, some 88, some 89, some 90, some 91, some 92, some 93, some 94, some 95, some 96, some 97, some 6] (by kernel_rfl) (by kernel_rfl) rfl [u57, u58, u59, u60, u61, u62, u63, u64, u65, u66, u67, u68, u69, u70, u71, u72, u73, u74, u75, u76, u77, u78, u79, u80, u81, u82, u83, u84, u85, u86, u87, u88, u89, u90, u91, u92, u93, u94, u95, u96, u97, (.bool false)] ?h00 (Fs.start rfl rfl) ?hs ?hd
        case h00 => simp only [putO, layL]
        case hs =>
          rintro listed vs Wr hF i hi hun hpre
          obtain ⟨s0, s1, s2, s3, s4, s5, s6, s7, s8, s9, s10, s11, s12, s13, s14, s15, s16, s17, s18, s19, s20, s21, s22, s23, s24, s25, s26, s27, s28, s29, s30, s31, s32, s33, s34, s35, s36, s37, s38, s39, s40, s41, hvs⟩ := exl_of 42 vs (fun l => vs = l) hF.len rfl
          subst hvs
          have hge := Nat.zero_le i
          simp only [putO, layL]
          rcases Nat.lt_or_ge i 21 with hlt | hgt
          · replace hi := hlt
            clear hlt
            rcases Nat.lt_or_ge i 10 with hlt | hgt
            · replace hi := hlt
              clear hlt
              rcases Nat.lt_or_ge i 5 with hlt | hgt
              · replace hi := hlt
                clear hlt
                rcases Nat.lt_or_ge i 2 with hlt | hgt
                · replace hi := hlt
                  clear hlt
                  rcases Nat.lt_or_ge i 1 with hlt | hgt
                  · replace hi := hlt
                    clear hlt
                    obtain rfl := eqi hi hge
                    have hcc := (nine_at (keep_block H8.out (below_none hF.low))).1
                    have cH80 := hcc.1
                    have cH81 := hcc.2.1
                    have cH82 := hcc.2.2.1
                    have cH83 := hcc.2.2.2.1
                    have cH84 := hcc.2.2.2.2.1
                    have cH85 := hcc.2.2.2.2.2.1
                    have cH86 := hcc.2.2.2.2.2.2.1
                    have cH87 := hcc.2.2.2.2.2.2.2.1
                    have cH88 := hcc.2.2.2.2.2.2.2.2
                    clear hcc
                    refine step_of ⟨some 57, _, _, _, _, _⟩ rfl (fun K' hK => ?_)
                    go_simp
                    refine hK.out _ _ ⟨_, hF.pure hok hla hpre rfl (Below.refl _ _), ?fr⟩
                    case fr => simp only [putO, layL]
                  · replace hge : 1 ≤ i := hgt
                    clear hgt
                    obtain rfl := eqi hi hge
                    have hcc := (nine_at (keep_block H7.out (below_none hF.low))).1
                    have cH70 := hcc.1
                    have cH71 := hcc.2.1
                    have cH72 := hcc.2.2.1
                    have cH73 := hcc.2.2.2.1
                    have cH74 := hcc.2.2.2.2.1
                    have cH75 := hcc.2.2.2.2.2.1
                    have cH76 := hcc.2.2.2.2.2.2.1
                    have cH77 := hcc.2.2.2.2.2.2.2.1
                    have cH78 := hcc.2.2.2.2.2.2.2.2
                    clear hcc
                    refine step_of ⟨some 58, _, _, _, _, _⟩ rfl (fun K' hK => ?_)
                    go_simp
                    refine hK.out _ _ ⟨_, hF.pure hok hla hpre rfl (Below.refl _ _), ?fr⟩
                    case fr => simp only [putO, layL]
                · replace hge : 2 ≤ i := hgt
                  clear hgt
                  rcases Nat.lt_or_ge i 3 with hlt | hgt
                  · replace hi := hlt
                    clear hlt
                    obtain rfl := eqi hi hge
                    have p0 := hpre 0 (by kernel_rfl)
                    have e0 : s0 = .agg #[.int .i64 5, .string { data := #[] }, .string { data := #[] }, .string { data := #[] }, .bool false, .int .i64 0, .int .i64 (k : Int), .int .i64 1, .slice (some ⟨g2, 0, none⟩) k cap2] := hF.get 0 _ rfl (.inr p0)
                    subst e0
                    have p1 := hpre 1 (by kernel_rfl)
                    have e1 : s1 = .agg #[.int .i64 5, .string { data := #[] }, .string { data := #[] }, .string { data := #[] }, .bool false, .int .i64 0, .int .i64 (k : Int), .int .i64 1, .slice (some ⟨g, 0, none⟩) k cap] := hF.get 1 _ rfl (.inr p1)
                    subst e1
                    refine step_of ⟨some 59, _, _, _, _, _⟩ rfl (fun K' hK => ?_)
                    go_simp
                    refine hK.out _ _ ⟨_, hF.row hok hla hpre rfl, ?fr⟩
                    case fr => simp only [putO, layL]
                  · replace hge : 3 ≤ i := hgt
                    clear hgt
                    rcases Nat.lt_or_ge i 4 with hlt | hgt
                    · replace hi := hlt
                      clear hlt
                      obtain rfl := eqi hi hge
                      have p2 := hpre 2 (by kernel_rfl)
                      obtain ⟨G, eG, _, hGB⟩ : ∃ G, s2 = .slice (some ⟨G, 0, none⟩) 2 2 ∧ _ ≤ G ∧ Wr.heap[G]? = some (.cells #[.int .i64 5, .string { data := #[] }, .string { data := #[] }, .string { data := #[] }, .bool false, .int .i64 0, .int .i64 (k : Int), .int .i64 1, .slice (some ⟨g2, 0, none⟩) k cap2, .int .i64 5, .string { data := #[] }, .string { data := #[] }, .string { data := #[] }, .bool false, .int .i64 0, .int .i64 (k : Int), .int .i64 1, .slice (some ⟨g, 0, none⟩) k cap] 27 (0, 0)) := hF.get 2 _ rfl (.inr p2)
                      subst eG
                      refine step_of ⟨some 60, _, _, _, _, _⟩ rfl (fun K' hK => ?_)
                      go_simp
                      go_at_call 9
                      (with_reducible refine (L2.on QrS.out _ _ _ _ _ _ hGB (HVb.out.below (below_none hF.low)) (HV.out.below (below_none hF.low)) (HE.out.below (below_none hF.low))).mono ?_)
                      rintro e Wq ⟨rfl, hq⟩
                      refine hK.out _ _ ⟨_, hF.pure hok hla hpre rfl hq, ?fr⟩
                      case fr => simp only [putO, layL]
                    · replace hge : 4 ≤ i := hgt
                      clear hgt
                      obtain rfl := eqi hi hge
                      have hcc := (nine_at (keep_block H9.out (below_none hF.low))).1
                      have cH90 := hcc.1
                      have cH91 := hcc.2.1
                      have cH92 := hcc.2.2.1
                      have cH93 := hcc.2.2.2.1
                      have cH94 := hcc.2.2.2.2.1
                      have cH95 := hcc.2.2.2.2.2.1
                      have cH96 := hcc.2.2.2.2.2.2.1
                      have cH97 := hcc.2.2.2.2.2.2.2.1
                      have cH98 := hcc.2.2.2.2.2.2.2.2
                      clear hcc
                      refine step_of ⟨some 61, _, _, _, _, _⟩ rfl (fun K' hK => ?_)
                      go_simp
                      refine hK.out _ _ ⟨_, hF.pure hok hla hpre rfl (Below.refl _ _), ?fr⟩
                      case fr => simp only [putO, layL]
              · replace hge : 5 ≤ i := hgt
                clear hgt
                rcases Nat.lt_or_ge i 7 with hlt | hgt
                · replace hi := hlt
                  clear hlt
                  rcases Nat.lt_or_ge i 6 with hlt | hgt
                  · replace hi := hlt
                    clear hlt
                    obtain rfl := eqi hi hge
                    have p3 := hpre 3 (by kernel_rfl)
                    have e3 : s3 = .agg #[.int .i64 1, .string (numS kq), .string (denS kq), .string { data := #[] }, .bool false, .int .i64 0, .int .i64 0, .int .i64 0, .slice none 0 0] := hF.get 3 _ rfl (.inr p3)
                    subst e3
                    have p4 := hpre 4 (by kernel_rfl)
                    have e4 : s4 = .agg #[.int .i64 1, .string (numS kq), .string (denS kq), .string { data := #[] }, .bool false, .int .i64 0, .int .i64 0, .int .i64 0, .slice none 0 0] := hF.get 4 _ rfl (.inr p4)
                    subst e4
                    refine step_of ⟨some 62, _, _, _, _, _⟩ rfl (fun K' hK => ?_)
                    go_simp
                    go_at_call 11
                    (with_reducible refine (same_one kq _).mono ?_)
                    rintro e Wq ⟨rfl, hq⟩
                    refine hK.out _ _ ⟨_, hF.pure hok hla hpre rfl hq, ?fr⟩
                    case fr => simp only [putO, layL]
                  · replace hge : 6 ≤ i := hgt
                    clear hgt
                    obtain rfl := eqi hi hge
                    have p5 := hpre 5 (by kernel_rfl)
                    have e5 : s5 = .bool true := hF.get 5 _ rfl (.inr p5)
                    subst e5
                    refine step_of ⟨some 63, _, _, _, _, _⟩ rfl (fun K' hK => ?_)
                    go_simp
                    refine hK.out _ _ ⟨_, hF.pure hok hla hpre rfl (Below.refl _ _), ?fr⟩
                    case fr => simp only [putO, layL]
                · replace hge : 7 ≤ i := hgt
                  clear hgt
                  rcases Nat.lt_or_ge i 8 with hlt | hgt
                  · replace hi := hlt
                    clear hlt
                    obtain rfl := eqi hi hge
                    have p6 := hpre 6 (by kernel_rfl)
                    have e6 : s6 = .bool true := hF.get 6 _ rfl (.inr p6)
                    subst e6
                    have hcc := (nine_at (keep_block H8.out (below_none hF.low))).1
                    have cH80 := hcc.1
                    have cH81 := hcc.2.1
                    have cH82 := hcc.2.2.1
                    have cH83 := hcc.2.2.2.1
                    have cH84 := hcc.2.2.2.2.1
                    have cH85 := hcc.2.2.2.2.2.1
                    have cH86 := hcc.2.2.2.2.2.2.1
                    have cH87 := hcc.2.2.2.2.2.2.2.1
                    have cH88 := hcc.2.2.2.2.2.2.2.2
                    clear hcc
                    refine step_of ⟨some 64, _, _, _, _, _⟩ rfl (fun K' hK => ?_)
                    rw [if_pos (by rfl)]
                    go_simp
                    refine hK.out _ _ ⟨_, hF.pure hok hla hpre rfl (Below.refl _ _), ?fr⟩
                    case fr => simp only [putO, layL]
                  · replace hge : 8 ≤ i := hgt
                    clear hgt
                    rcases Nat.lt_or_ge i 9 with hlt | hgt
                    · replace hi := hlt
                      clear hlt
                      obtain rfl := eqi hi hge
                      have p6 := hpre 6 (by kernel_rfl)
                      have e6 : s6 = .bool true := hF.get 6 _ rfl (.inr p6)
                      subst e6
                      have hcc := (nine_at (keep_block H7.out (below_none hF.low))).1
                      have cH70 := hcc.1
                      have cH71 := hcc.2.1
                      have cH72 := hcc.2.2.1
                      have cH73 := hcc.2.2.2.1
                      have cH74 := hcc.2.2.2.2.1
                      have cH75 := hcc.2.2.2.2.2.1
                      have cH76 := hcc.2.2.2.2.2.2.1
                      have cH77 := hcc.2.2.2.2.2.2.2.1
                      have cH78 := hcc.2.2.2.2.2.2.2.2
                      clear hcc
                      refine step_of ⟨some 65, _, _, _, _, _⟩ rfl (fun K' hK => ?_)
                      rw [if_pos (by rfl)]
                      go_simp
                      refine hK.out _ _ ⟨_, hF.pure hok hla hpre rfl (Below.refl _ _), ?fr⟩
                      case fr => simp only [putO, layL]
                    · replace hge : 9 ≤ i := hgt
                      clear hgt
                      obtain rfl := eqi hi hge
                      have p7 := hpre 7 (by kernel_rfl)
                      have e7 : s7 = .agg #[.int .i64 5, .string { data := #[] }, .string { data := #[] }, .string { data := #[] }, .bool false, .int .i64 0, .int .i64 (k : Int), .int .i64 1, .slice (some ⟨g2, 0, none⟩) k cap2] := hF.get 7 _ rfl (.inr p7)
                      subst e7
                      have p8 := hpre 8 (by kernel_rfl)
                      have e8 : s8 = .agg #[.int .i64 5, .string { data := #[] }, .string { data := #[] }, .string { data := #[] }, .bool false, .int .i64 0, .int .i64 (k : Int), .int .i64 1, .slice (some ⟨g, 0, none⟩) k cap] := hF.get 8 _ rfl (.inr p8)
                      subst e8
                      have p6 := hpre 6 (by kernel_rfl)
                      have e6 : s6 = .bool true := hF.get 6 _ rfl (.inr p6)
                      subst e6
                      refine step_of ⟨some 66, _, _, _, _, _⟩ rfl (fun K' hK => ?_)
                      rw [if_pos (by rfl)]
                      go_simp
                      refine hK.out _ _ ⟨_, hF.row hok hla hpre rfl, ?fr⟩
                      case fr => simp only [putO, layL]
            · replace hge : 10 ≤ i := hgt
              clear hgt
              rcases Nat.lt_or_ge i 15 with hlt | hgt
              · replace hi := hlt
                clear hlt
                rcases Nat.lt_or_ge i 12 with hlt | hgt
                · replace hi := hlt
                  clear hlt
                  rcases Nat.lt_or_ge i 11 with hlt | hgt
                  · replace hi := hlt
                    clear hlt
                    obtain rfl := eqi hi hge
                    have p9 := hpre 9 (by kernel_rfl)
                    obtain ⟨G, eG, _, hGB⟩ : ∃ G, s9 = .slice (some ⟨G, 0, none⟩) 2 2 ∧ _ ≤ G ∧ Wr.heap[G]? = some (.cells #[.int .i64 5, .string { data := #[] }, .string { data := #[] }, .string { data := #[] }, .bool false, .int .i64 0, .int .i64 (k : Int), .int .i64 1, .slice (some ⟨g2, 0, none⟩) k cap2, .int .i64 5, .string { data := #[] }, .string { data := #[] }, .string { data := #[] }, .bool false, .int .i64 0, .int .i64 (k : Int), .int .i64 1, .slice (some ⟨g, 0, none⟩) k cap] 27 (0, 0)) := hF.get 9 _ rfl (.inr p9)
                    subst eG
                    have p6 := hpre 6 (by kernel_rfl)
                    have e6 : s6 = .bool true := hF.get 6 _ rfl (.inr p6)
                    subst e6
                    refine step_of ⟨some 67, _, _, _, _, _⟩ rfl (fun K' hK => ?_)
                    rw [if_pos (by rfl)]
                    go_simp
                    go_at_call 9
                    (with_reducible refine (L2.on QrI.out _ _ _ _ _ _ hGB (HVb.out.below (below_none hF.low)) (HV.out.below (below_none hF.low)) (HE.out.below (below_none hF.low))).mono ?_)
                    rintro e Wq ⟨rfl, hq⟩
                    refine hK.out _ _ ⟨_, hF.pure hok hla hpre rfl hq, ?fr⟩
                    case fr => simp only [putO, layL]
                  · replace hge : 11 ≤ i := hgt
                    clear hgt
                    obtain rfl := eqi hi hge
                    have p6 := hpre 6 (by kernel_rfl)
                    have e6 : s6 = .bool true := hF.get 6 _ rfl (.inr p6)
                    subst e6
                    have hcc := (nine_at (keep_block H10.out (below_none hF.low))).1
                    have cH100 := hcc.1
                    have cH101 := hcc.2.1
                    have cH102 := hcc.2.2.1
                    have cH103 := hcc.2.2.2.1
                    have cH104 := hcc.2.2.2.2.1
                    have cH105 := hcc.2.2.2.2.2.1
                    have cH106 := hcc.2.2.2.2.2.2.1
                    have cH107 := hcc.2.2.2.2.2.2.2.1
                    have cH108 := hcc.2.2.2.2.2.2.2.2
                    clear hcc
                    refine step_of ⟨some 68, _, _, _, _, _⟩ rfl (fun K' hK => ?_)
                    rw [if_pos (by rfl)]
                    go_simp
                    refine hK.out _ _ ⟨_, hF.pure hok hla hpre rfl (Below.refl _ _), ?fr⟩
                    case fr => simp only [putO, layL]
                · replace hge : 12 ≤ i := hgt
                  clear hgt
                  rcases Nat.lt_or_ge i 13 with hlt | hgt
                  · replace hi := hlt
                    clear hlt
                    obtain rfl := eqi hi hge
                    have p10 := hpre 10 (by kernel_rfl)
                    have e10 : s10 = .agg #[.int .i64 1, .string (numS bq), .string (denS bq), .string { data := #[] }, .bool false, .int .i64 0, .int .i64 0, .int .i64 0, .slice none 0 0] := hF.get 10 _ rfl (.inr p10)
                    subst e10
                    have p11 := hpre 11 (by kernel_rfl)
                    have e11 : s11 = .agg #[.int .i64 1, .string (numS bq), .string (denS bq), .string { data := #[] }, .bool false, .int .i64 0, .int .i64 0, .int .i64 0, .slice none 0 0] := hF.get 11 _ rfl (.inr p11)
                    subst e11
                    have p6 := hpre 6 (by kernel_rfl)
                    have e6 : s6 = .bool true := hF.get 6 _ rfl (.inr p6)
                    subst e6
                    refine step_of ⟨some 69, _, _, _, _, _⟩ rfl (fun K' hK => ?_)
                    rw [if_pos (by rfl)]
                    go_simp
                    go_at_call 11
                    (with_reducible refine (same_one bq _).mono ?_)
                    rintro e Wq ⟨rfl, hq⟩
                    refine hK.out _ _ ⟨_, hF.pure hok hla hpre rfl hq, ?fr⟩
                    case fr => simp only [putO, layL]
                  · replace hge : 13 ≤ i := hgt
                    clear hgt
                    rcases Nat.lt_or_ge i 14 with hlt | hgt
                    · replace hi := hlt
                      clear hlt
                      obtain rfl := eqi hi hge
                      have p6 := hpre 6 (by kernel_rfl)
                      have e6 : s6 = .bool true := hF.get 6 _ rfl (.inr p6)
                      subst e6
                      have p12 := hpre 12 (by kernel_rfl)
                      have e12 : s12 = .bool true := hF.get 12 _ rfl (.inr p12)
                      subst e12
                      refine step_of ⟨some 70, _, _, _, _, _⟩ rfl (fun K' hK => ?_)
                      go_simp
                      refine hK.out _ _ ⟨_, hF.pure hok hla hpre rfl (Below.refl _ _), ?fr⟩
                      case fr => simp only [putO, layL]
                    · replace hge : 14 ≤ i := hgt
                      clear hgt
                      obtain rfl := eqi hi hge
                      have p13 := hpre 13 (by kernel_rfl)
                      have e13 : s13 = .bool true := hF.get 13 _ rfl (.inr p13)
                      subst e13
                      refine step_of ⟨some 71, _, _, _, _, _⟩ rfl (fun K' hK => ?_)
                      go_simp
                      refine hK.out _ _ ⟨_, hF.pure hok hla hpre rfl (Below.refl _ _), ?fr⟩
                      case fr => simp only [putO, layL]
              · replace hge : 15 ≤ i := hgt
                clear hgt
                rcases Nat.lt_or_ge i 18 with hlt | hgt
                · replace hi := hlt
                  clear hlt
                  rcases Nat.lt_or_ge i 16 with hlt | hgt
                  · replace hi := hlt
                    clear hlt
                    obtain rfl := eqi hi hge
                    have p14 := hpre 14 (by kernel_rfl)
                    have e14 : s14 = .bool true := hF.get 14 _ rfl (.inr p14)
                    subst e14
                    refine step_of ⟨some 72, _, _, _, _, _⟩ rfl (fun K' hK => ?_)
                    rw [if_pos (by rfl)]
                    go_simp
                    go_at_call 10
                    (with_reducible refine (Qt10.out _ (HE.out.below (below_none hF.low))).mono ?_)
                    rintro e Wq ⟨rfl, hq⟩
                    refine hK.out _ _ ⟨_, hF.pure hok hla hpre rfl hq, ?fr⟩
                    case fr => simp only [putO, layL]
                  · replace hge : 16 ≤ i := hgt
                    clear hgt
                    rcases Nat.lt_or_ge i 17 with hlt | hgt
                    · replace hi := hlt
                      clear hlt
                      obtain rfl := eqi hi hge
                      have p14 := hpre 14 (by kernel_rfl)
                      have e14 : s14 = .bool true := hF.get 14 _ rfl (.inr p14)
                      subst e14
                      have hcc := (nine_at (keep_block H8.out (below_none hF.low))).1
                      have cH80 := hcc.1
                      have cH81 := hcc.2.1
                      have cH82 := hcc.2.2.1
                      have cH83 := hcc.2.2.2.1
                      have cH84 := hcc.2.2.2.2.1
                      have cH85 := hcc.2.2.2.2.2.1
                      have cH86 := hcc.2.2.2.2.2.2.1
                      have cH87 := hcc.2.2.2.2.2.2.2.1
                      have cH88 := hcc.2.2.2.2.2.2.2.2
                      clear hcc
                      refine step_of ⟨some 73, _, _, _, _, _⟩ rfl (fun K' hK => ?_)
                      rw [if_pos (by rfl)]
                      go_simp
                      refine hK.out _ _ ⟨_, hF.pure hok hla hpre rfl (Below.refl _ _), ?fr⟩
                      case fr => simp only [putO, layL]
                    · replace hge : 17 ≤ i := hgt
                      clear hgt
                      obtain rfl := eqi hi hge
                      have p14 := hpre 14 (by kernel_rfl)
                      have e14 : s14 = .bool true := hF.get 14 _ rfl (.inr p14)
                      subst e14
                      have hcc := (nine_at (keep_block H7.out (below_none hF.low))).1
                      have cH70 := hcc.1
                      have cH71 := hcc.2.1
                      have cH72 := hcc.2.2.1
                      have cH73 := hcc.2.2.2.1
                      have cH74 := hcc.2.2.2.2.1
                      have cH75 := hcc.2.2.2.2.2.1
                      have cH76 := hcc.2.2.2.2.2.2.1
                      have cH77 := hcc.2.2.2.2.2.2.2.1
                      have cH78 := hcc.2.2.2.2.2.2.2.2
                      clear hcc
                      refine step_of ⟨some 74, _, _, _, _, _⟩ rfl (fun K' hK => ?_)
                      rw [if_pos (by rfl)]
                      go_simp
                      refine hK.out _ _ ⟨_, hF.pure hok hla hpre rfl (Below.refl _ _), ?fr⟩
                      case fr => simp only [putO, layL]
                · replace hge : 18 ≤ i := hgt
                  clear hgt
                  rcases Nat.lt_or_ge i 19 with hlt | hgt
                  · replace hi := hlt
                    clear hlt
                    obtain rfl := eqi hi hge
                    have p15 := hpre 15 (by kernel_rfl)
                    have e15 : s15 = .agg #[.int .i64 1, .string (numS ten), .string (denS ten), .string { data := #[] }, .bool false, .int .i64 0, .int .i64 0, .int .i64 0, .slice none 0 0] := hF.get 15 _ rfl (.inr p15)
                    subst e15
                    have p16 := hpre 16 (by kernel_rfl)
                    have e16 : s16 = .agg #[.int .i64 5, .string { data := #[] }, .string { data := #[] }, .string { data := #[] }, .bool false, .int .i64 0, .int .i64 (k : Int), .int .i64 1, .slice (some ⟨g2, 0, none⟩) k cap2] := hF.get 16 _ rfl (.inr p16)
                    subst e16
                    have p17 := hpre 17 (by kernel_rfl)
                    have e17 : s17 = .agg #[.int .i64 5, .string { data := #[] }, .string { data := #[] }, .string { data := #[] }, .bool false, .int .i64 0, .int .i64 (k : Int), .int .i64 1, .slice (some ⟨g, 0, none⟩) k cap] := hF.get 17 _ rfl (.inr p17)
                    subst e17
                    have p14 := hpre 14 (by kernel_rfl)
                    have e14 : s14 = .bool true := hF.get 14 _ rfl (.inr p14)
                    subst e14
                    refine step_of ⟨some 75, _, _, _, _, _⟩ rfl (fun K' hK => ?_)
                    rw [if_pos (by rfl)]
                    go_simp
                    refine hK.out _ _ ⟨_, hF.row hok hla hpre rfl, ?fr⟩
                    case fr => simp only [putO, layL]
                  · replace hge : 19 ≤ i := hgt
                    clear hgt
                    rcases Nat.lt_or_ge i 20 with hlt | hgt
                    · replace hi := hlt
                      clear hlt
                      obtain rfl := eqi hi hge
                      have p18 := hpre 18 (by kernel_rfl)
                      obtain ⟨G, eG, _, hGB⟩ : ∃ G, s18 = .slice (some ⟨G, 0, none⟩) 3 3 ∧ _ ≤ G ∧ Wr.heap[G]? = some (.cells #[.int .i64 1, .string (numS ten), .string (denS ten), .string { data := #[] }, .bool false, .int .i64 0, .int .i64 0, .int .i64 0, .slice none 0 0, .int .i64 5, .string { data := #[] }, .string { data := #[] }, .string { data := #[] }, .bool false, .int .i64 0, .int .i64 (k : Int), .int .i64 1, .slice (some ⟨g2, 0, none⟩) k cap2, .int .i64 5, .string { data := #[] }, .string { data := #[] }, .string { data := #[] }, .bool false, .int .i64 0, .int .i64 (k : Int), .int .i64 1, .slice (some ⟨g, 0, none⟩) k cap] 27 (0, 0)) := hF.get 18 _ rfl (.inr p18)
                      subst eG
                      have p14 := hpre 14 (by kernel_rfl)
                      have e14 : s14 = .bool true := hF.get 14 _ rfl (.inr p14)
                      subst e14
                      refine step_of ⟨some 76, _, _, _, _, _⟩ rfl (fun K' hK => ?_)
                      rw [if_pos (by rfl)]
                      go_simp
                      go_at_call 9
                      (with_reducible refine (L3.on QrF.out _ _ _ _ _ _ hGB (HVb.out.below (below_none hF.low)) (HV.out.below (below_none hF.low)) (HE.out.below (below_none hF.low))).mono ?_)
                      rintro e Wq ⟨rfl, hq⟩
                      refine hK.out _ _ ⟨_, hF.pure hok hla hpre rfl hq, ?fr⟩
                      case fr => simp only [putO, layL]
                    · replace hge : 20 ≤ i := hgt
                      clear hgt
                      obtain rfl := eqi hi hge
                      have p14 := hpre 14 (by kernel_rfl)
                      have e14 : s14 = .bool true := hF.get 14 _ rfl (.inr p14)
                      subst e14
                      refine step_of ⟨some 77, _, _, _, _, _⟩ rfl (fun K' hK => ?_)
                      rw [if_pos (by rfl)]
                      go_simp
                      go_at_call 10
                      (with_reducible refine (Qt10.out _ (HE.out.below (below_none hF.low))).mono ?_)
                      rintro e Wq ⟨rfl, hq⟩
                      refine hK.out _ _ ⟨_, hF.pure hok hla hpre rfl hq, ?fr⟩
                      case fr => simp only [putO, layL]
          · replace hge : 21 ≤ i := hgt
            clear hgt
            rcases Nat.lt_or_ge i 31 with hlt | hgt
            · replace hi := hlt
              clear hlt
              rcases Nat.lt_or_ge i 26 with hlt | hgt
              · replace hi := hlt
                clear hlt
                rcases Nat.lt_or_ge i 23 with hlt | hgt
                · replace hi := hlt
                  clear hlt
                  rcases Nat.lt_or_ge i 22 with hlt | hgt
                  · replace hi := hlt
                    clear hlt
                    obtain rfl := eqi hi hge
                    have p14 := hpre 14 (by kernel_rfl)
                    have e14 : s14 = .bool true := hF.get 14 _ rfl (.inr p14)
                    subst e14
                    have hcc := (nine_at (keep_block H9.out (below_none hF.low))).1
                    have cH90 := hcc.1
                    have cH91 := hcc.2.1
                    have cH92 := hcc.2.2.1
                    have cH93 := hcc.2.2.2.1
                    have cH94 := hcc.2.2.2.2.1
                    have cH95 := hcc.2.2.2.2.2.1
                    have cH96 := hcc.2.2.2.2.2.2.1
                    have cH97 := hcc.2.2.2.2.2.2.2.1
                    have cH98 := hcc.2.2.2.2.2.2.2.2
                    clear hcc
                    refine step_of ⟨some 78, _, _, _, _, _⟩ rfl (fun K' hK => ?_)
                    rw [if_pos (by rfl)]
                    go_simp
                    refine hK.out _ _ ⟨_, hF.pure hok hla hpre rfl (Below.refl _ _), ?fr⟩
                    case fr => simp only [putO, layL]
                  · replace hge : 22 ≤ i := hgt
                    clear hgt
                    obtain rfl := eqi hi hge
                    have p20 := hpre 20 (by kernel_rfl)
                    have e20 : s20 = .agg #[.int .i64 1, .string (numS ten), .string (denS ten), .string { data := #[] }, .bool false, .int .i64 0, .int .i64 0, .int .i64 0, .slice none 0 0] := hF.get 20 _ rfl (.inr p20)
                    subst e20
                    have p21 := hpre 21 (by kernel_rfl)
                    have e21 : s21 = .agg #[.int .i64 1, .string (numS kq), .string (denS kq), .string { data := #[] }, .bool false, .int .i64 0, .int .i64 0, .int .i64 0, .slice none 0 0] := hF.get 21 _ rfl (.inr p21)
                    subst e21
                    have p14 := hpre 14 (by kernel_rfl)
                    have e14 : s14 = .bool true := hF.get 14 _ rfl (.inr p14)
                    subst e14
                    refine step_of ⟨some 79, _, _, _, _, _⟩ rfl (fun K' hK => ?_)
                    rw [if_pos (by rfl)]
                    go_simp
                    refine hK.out _ _ ⟨_, hF.row hok hla hpre rfl, ?fr⟩
                    case fr => simp only [putO, layL]
                · replace hge : 23 ≤ i := hgt
                  clear hgt
                  rcases Nat.lt_or_ge i 24 with hlt | hgt
                  · replace hi := hlt
                    clear hlt
                    obtain rfl := eqi hi hge
                    have p22 := hpre 22 (by kernel_rfl)
                    obtain ⟨G, eG, _, hGB⟩ : ∃ G, s22 = .slice (some ⟨G, 0, none⟩) 2 2 ∧ _ ≤ G ∧ Wr.heap[G]? = some (.cells #[.int .i64 1, .string (numS ten), .string (denS ten), .string { data := #[] }, .bool false, .int .i64 0, .int .i64 0, .int .i64 0, .slice none 0 0, .int .i64 1, .string (numS kq), .string (denS kq), .string { data := #[] }, .bool false, .int .i64 0, .int .i64 0, .int .i64 0, .slice none 0 0] 27 (0, 0)) := hF.get 22 _ rfl (.inr p22)
                    subst eG
                    have p14 := hpre 14 (by kernel_rfl)
                    have e14 : s14 = .bool true := hF.get 14 _ rfl (.inr p14)
                    subst e14
                    refine step_of ⟨some 80, _, _, _, _, _⟩ rfl (fun K' hK => ?_)
                    rw [if_pos (by rfl)]
                    go_simp
                    go_at_call 12
                    (with_reducible refine (P2.on QpT.out _ _ hGB (HE.out.below (below_none hF.low))).mono ?_)
                    rintro e Wq ⟨rfl, hq⟩
                    refine hK.out _ _ ⟨_, hF.pure hok hla hpre rfl hq, ?fr⟩
                    case fr => simp only [putO, layL]
                  · replace hge : 24 ≤ i := hgt
                    clear hgt
                    rcases Nat.lt_or_ge i 25 with hlt | hgt
                    · replace hi := hlt
                      clear hlt
                      obtain rfl := eqi hi hge
                      have p14 := hpre 14 (by kernel_rfl)
                      have e14 : s14 = .bool true := hF.get 14 _ rfl (.inr p14)
                      subst e14
                      have hcc := (nine_at (keep_block H10.out (below_none hF.low))).1
                      have cH100 := hcc.1
                      have cH101 := hcc.2.1
                      have cH102 := hcc.2.2.1
                      have cH103 := hcc.2.2.2.1
                      have cH104 := hcc.2.2.2.2.1
                      have cH105 := hcc.2.2.2.2.2.1
                      have cH106 := hcc.2.2.2.2.2.2.1
                      have cH107 := hcc.2.2.2.2.2.2.2.1
                      have cH108 := hcc.2.2.2.2.2.2.2.2
                      clear hcc
                      refine step_of ⟨some 81, _, _, _, _, _⟩ rfl (fun K' hK => ?_)
                      rw [if_pos (by rfl)]
                      go_simp
                      refine hK.out _ _ ⟨_, hF.pure hok hla hpre rfl (Below.refl _ _), ?fr⟩
                      case fr => simp only [putO, layL]
                    · replace hge : 25 ≤ i := hgt
                      clear hgt
                      obtain rfl := eqi hi hge
                      have p23 := hpre 23 (by kernel_rfl)
                      have e23 : s23 = .agg #[.int .i64 1, .string (numS tk), .string (denS tk), .string { data := #[] }, .bool false, .int .i64 0, .int .i64 0, .int .i64 0, .slice none 0 0] := hF.get 23 _ rfl (.inr p23)
                      subst e23
                      have p24 := hpre 24 (by kernel_rfl)
                      have e24 : s24 = .agg #[.int .i64 1, .string (numS bq), .string (denS bq), .string { data := #[] }, .bool false, .int .i64 0, .int .i64 0, .int .i64 0, .slice none 0 0] := hF.get 24 _ rfl (.inr p24)
                      subst e24
                      have p14 := hpre 14 (by kernel_rfl)
                      have e14 : s14 = .bool true := hF.get 14 _ rfl (.inr p14)
                      subst e14
                      refine step_of ⟨some 82, _, _, _, _, _⟩ rfl (fun K' hK => ?_)
                      rw [if_pos (by rfl)]
                      go_simp
                      go_at_call 8
                      (with_reducible refine (QtF.out _ (HE.out.below (below_none hF.low))).mono ?_)
                      rintro e Wq ⟨rfl, hq⟩
                      refine hK.out _ _ ⟨_, hF.pure hok hla hpre rfl hq, ?fr⟩
                      case fr => simp only [putO, layL]
              · replace hge : 26 ≤ i := hgt
                clear hgt
                rcases Nat.lt_or_ge i 28 with hlt | hgt
                · replace hi := hlt
                  clear hlt
                  rcases Nat.lt_or_ge i 27 with hlt | hgt
                  · replace hi := hlt
                    clear hlt
                    obtain rfl := eqi hi hge
                    have p19 := hpre 19 (by kernel_rfl)
                    have e19 : s19 = .agg #[.int .i64 1, .string (numS fc), .string (denS fc), .string { data := #[] }, .bool false, .int .i64 0, .int .i64 0, .int .i64 0, .slice none 0 0] := hF.get 19 _ rfl (.inr p19)
                    subst e19
                    have p25 := hpre 25 (by kernel_rfl)
                    have e25 : s25 = .agg #[.int .i64 1, .string (numS fc), .string (denS fc), .string { data := #[] }, .bool false, .int .i64 0, .int .i64 0, .int .i64 0, .slice none 0 0] := hF.get 25 _ rfl (.inr p25)
                    subst e25
                    have p14 := hpre 14 (by kernel_rfl)
                    have e14 : s14 = .bool true := hF.get 14 _ rfl (.inr p14)
                    subst e14
                    refine step_of ⟨some 83, _, _, _, _, _⟩ rfl (fun K' hK => ?_)
                    rw [if_pos (by rfl)]
                    go_simp
                    go_at_call 11
                    (with_reducible refine (same_one fc _).mono ?_)
                    rintro e Wq ⟨rfl, hq⟩
                    refine hK.out _ _ ⟨_, hF.pure hok hla hpre rfl hq, ?fr⟩
                    case fr => simp only [putO, layL]
                  · replace hge : 27 ≤ i := hgt
                    clear hgt
                    obtain rfl := eqi hi hge
                    have p14 := hpre 14 (by kernel_rfl)
                    have e14 : s14 = .bool true := hF.get 14 _ rfl (.inr p14)
                    subst e14
                    have p26 := hpre 26 (by kernel_rfl)
                    have e26 : s26 = .bool true := hF.get 26 _ rfl (.inr p26)
                    subst e26
                    refine step_of ⟨some 84, _, _, _, _, _⟩ rfl (fun K' hK => ?_)
                    go_simp
                    refine hK.out _ _ ⟨_, hF.pure hok hla hpre rfl (Below.refl _ _), ?fr⟩
                    case fr => simp only [putO, layL]
                · replace hge : 28 ≤ i := hgt
                  clear hgt
                  rcases Nat.lt_or_ge i 29 with hlt | hgt
                  · replace hi := hlt
                    clear hlt
                    obtain rfl := eqi hi hge
                    have p27 := hpre 27 (by kernel_rfl)
                    have e27 : s27 = .bool true := hF.get 27 _ rfl (.inr p27)
                    subst e27
                    refine step_of ⟨some 85, _, _, _, _, _⟩ rfl (fun K' hK => ?_)
                    go_simp
                    refine hK.out _ _ ⟨_, hF.pure hok hla hpre rfl (Below.refl _ _), ?fr⟩
                    case fr => simp only [putO, layL]
                  · replace hge : 29 ≤ i := hgt
                    clear hgt
                    rcases Nat.lt_or_ge i 30 with hlt | hgt
                    · replace hi := hlt
                      clear hlt
                      obtain rfl := eqi hi hge
                      have p28 := hpre 28 (by kernel_rfl)
                      have e28 : s28 = .bool true := hF.get 28 _ rfl (.inr p28)
                      subst e28
                      refine step_of ⟨some 86, _, _, _, _, _⟩ rfl (fun K' hK => ?_)
                      rw [if_pos (by rfl)]
                      go_simp
                      refine hK.out _ _ ⟨_, hF.pure hok hla hpre rfl (Below.refl _ _), ?fr⟩
                      case fr => simp only [putO, layL]
                    · replace hge : 30 ≤ i := hgt
                      clear hgt
                      obtain rfl := eqi hi hge
                      have p29 := hpre 29 (by kernel_rfl)
                      have e29 : s29 = .bool true := hF.get 29 _ rfl (.inr p29)
                      subst e29
                      have p28 := hpre 28 (by kernel_rfl)
                      have e28 : s28 = .bool true := hF.get 28 _ rfl (.inr p28)
                      subst e28
                      refine step_of ⟨some 87, _, _, _, _, _⟩ rfl (fun K' hK => ?_)
                      rw [if_pos (by rfl)]
                      go_simp
                      refine hK.out _ _ ⟨_, hF.pure hok hla hpre rfl (Below.refl _ _), ?fr⟩
                      case fr => simp only [putO, layL]
            · replace hge : 31 ≤ i := hgt
              clear hgt
              rcases Nat.lt_or_ge i 36 with hlt | hgt
              · replace hi := hlt
                clear hlt
                rcases Nat.lt_or_ge i 33 with hlt | hgt
                · replace hi := hlt
                  clear hlt
                  rcases Nat.lt_or_ge i 32 with hlt | hgt
                  · replace hi := hlt
                    clear hlt
                    obtain rfl := eqi hi hge
                    have p30 := hpre 30 (by kernel_rfl)
                    have e30 : s30 = .bool true := hF.get 30 _ rfl (.inr p30)
                    subst e30
                    refine step_of ⟨some 88, _, _, _, _, _⟩ rfl (fun K' hK => ?_)
                    rw [if_pos (by rfl)]
                    go_simp
                    refine hK.out _ _ ⟨_, hF.pure hok hla hpre rfl (Below.refl _ _), ?fr⟩
                    case fr => simp only [putO, layL]
                  · replace hge : 32 ≤ i := hgt
                    clear hgt
                    obtain rfl := eqi hi hge
                    have p31 := hpre 31 (by kernel_rfl)
                    have e31 : s31 = .pointer (some ⟨w3.heap.size, 5, none⟩) := hF.get 31 _ rfl (.inr p31)
                    subst e31
                    have p30 := hpre 30 (by kernel_rfl)
                    have e30 : s30 = .bool true := hF.get 30 _ rfl (.inr p30)
                    subst e30
                    have hcc := (nine_at (keep_block H13.out (below_none hF.low))).1
                    have cH130 := hcc.1
                    have cH131 := hcc.2.1
                    have cH132 := hcc.2.2.1
                    have cH133 := hcc.2.2.2.1
                    have cH134 := hcc.2.2.2.2.1
                    have cH135 := hcc.2.2.2.2.2.1
                    have cH136 := hcc.2.2.2.2.2.2.1
                    have cH137 := hcc.2.2.2.2.2.2.2.1
                    have cH138 := hcc.2.2.2.2.2.2.2.2
                    clear hcc
                    refine step_of ⟨some 89, _, _, _, _, _⟩ rfl (fun K' hK => ?_)
                    rw [if_pos (by rfl)]
                    go_simp
                    refine hK.out _ _ ⟨_, hF.pure hok hla hpre rfl (Below.refl _ _), ?fr⟩
                    case fr => simp only [putO, layL]
                · replace hge : 33 ≤ i := hgt
                  clear hgt
                  rcases Nat.lt_or_ge i 34 with hlt | hgt
                  · replace hi := hlt
                    clear hlt
                    obtain rfl := eqi hi hge
                    have p32 := hpre 32 (by kernel_rfl)
                    have e32 : s32 = .int .i64 1 := hF.get 32 _ rfl (.inr p32)
                    subst e32
                    have p30 := hpre 30 (by kernel_rfl)
                    have e30 : s30 = .bool true := hF.get 30 _ rfl (.inr p30)
                    subst e30
                    refine step_of ⟨some 90, _, _, _, _, _⟩ rfl (fun K' hK => ?_)
                    rw [if_pos (by rfl)]
                    go_simp
                    refine hK.out _ _ ⟨_, hF.pure hok hla hpre rfl (Below.refl _ _), ?fr⟩
                    case fr => simp only [putO, layL]
                  · replace hge : 34 ≤ i := hgt
                    clear hgt
                    rcases Nat.lt_or_ge i 35 with hlt | hgt
                    · replace hi := hlt
                      clear hlt
                      obtain rfl := eqi hi hge
                      have p30 := hpre 30 (by kernel_rfl)
                      have e30 : s30 = .bool true := hF.get 30 _ rfl (.inr p30)
                      subst e30
                      have p33 := hpre 33 (by kernel_rfl)
                      have e33 : s33 = .bool true := hF.get 33 _ rfl (.inr p33)
                      subst e33
                      have p28 := hpre 28 (by kernel_rfl)
                      have e28 : s28 = .bool true := hF.get 28 _ rfl (.inr p28)
                      subst e28
                      refine step_of ⟨some 91, _, _, _, _, _⟩ rfl (fun K' hK => ?_)
                      rw [if_pos (by rfl)]
                      go_simp
                      refine hK.out _ _ ⟨_, hF.pure hok hla hpre rfl (Below.refl _ _), ?fr⟩
                      case fr => simp only [putO, layL]
                    · replace hge : 35 ≤ i := hgt
                      clear hgt
                      obtain rfl := eqi hi hge
                      have p34 := hpre 34 (by kernel_rfl)
                      have e34 : s34 = .bool true := hF.get 34 _ rfl (.inr p34)
                      subst e34
                      have p28 := hpre 28 (by kernel_rfl)
                      have e28 : s28 = .bool true := hF.get 28 _ rfl (.inr p28)
                      subst e28
                      refine step_of ⟨some 92, _, _, _, _, _⟩ rfl (fun K' hK => ?_)
                      rw [if_pos (by rfl)]
                      go_simp
                      refine hK.out _ _ ⟨_, hF.pure hok hla hpre rfl (Below.refl _ _), ?fr⟩
                      case fr => simp only [putO, layL]
              · replace hge : 36 ≤ i := hgt
                clear hgt
                rcases Nat.lt_or_ge i 39 with hlt | hgt
                · replace hi := hlt
                  clear hlt
                  rcases Nat.lt_or_ge i 37 with hlt | hgt
                  · replace hi := hlt
                    clear hlt
                    obtain rfl := eqi hi hge
                    have p35 := hpre 35 (by kernel_rfl)
                    have e35 : s35 = .bool true := hF.get 35 _ rfl (.inr p35)
                    subst e35
                    refine step_of ⟨some 93, _, _, _, _, _⟩ rfl (fun K' hK => ?_)
                    first
                      | rw [if_neg (by decide)]
                      | rw [if_neg (Bool.eq_false_iff.1 (by kernel_rfl))]
                    go_simp
                    refine hK.out _ _ ⟨_, hF.pure hok hla hpre rfl (Below.refl _ _), ?fr⟩
                    case fr => simp only [putO, layL]
                  · replace hge : 37 ≤ i := hgt
                    clear hgt
                    rcases Nat.lt_or_ge i 38 with hlt | hgt
                    · replace hi := hlt
                      clear hlt
                      obtain rfl := eqi hi hge
                      have p35 := hpre 35 (by kernel_rfl)
                      have e35 : s35 = .bool true := hF.get 35 _ rfl (.inr p35)
                      subst e35
                      refine step_of ⟨some 94, _, _, _, _, _⟩ rfl (fun K' hK => ?_)
                      first
                        | rw [if_neg (by decide)]
                        | rw [if_neg (Bool.eq_false_iff.1 (by kernel_rfl))]
                      go_simp
                      refine hK.out _ _ ⟨_, hF.pure hok hla hpre rfl (Below.refl _ _), ?fr⟩
                      case fr => simp only [putO, layL]
                    · replace hge : 38 ≤ i := hgt
                      clear hgt
                      obtain rfl := eqi hi hge
                      have p35 := hpre 35 (by kernel_rfl)
                      have e35 : s35 = .bool true := hF.get 35 _ rfl (.inr p35)
                      subst e35
                      refine step_of ⟨some 95, _, _, _, _, _⟩ rfl (fun K' hK => ?_)
                      first
                        | rw [if_neg (by decide)]
                        | rw [if_neg (Bool.eq_false_iff.1 (by kernel_rfl))]
                      go_simp
                      refine hK.out _ _ ⟨_, hF.pure hok hla hpre rfl (Below.refl _ _), ?fr⟩
                      case fr => simp only [putO, layL]
                · replace hge : 39 ≤ i := hgt
                  clear hgt
                  rcases Nat.lt_or_ge i 40 with hlt | hgt
                  · replace hi := hlt
                    clear hlt
                    obtain rfl := eqi hi hge
                    have p35 := hpre 35 (by kernel_rfl)
                    have e35 : s35 = .bool true := hF.get 35 _ rfl (.inr p35)
                    subst e35
                    have p38 := hpre 38 (by kernel_rfl)
                    have e38 : s38 = undef := hF.get 38 _ rfl (.inr p38)
                    subst e38
                    have p28 := hpre 28 (by kernel_rfl)
                    have e28 : s28 = .bool true := hF.get 28 _ rfl (.inr p28)
                    subst e28
                    refine step_of ⟨some 96, _, _, _, _, _⟩ rfl (fun K' hK => ?_)
                    rw [if_pos (by rfl)]
                    go_simp
                    refine hK.out _ _ ⟨_, hF.pure hok hla hpre rfl (Below.refl _ _), ?fr⟩
                    case fr => simp only [putO, layL]
                  · replace hge : 40 ≤ i := hgt
                    clear hgt
                    rcases Nat.lt_or_ge i 41 with hlt | hgt
                    · replace hi := hlt
                      clear hlt
                      obtain rfl := eqi hi hge
                      have p28 := hpre 28 (by kernel_rfl)
                      have e28 : s28 = .bool true := hF.get 28 _ rfl (.inr p28)
                      subst e28
                      have p39 := hpre 39 (by kernel_rfl)
                      have e39 : s39 = .bool true := hF.get 39 _ rfl (.inr p39)
                      subst e39
                      refine step_of ⟨some 97, _, _, _, _, _⟩ rfl (fun K' hK => ?_)
                      go_simp
                      refine hK.out _ _ ⟨_, hF.pure hok hla hpre rfl (Below.refl _ _), ?fr⟩
                      case fr => simp only [putO, layL]
                    · replace hge : 41 ≤ i := hgt
                      clear hgt
                      obtain rfl := eqi hi hge
                      have p40 := hpre 40 (by kernel_rfl)
                      have e40 : s40 = .bool true := hF.get 40 _ rfl (.inr p40)
                      subst e40
                      refine step_of ⟨some 6, _, _, _, _, _⟩ rfl (fun K' hK => ?_)
                      go_simp
                      refine hK.out _ _ ⟨_, hF.pure hok hla hpre rfl (Below.refl _ _), ?fr⟩
                      case fr => simp only [putO, layL]
        case hd =>
          rintro listed vs WC hF hall
          obtain ⟨s0, s1, s2, s3, s4, s5, s6, s7, s8, s9, s10, s11, s12, s13, s14, s15, s16, s17, s18, s19, s20, s21, s22, s23, s24, s25, s26, s27, s28, s29, s30, s31, s32, s33, s34, s35, s36, s37, s38, s39, s40, s41, hvs⟩ := exl_of 42 vs (fun l => vs = l) hF.len rfl
          subst hvs
          have e41 : s41 = .bool true := hF.get 41 _ rfl (.inr (hall 41 (by decide)))
          subst e41
          have hq := below_none hF.low
          replace HE := Lib.hid (HE.out.below hq)
          replace HL := Lib.hid (HL.out.trans (hq.mono HL.out.size))
          replace H7 := Lib.hid (keep_block H7.out hq)
          replace H8 := Lib.hid (keep_block H8.out hq)
          replace H9 := Lib.hid (keep_block H9.out hq)
          replace H10 := Lib.hid (keep_block H10.out hq)
          replace H13 := Lib.hid (keep_block H13.out hq)
          replace HV := Lib.hid (HV.out.below hq)
          replace HVb := Lib.hid (HVb.out.below hq)
          clear hq
          clear hF hall hok hna hla
          simp only [putO, layL]
          go_wp2
          go_ret
          exact ⟨rfl, HL.out⟩
end Go.Proofs.YtemdjmaakajhjaaGreatDoor.Num.Ft
