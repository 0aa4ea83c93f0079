/- Contracts of the program's functions, joined from smaller texts. Conditions stand at each theorem. -/
import Derived.Test.YtjcdeeahjkfmoaaGreatDoorNumA
import Derived.Test.YtjcdeeahjkfmoaaGreatDoorShelf
import Derived.Lib.AtoiErrMem
import Derived.RangeFuncNested
import Derived.RangeFuncBound
import Derived.RangeFuncCalls
import Derived.RangeFuncLeaves
import Derived.RangeFuncBox
import Derived.Shelf.Abstract
import Derived.Shelf.RegionOpen
import Derived.OwnWalkIn
import Derived.TacticsInMore
import Derived.LoopNIn
import Derived.LoopIn
set_option maxRecDepth 100000
set_option maxHeartbeats 8000000
namespace Go.Proofs.YtjcdeeahjkfmoaaGreatDoor.Num
open Go.RowKit Go.Lib
theorem limbsV_one (l : List Nat) : ∀ u ∈ limbsV l, u.oneCell' = true := by
 intro u hu
 obtain ⟨d, _, rfl⟩ := List.mem_map.1 hu
 rfl
theorem clone_any (v : Value) (l : List Nat) (w : World) (h : LimbsAt w v l) (hl : l.length ≤ 1000000000) :
  Calls Tryz.prog 333 #[v] w fun e w' => ∃ v', e = .returned v' ∧ OwnL w.heap.size v' l w' ∧ Below w.heap.size w w' := by
 obtain ⟨A, C, rfl, hC⟩ := h.form
 have qT : ∀ (w : World) (a : Option Addr) (n c n' c' : Nat), (binOp .eql 171 (.slice a n c) (.slice none n' c')).run Tryz.prog w = .ok (.bool a.isNone) w := fun w a n c n' c' => Lib.run_eql_slice_nil w _ _ a n c n' c' Tryz.underlying171
 have H := hid h; clear h
 have HC := hid hC; clear hC
 cases A with
 | none =>
  have hz : l = [] := by
   cases l with
   | nil => rfl
   | cons d r =>
    obtain ⟨b, o, hA, _⟩ := H.out.cellD 0 (by simp)
    cases hA
  subst hz
  go_enter Tryz.func333, Tryz.ntmps333
  go_wp2
  go_ret
  exact ⟨_, rfl, World.ownsRow_nil _ _ _ _, Below.refl _ _⟩
 | some a =>
  obtain ⟨i0, hi, hz0, hz1, hz2⟩ := info_u32
  have hcells : ∀ j u, (limbsV l)[j]? = some u → (w.alloc (.cells #[] 182)).cell? (a.add j) = some u := by
   intro j u hj
   obtain ⟨hj1, hj2⟩ := List.getElem?_eq_some_iff.1 hj
   have hj3 : j < l.length := by simpa [limbsV] using hj1
   obtain ⟨b, o, ha, hcell⟩ := H.out.cellD j hj3
   obtain rfl := Option.some.inj ha
   rw [Addr.add_lit]
   refine Lib.cell?_alloc_some _ ?_
   rw [hcell, ← hj2]
   simp [limbsV, List.getD, hj3]
  have HCE := hid hcells; clear hcells
  go_enter Tryz.func333, Tryz.ntmps333
  go_wp2_with (at_builtin; refine wpList_append_own _ rfl _ _ 171 rfl w.heap.size 182 i0 (.int .u32 0) 1 4 Tryz.underlying171 hi hz0 hz1 hz2 rfl (by decide) _ _ _ rfl (World.ownsRow_made w #[] 0 (Nat.le_refl _) (Nat.zero_le _) rfl) a l.length C (limbsV l) rfl (by simp [limbsV]) HCE.out (limbsV_one l) (by unfold maxLen; omega) (by omega) (by simp) ?_)
  intro v' w1 hown hgrow hnil
  go_wp2
  go_ret
  exact ⟨v', rfl, by simpa [OwnL] using hown, ((Below.refl _ w).alloc (Nat.le_refl _) _).grown hgrow (by simp) (by intro k hk; simp [Value.ownBlock] at hk; omega)⟩
structure MAt (B g : Nat) (w : World) (x y : List Nat) (i : Nat) (o : List Nat) (c : Nat) (wx : World) : Prop where
 inv : MinusInv LB x y i o c
 block : ∃ cs, wx.heap[g]? = some (.cells cs 182 (0, 0)) ∧ Begins cs o
 below : Below B w wx
theorem MAt.step {B g : Nat} {w wx : World} {x y : List Nat} {i c : Nat} {o : List Nat} (h : MAt B g w x y i o c wx) (hB : B ≤ g) (hx : ∀ d ∈ x, d < LB) (hy : ∀ d ∈ y, d < LB) (hi : i < x.length) (n c' e : Nat) (hn : n = c + y.getD i 0) (hc : c' = if x.getD i 0 < n then 1 else 0) (he : e = less LB (x.getD i 0) n) :
  MAt B g w x y (i + 1) (o.set i e) c' (wx.setCell ⟨g, i, none⟩ (.int .u32 e)) := by
 subst hn hc he
 obtain ⟨cs, h1, h2⟩ := h.block
 exact ⟨MinusInv.step LB_two hx hy h.inv hi, ⟨_, heap_setCell_at h1 i _, h2.set i _⟩, h.below.setCell (p := ⟨g, i, none⟩) hB _⟩
theorem MAt.step2 {B g : Nat} {w wx : World} {x y : List Nat} {i c : Nat} {o : List Nat} (h : MAt B g w x y i o c wx) (hB : B ≤ g) (hx : ∀ d ∈ x, d < LB) (hy : ∀ d ∈ y, d < LB) (hi : i < x.length) (n c' e : Nat) (u : Value) (hn : n = c + y.getD i 0) (hc : c' = if x.getD i 0 < n then 1 else 0) (he : e = less LB (x.getD i 0) n) :
  MAt B g w x y (i + 1) (o.set i e) c' ((wx.setCell ⟨g, i, none⟩ u).setCell ⟨g, i, none⟩ (.int .u32 e)) := by
 have h' := h.step hB hx hy hi n c' e hn hc he
 obtain ⟨cs, h1, h2⟩ := h.block
 refine ⟨h'.inv, ⟨_, heap_setCell_at (heap_setCell_at h1 i u) i _, ?_⟩, (h.below.setCell (p := ⟨g, i, none⟩) hB _).setCell (p := ⟨g, i, none⟩) hB _⟩
 intro j hj
 have := (h2.set i e) j hj
 simpa using this
theorem MAt.cell {B g : Nat} {w wx : World} {x y : List Nat} {i c : Nat} {o : List Nat} (h : MAt B g w x y i o c wx) (hi : i < x.length) : wx.cell? ⟨g, i, none⟩ = some (.int .u32 (x.getD i 0)) ∧ wx.frozen? ⟨g, i, none⟩ = false := by
 obtain ⟨cs, h1, h2⟩ := h.block
 refine ⟨?_, Lib.frozen_of_heap h1 i⟩
 rw [Lib.cell_of_heap h1 i, h2.at i (by rw [h.inv.len]; exact hi), getD_of_drop h.inv.tail]
theorem minus_any (v1 v2 : Value) (m n : Nat) (w : World) (h1 : NatAt w v1 m) (h2 : NatAt w v2 n) (hle : n ≤ m) (hm : (digs LB m).length ≤ 1000000000) :
  Calls Tryz.prog 284 #[v1, v2] w fun e w' => ∃ v', e = .returned v' ∧ NatAt w' v' (m - n) ∧ Below w.heap.size w w' := by
 obtain ⟨A2, C2, rfl, hC2⟩ := h2.form
 have hn : (digs LB n).length ≤ (digs LB m).length := digs_len_mono LB_two hle
 have hfin : ∀ o c, MinusInv LB (digs LB m) (digs LB n) (digs LB m).length o c → val LB o = m - n := by
  intro o c h
  have := h.done (by rw [val_digs LB_two, val_digs LB_two]; exact hle) hn
  rwa [val_digs LB_two, val_digs LB_two] at this
 have HFIN := hid hfin; clear hfin
 have hCL := clone_any v1 _ w h1 hm
 have HCL := hid hCL; clear hCL h1
 have H2 := hid h2; clear h2
 have hx32 := digs_lt LB_two m
 have hy32 := digs_lt LB_two n
 unfold NatAt at H2
 generalize digs LB m = x at *
 generalize digs LB n = y at *
 have HX32 := hid hx32; clear hx32
 have HY32 := hid hy32; clear hy32
 have HC2 := hid hC2; clear hC2
 obtain ⟨B, hB⟩ : ∃ B, w.heap.size = B := ⟨_, rfl⟩
 have HB := hid hB
 rw [hB] at HCL ⊢
 go_enter Tryz.func284, Tryz.ntmps284
 go_wp2_with fail
 refine HCL.out.mono ?_
 rintro e w1 ⟨v', rfl, hown, hb1⟩
 have HB1 := hid hb1; clear hb1
 rcases hown.2 with ⟨rfl, hz⟩ | ⟨g, cap, cs, rfl, hbg, hg, hc1, hc2, hcs, htk⟩
 ·have hxz : x = [] := List.eq_nil_of_length_eq_zero hz
  have hinv := MinusInv.start (b := LB) HX32.out y
  subst hxz
  have hv := HFIN.out [] 0 hinv
  have HV := hid hv; clear hv hinv hown hz
  go_wp2
  refine wp_loop_rounds 1 ?_
  rw [rounds_succ]
  go_wp2_with fail
  refine (trim_any (.slice none 0 0) [] w1 (LimbsAt.nil _ _ _) (fun d hd => by cases hd) (by simp)).mono ?_
  rintro e w2 ⟨v2, rfl, hn2, rfl⟩
  rw [HV.out] at hn2
  have HN2 := hid hn2; clear hn2
  go_wp2
  go_ret
  exact ⟨_, rfl, HN2.out, HB1.out⟩
 ·have hmat : MAt B g w x y 0 x 0 w1 := ⟨MinusInv.start HX32.out y, ⟨cs, hg, fun i hi => by
   have e : (cs.toList.take (x.length * 1))[i]? = some (.int .u32 x[i]) := by rw [htk, limbsV, List.getElem?_map, List.getElem?_eq_getElem hi]; rfl
   rw [List.getElem?_take_of_lt (by omega)] at e
   simpa using e⟩, HB1.out⟩
  have HM := hid hmat; clear hmat hown hg hcs htk
  unfold maxLen at hc2
  go_wp2
  go_loopg [6, 13] x.length (fun gh v6 v13 wx => ∃ (i c : Nat) (o : List Nat), i + gh = x.length ∧ v6 = .int .u32 c ∧ v13 = .int .i64 i ∧ MAt B g w x y i o c wx)
  case atStart => exact ⟨0, 0, x, by omega, rfl, by go_num, HM.out⟩
  case round =>
   obtain ⟨i, c, o, hi, rfl, rfl, hmat⟩ := hrel
   have hc1' := hmat.inv.borrow
   have HM2 := hid hmat; clear hmat
   by_cases hix : i < x.length
   ·have hib : decide ((i : Int) < (x.length : Int)) = true := decide_eq_true (by omega)
    have hin : decide (i < x.length) = true := decide_eq_true hix
    obtain ⟨hcell, hfro⟩ := HM2.out.cell hix
    have hst := HM2.out.step hbg HX32.out HY32.out hix
    have hst2 := HM2.out.step2 hbg HX32.out HY32.out hix
    obtain ⟨d, hd⟩ : ∃ d, x.getD i 0 = d := ⟨_, rfl⟩
    obtain ⟨dy, hdy⟩ : ∃ d, y.getD i 0 = d := ⟨_, rfl⟩
    have hd32 : d < 1000000000 := by rw [← hd]; exact getD_lt (by decide) HX32.out i
    have hdy32 : dy < 1000000000 := by rw [← hdy]; exact getD_lt (by decide) HY32.out i
    rw [hd] at hcell hst hst2
    rw [hdy] at hst hst2
    have HST := hid hst; clear hst
    have HST2 := hid hst2; clear hst2
    have HDY := hid hdy; clear hdy
    clear hd
    by_cases hy : i < y.length
    ·have hyb : decide ((i : Int) < (y.length : Int)) = true := decide_eq_true (by omega)
     have hyn : decide (i < y.length) = true := decide_eq_true hy
     have HHY : LimbsAt wr (.slice A2 y.length C2) y := H2.out.below (by rw [HB.out]; exact HM2.out.below)
     obtain ⟨b2, o2, rfl, e2⟩ := HHY.cellD i hy
     rw [HDY.out] at e2
     clear HHY
     by_cases hlt : d < c + dy
     ·have hltb : decide ((d : Int) < (c : Int) + dy) = true := decide_eq_true (by omega)
      have hltn : decide (d < c + dy) = true := decide_eq_true (by omega)
      have HNX := hid (HST2.out (c + dy) 1 (d + 1000000000 - (c + dy)) (.int .u32 ((d : Int) + 1000000000)) rfl (by rw [if_pos (by omega)]) (by unfold less; rw [if_pos (by omega)]; rfl))
      clear HST HST2
      rw [show ((d + 1000000000 - (c + dy) : Nat) : Int) = (d : Int) + 1000000000 - ((c : Int) + dy) by omega] at HNX
      go_wp2
      go_roundg (gk - 1)
      case measure => omega
      case rel => exact ⟨i + 1, 1, _, by omega, by go_num, by go_num, HNX.out⟩
     ·have hltb : decide ((d : Int) < (c : Int) + dy) = false := decide_eq_false (by omega)
      have hltn : decide (d < c + dy) = false := decide_eq_false (by omega)
      have HNX := hid (HST.out (c + dy) 0 (d - (c + dy)) rfl (by rw [if_neg (by omega)]) (by unfold less; rw [if_neg (by omega)]))
      clear HST HST2
      rw [show ((d - (c + dy) : Nat) : Int) = (d : Int) - ((c : Int) + dy) by omega] at HNX
      go_wp2
      go_roundg (gk - 1)
      case measure => omega
      case rel => exact ⟨i + 1, 0, _, by omega, by go_num, by go_num, HNX.out⟩
    ·have hyb : decide ((i : Int) < (y.length : Int)) = false := decide_eq_false (by omega)
     have hyn : decide (i < y.length) = false := decide_eq_false hy
     have hdy0 : dy = 0 := by rw [← HDY.out]; simp [List.getD, Nat.not_lt.1 hy]
     subst hdy0
     by_cases hlt : d < c
     ·have hltb : decide ((d : Int) < (c : Int)) = true := decide_eq_true (by omega)
      have hltn : decide (d < c) = true := decide_eq_true (by omega)
      have HNX := hid (HST2.out (c + 0) 1 (d + 1000000000 - (c + 0)) (.int .u32 ((d : Int) + 1000000000)) rfl (by rw [if_pos (by omega)]) (by unfold less; rw [if_pos (by omega)]; rfl))
      clear HST HST2
      rw [show ((d + 1000000000 - (c + 0) : Nat) : Int) = (d : Int) + 1000000000 - ((c : Int)) by omega] at HNX
      go_wp2
      go_roundg (gk - 1)
      case measure => omega
      case rel => exact ⟨i + 1, 1, _, by omega, by go_num, by go_num, HNX.out⟩
     ·have hltb : decide ((d : Int) < (c : Int)) = false := decide_eq_false (by omega)
      have hltn : decide (d < c) = false := decide_eq_false (by omega)
      have HNX := hid (HST.out (c + 0) 0 (d - (c + 0)) rfl (by rw [if_neg (by omega)]) (by unfold less; rw [if_neg (by omega)]))
      clear HST HST2
      rw [show ((d - (c + 0) : Nat) : Int) = (d : Int) - ((c : Int)) by omega] at HNX
      go_wp2
      go_roundg (gk - 1)
      case measure => omega
      case rel => exact ⟨i + 1, 0, _, by omega, by go_num, by go_num, HNX.out⟩
   ·have hib : decide ((i : Int) < (x.length : Int)) = false := decide_eq_false (by omega)
    have hin : decide (i < x.length) = false := decide_eq_false hix
    obtain rfl : i = x.length := by omega
    obtain ⟨cs2, hk1, hk2⟩ := HM2.out.block
    have hol := HM2.out.inv.len
    have hat : LimbsAt wr (.slice (some ⟨g, 0, none⟩) x.length cap) o := by rw [← hol]; exact LimbsAt.of_block hk1 hk2 (by omega)
    have hv := HFIN.out o c HM2.out.inv
    have HV := hid hv; clear hv
    have HAT := hid hat; clear hat hk1 hk2
    go_wp2_with fail
    refine (trim_any _ o wr HAT.out HM2.out.inv.lt (by omega)).mono ?_
    rintro e w2 ⟨v2, rfl, hn2, rfl⟩
    rw [HV.out] at hn2
    have HN2 := hid hn2; clear hn2
    go_wp2
    go_ret
    exact ⟨_, rfl, HN2.out, HM2.out.below⟩
end Go.Proofs.YtjcdeeahjkfmoaaGreatDoor.Num
namespace Go.Proofs.YtjcdeeahjkfmoaaGreatDoor.Num
open Go.RowKit Go.Lib
theorem made_begins (n : Nat) : Begins (madeCells #[.int .u32 0] n) (List.replicate n 0) := by
 intro i hi
 have hi' : i < n := by simpa using hi
 simp [madeCells, hi', Nat.mod_one]
structure TAt (B g : Nat) (w : World) (o : List Nat) (wx : World) : Prop where
 block : ∃ cs, wx.heap[g]? = some (.cells cs 182 (0, 0)) ∧ Begins cs o
 below : Below B w wx
theorem TAt.set {B g : Nat} {w wx : World} {o : List Nat} (h : TAt B g w o wx) (hB : B ≤ g) (i e : Nat) : TAt B g w (o.set i e) (wx.setCell ⟨g, i, none⟩ (.int .u32 e)) := by
 obtain ⟨cs, h1, h2⟩ := h.block
 exact ⟨⟨_, heap_setCell_at h1 i _, h2.set i _⟩, h.below.setCell (p := ⟨g, i, none⟩) hB _⟩
theorem TAt.cell {B g : Nat} {w wx : World} {o : List Nat} (h : TAt B g w o wx) (i : Nat) (hi : i < o.length) : wx.cell? ⟨g, i, none⟩ = some (.int .u32 (o.getD i 0)) ∧ wx.frozen? ⟨g, i, none⟩ = false := by
 obtain ⟨cs, h1, h2⟩ := h.block
 exact ⟨by rw [Lib.cell_of_heap h1 i, h2.at i hi], Lib.frozen_of_heap h1 i⟩
theorem times_any (v1 v2 : Value) (m n : Nat) (w : World) (h1 : NatAt w v1 m) (h2 : NatAt w v2 n) (hm : (digs LB m).length ≤ 100000000) (hn : (digs LB n).length ≤ 100000000) :
  Calls Tryz.prog 232 #[v1, v2] w fun e w' => ∃ v', e = .returned v' ∧ NatAt w' v' (m * n) ∧ Below w.heap.size w w' := by
 obtain ⟨A1, C1, rfl, hC1⟩ := h1.form
 obtain ⟨A2, C2, rfl, hC2⟩ := h2.form
 have hfin : ∀ o, TimesInv LB (digs LB m) (digs LB n) (digs LB m).length o → val LB o = m * n := by
  intro o h
  have := h.done
  rwa [val_digs LB_two, val_digs LB_two] at this
 have HFIN := hid hfin; clear hfin
 have H1 := hid h1; clear h1
 have H2 := hid h2; clear h2
 have hx32 := digs_lt LB_two m
 have hy32 := digs_lt LB_two n
 unfold NatAt at H1 H2
 generalize digs LB m = x at *
 generalize digs LB n = y at *
 have HX32 := hid hx32; clear hx32
 have HY32 := hid hy32; clear hy32
 have HC1 := hid hC1; clear hC1
 have HC2 := hid hC2; clear hC2
 obtain ⟨B, hB⟩ : ∃ B, w.heap.size = B := ⟨_, rfl⟩
 have HB := hid hB
 have hmk := run_make_row' (P := Tryz.prog) 171 182 (.int .u32 0) 4 Tryz.underlying171 (by kernel_rfl) rfl .i64 .i64 (x.length + y.length) (by omega) (by omega)
 have hcast : ((x.length + y.length : Nat) : Int) = (x.length : Int) + (y.length : Int) := by omega
 rw [hcast] at hmk
 have hta : TAt B B w (List.replicate (x.length + y.length) 0) (w.alloc (.cells (madeCells #[.int .u32 0] (x.length + y.length)) 182)) := ⟨⟨_, alloc_at _ _ _ hB, made_begins _⟩, by rw [← hB]; exact (Below.refl _ _).alloc (Nat.le_refl _) _⟩
 have HTA := hid hta; clear hta
 go_enter Tryz.func232, Tryz.ntmps232
 go_wp2
 go_loopg [20] x.length (fun gh v20 wx => ∃ (i : Nat) (o : List Nat), i + gh = x.length ∧ v20 = .int .i64 i ∧ TimesInv LB x y i o ∧ TAt B B w o wx)
 case atStart => exact ⟨0, _, by omega, by go_num, TimesInv.start LB_two x y, HTA.out⟩
 case round =>
  obtain ⟨i, o, hi, rfl, hti, hta⟩ := hrel
  have HTI := hid hti; clear hti
  have HTO := hid hta; clear hta
  by_cases hix : i < x.length
  ·have hib : decide ((i : Int) < (x.length : Int)) = true := decide_eq_true (by omega)
   have hin : decide (i < x.length) = true := decide_eq_true hix
   have HHX : LimbsAt wr (.slice A1 x.length C1) x := H1.out.below (by rw [HB.out]; exact HTO.out.below)
   obtain ⟨b1, o1, rfl, e1⟩ := HHX.cellD i hix
   obtain ⟨dx, hdx⟩ : ∃ d, x.getD i 0 = d := ⟨_, rfl⟩
   rw [hdx] at e1
   have hdx32 : dx < 1000000000 := by rw [← hdx]; exact getD_lt (by decide) HX32.out i
   have hstep : ∀ (o' : List Nat) (c : Nat), RowInv LB o y i dx y.length o' c → TimesInv LB x y (i + 1) (o'.set (i + y.length) c) := by
    intro o' c h
    exact HTI.out.step LB_two hix (by rw [hdx]; exact h)
   have HSTEP := hid hstep; clear hstep HHX
   have hol := HTI.out.len
   clear hdx
   obtain ⟨gkO, rfl⟩ : ∃ g : Nat, g = gk := ⟨_, rfl⟩
   go_wp2
   go_loopg [8, 27] y.length (fun gh v8 v27 wx => ∃ (k c : Nat) (o' : List Nat), k + gh = y.length ∧ v8 = .int .u64 c ∧ v27 = .int .i64 k ∧ RowInv LB o y i dx k o' c ∧ TAt B B w o' wx)
   case atStart => exact ⟨0, 0, o, by omega, rfl, by go_num, RowInv.start LB_two HTI.out.lt y i dx, HTO.out⟩
   case round =>
    obtain ⟨k, c, o', hk, rfl, rfl, hri, hto⟩ := hrel
    have HRI := hid hri; clear hri
    have HT2 := hid hto; clear hto
    clear e1
    have hc32 : c < 1000000000 := HRI.out.carry
    have hol2 := HRI.out.len
    by_cases hky : k < y.length
    ·have hkb : decide ((k : Int) < (y.length : Int)) = true := decide_eq_true (by omega)
     have hkn : decide (k < y.length) = true := decide_eq_true hky
     have HHY : LimbsAt wr (.slice A2 y.length C2) y := H2.out.below (by rw [HB.out]; exact HT2.out.below)
     obtain ⟨b2, o2, rfl, e2⟩ := HHY.cellD k hky
     obtain ⟨hcell, hfro⟩ := HT2.out.cell (i + k) (by omega)
     have hrs := HRI.out.step LB_two hdx32 HY32.out (by omega)
     have hset := HT2.out.set (Nat.le_refl _) (i + k)
     obtain ⟨dy, hdy⟩ : ∃ d, y.getD k 0 = d := ⟨_, rfl⟩
     obtain ⟨d0, hd0⟩ : ∃ d, o'.getD (i + k) 0 = d := ⟨_, rfl⟩
     have hdy32 : dy < 1000000000 := by rw [← hdy]; exact getD_lt (by decide) HY32.out k
     have hd032 : d0 < 1000000000 := by rw [← hd0]; exact getD_lt (by decide) HRI.out.lt (i + k)
     rw [hdy] at e2 hrs
     rw [hd0] at hcell hrs
     obtain ⟨p, hp⟩ : ∃ p, dx * dy = p := ⟨_, rfl⟩
     have hpm : p ≤ 999999998000000001 := by
      rw [← hp]
      calc dx * dy ≤ 999999999 * 999999999 := Nat.mul_le_mul (by omega) (by omega)
       _ = 999999998000000001 := by decide
     rw [hp] at hrs
     have hpi : (dx : Int) * (dy : Int) = (p : Int) := by rw [← hp]; simp
     have hs2 := hset ((p + d0 + c) % LB)
     have hLB : LB = 1000000000 := rfl
     rw [hLB] at hrs hs2
     rw [show (((p + d0 + c) % 1000000000 : Nat) : Int) = ((p : Int) + d0 + c) % 1000000000 by omega] at hs2
     have HRS := hid hrs; clear hrs
     have HS2 := hid hs2; clear hs2
     clear hset HHY hdy hd0 hp hLB
     go_wp2
     go_roundg (gk - 1)
     case measure => omega
     case rel => exact ⟨k + 1, (p + d0 + c) / 1000000000, _, by omega, by go_num, by go_num, HRS.out, HS2.out⟩
    ·have hkb : decide ((k : Int) < (y.length : Int)) = false := decide_eq_false (by omega)
     have hkn : decide (k < y.length) = false := decide_eq_false hky
     obtain rfl : k = y.length := by omega
     have htn := HSTEP.out _ _ HRI.out
     obtain ⟨hcell, hfro⟩ := HT2.out.cell (i + y.length) (by omega)
     have hs2 := HT2.out.set (Nat.le_refl _) (i + y.length) c
     have HTN := hid htn; clear htn
     have HS2 := hid hs2; clear hs2
     go_wp2
     go_roundg (gkO - 1)
     case measure => omega
     case rel => exact ⟨i + 1, _, by omega, by go_num, HTN.out, HS2.out⟩
  ·have hib : decide ((i : Int) < (x.length : Int)) = false := decide_eq_false (by omega)
   have hin : decide (i < x.length) = false := decide_eq_false hix
   obtain rfl : i = x.length := by omega
   obtain ⟨cs2, hk1, hk2⟩ := HTO.out.block
   have hol := HTI.out.len
   have hat : LimbsAt wr (.slice (some ⟨B, 0, none⟩) (x.length + y.length) (x.length + y.length)) o := by rw [← hol]; exact LimbsAt.of_block hk1 hk2 (by omega)
   have hv := HFIN.out o HTI.out
   have HV := hid hv; clear hv
   have HAT := hid hat; clear hat hk1 hk2
   go_wp2_with fail
   refine (trim_any _ o wr HAT.out HTI.out.lt (by omega)).mono ?_
   rintro e w2 ⟨v2, rfl, hn2, rfl⟩
   rw [HV.out] at hn2
   have HN2 := hid hn2; clear hn2
   go_wp2
   go_ret
   exact ⟨_, rfl, HN2.out, by rw [HB.out]; exact HTO.out.below⟩
end Go.Proofs.YtjcdeeahjkfmoaaGreatDoor.Num
namespace Go.Proofs.YtjcdeeahjkfmoaaGreatDoor.Num
open Go.RowKit Go.Lib
theorem len_mul_lt {M k : Nat} (h : k < LB) : (digs LB (M * k)).length ≤ (digs LB M).length + 1 := by
 refine digs_len_le LB_two ?_
 have h1 := digs_upper LB_two M
 have h2 : 0 < LB := by decide
 by_cases hk : k = 0
 ·subst hk; simpa using Nat.pow_pos (n := (digs LB M).length + 1) h2
 ·calc M * k < LB ^ (digs LB M).length * k := Nat.mul_lt_mul_of_pos_right h1 (Nat.pos_of_ne_zero hk)
   _ ≤ LB ^ (digs LB M).length * LB := Nat.mul_le_mul_left _ (Nat.le_of_lt h)
   _ = LB ^ ((digs LB M).length + 1) := (Nat.pow_succ _ _).symm
theorem len_lt_mul {R M : Nat} (h : R < M * LB) : (digs LB R).length ≤ (digs LB M).length + 1 := by
 refine digs_len_le LB_two ?_
 have h1 := digs_upper LB_two M
 calc R < M * LB := h
  _ ≤ LB ^ (digs LB M).length * LB := Nat.mul_le_mul_right _ (Nat.le_of_lt h1)
  _ = LB ^ ((digs LB M).length + 1) := (Nat.pow_succ _ _).symm
theorem val_one (d : Nat) : val LB [d] = d := by simp [val]
theorem digs_one_len {d : Nat} (h : d < LB) : (digs LB d).length ≤ 1 := digs_len_le LB_two (by simpa using h)
theorem digit_bounds {R M : Nat} (hM : M ≠ 0) (hR : R < M * LB) (hle : M ≤ R) : let k := (digs LB M).length - 1; let t := (digs LB M).getD k 0; let H := val LB ((digs LB R).drop k);
  0 < t ∧ H < 1000000000000000000 ∧ H / (t + 1) ≤ R / M ∧ R / M ≤ H / t ∧ k ≤ (digs LB R).length := by
 intro k t H
 obtain ⟨h1, h2, h3⟩ := lead LB_two hM
 have hne : 0 < (digs LB M).length := List.length_pos_iff.2 (fun h => hM ((digs_eq_nil LB_two).1 h))
 have hk : k ≤ (digs LB R).length := by
  have := digs_len_mono LB_two hle
  omega
 have hb := val_drop_bounds (digs_lt LB_two R) k hk
 rw [val_digs LB_two] at hb
 have hlen : ((digs LB R).drop k).length ≤ 2 := by
  have := len_lt_mul hR
  simp; omega
 have hH : H < 1000000000000000000 := by
  have h4 := val_lt (b := LB) (o := (digs LB R).drop k) (fun d hd => digs_lt LB_two R d (List.mem_of_mem_drop hd))
  have h5 : LB ^ ((digs LB R).drop k).length ≤ LB ^ 2 := Nat.pow_le_pow_right (by decide) hlen
  have h6 : LB ^ 2 = 1000000000000000000 := by decide
  omega
 exact ⟨h1, hH, digit_low (Nat.pos_of_ne_zero hM) (Nat.le_of_lt h3) hb.1, digit_top h2 h1 (Nat.pow_pos (by decide)) hb.2, hk⟩
theorem quot_lt {R M : Nat} (hM : M ≠ 0) (hR : R < M * LB) : R / M ≤ 999999999 := by
 have : R / M < LB := (Nat.div_lt_iff_lt_mul (Nat.pos_of_ne_zero hM)).2 (by rw [Nat.mul_comm]; exact hR)
 have h : LB = 1000000000 := rfl
 omega
theorem digit_any (v1 v2 : Value) (R M : Nat) (w : World) (h1 : NatAt w v1 R) (h2 : NatAt w v2 M) (hM : M ≠ 0) (hR : R < M * LB) (hl : (digs LB M).length ≤ 10000000) :
  Calls Tryz.prog 290 #[v1, v2] w fun e w' => e = .returned (.int .u32 (R / M : Nat)) ∧ Below w.heap.size w w' := by
 have hlR := len_lt_mul hR
 have hCMP := compare_any v1 v2 R M w h1 h2 (by omega) (by omega)
 obtain ⟨A1, C1, rfl, hC1⟩ := h1.form
 obtain ⟨A2, C2, rfl, hC2⟩ := h2.form
 have HCMP := hid hCMP; clear hCMP
 have H1 := hid h1; clear h1
 have H2 := hid h2; clear h2
 have hq := quot_lt hM hR
 have HBD := hid (digit_bounds hM hR)
 have hmp : 0 < (digs LB M).length := List.length_pos_iff.2 (fun h => hM ((digs_eq_nil LB_two).1 h))
 have hlm : ∀ k, k < LB → (digs LB (M * k)).length ≤ (digs LB M).length + 1 := fun k hk => len_mul_lt hk
 have HLM := hid hlm; clear hlm
 have HR := hid hR; clear hR
 have HM := hid hM; clear hM
 have HX32 := hid (digs_lt LB_two R)
 have HL1 : Hid ((digs LB R).length ≤ 1000000000) := by show (digs LB R).length ≤ 1000000000; omega
 have HL2 : Hid ((digs LB M).length ≤ 100000000) := by show (digs LB M).length ≤ 100000000; omega
 obtain ⟨q, hq0⟩ : ∃ q, R / M = q := ⟨_, rfl⟩
 have HQ := hid hq0
 rw [hq0] at hq ⊢
 clear hq0
 obtain ⟨x, hx⟩ : ∃ x, digs LB R = x := ⟨_, rfl⟩
 obtain ⟨y, hy⟩ : ∃ y, digs LB M = y := ⟨_, rfl⟩
 have HX := hid hx
 have HY := hid hy
 rw [hx] at HX32 HBD hC1 hlR HCMP HL1 H1 ⊢
 rw [hy] at HBD hC2 hl hlR hmp HLM HCMP HL2 H2 ⊢
 clear hx hy
 have HC1 := hid hC1; clear hC1
 have HC2 := hid hC2; clear hC2
 obtain ⟨kb, hkb0⟩ : ∃ kb, y.length = kb + 1 := ⟨y.length - 1, by omega⟩
 have hkb : (y.length : Int) - 1 = (kb : Int) := by omega
 have hkb2 : kb < y.length := by omega
 have HKB := hid hkb0; clear hkb0
 obtain ⟨B, hB⟩ : ∃ B, w.heap.size = B := ⟨_, rfl⟩
 have HB := hid hB
 rw [hB]
 go_enter Tryz.func290, Tryz.ntmps290
 go_wp2_with fail
 refine HCMP.out.mono ?_
 rintro e w1 ⟨c, rfl, hc, q1, rfl⟩
 by_cases hneg : c < 0
 ·have hlt := hc.1.1 hneg
  have hz : q = 0 := by rw [← HQ.out]; exact Nat.div_eq_of_lt hlt
  subst hz
  clear hlt hc
  go_wp2
  go_ret
  exact ⟨rfl, by rw [← HB.out]; exact below_drewN (Below.refl _ _) _⟩
 ·have hle : M ≤ R := by
   apply Nat.le_of_not_lt
   intro h
   exact hneg (hc.1.2 h)
  clear hc
  obtain ⟨b1, b2, b3, b4, b5⟩ := HBD.out hle
  rw [HQ.out] at b3 b4
  have hk1 : y.length - 1 = kb := by omega
  rw [hk1] at b1 b2 b3 b4 b5
  obtain ⟨t, ht⟩ : ∃ t, y.getD kb 0 = t := ⟨_, rfl⟩
  obtain ⟨H, hH⟩ : ∃ H, val LB (x.drop kb) = H := ⟨_, rfl⟩
  rw [ht] at b1 b3 b4
  rw [hH] at b2 b3 b4
  have ht32 : t < 1000000000 := by rw [← ht, ← HY.out]; exact getD_lt (by decide) (digs_lt LB_two M) kb
  have HT := hid ht; clear ht
  have HH := hid hH; clear hH
  clear hk1 hle HCMP HBD
  have hxl : x.length ≤ 1000000000 := HL1.out
  have hhi : ∀ j, kb ≤ j → j < x.length → val LB (x.drop j) ≤ H ∧ val LB (x.drop j) = x.getD j 0 + 1000000000 * val LB (x.drop (j + 1)) := by
   intro j hj hjx
   refine ⟨?_, val_drop_succ LB x j hjx⟩
   rw [← HH.out]
   have h1 := val_split LB (x.drop kb) (j - kb) (by simp; omega)
   rw [List.drop_drop, show kb + (j - kb) = j by omega] at h1
   have h2 : val LB (x.drop j) ≤ LB ^ (j - kb) * val LB (x.drop j) := Nat.le_mul_of_pos_left _ (Nat.pow_pos (by decide))
   omega
  have HHI := hid hhi; clear hhi
  go_wp2
  go_loopg [6, 7] (x.length - kb) (fun g v6 v7 wx => ∃ (j : Nat), j = g + kb ∧ j ≤ x.length ∧ v6 = .int .u64 (val LB (x.drop j)) ∧ v7 = .int .i64 ((j : Int) - 1) ∧ wx = w.drewN q1)
  case atStart =>
   exact ⟨x.length, by omega, Nat.le_refl _, by rw [List.drop_of_length_le (Nat.le_refl _)]; rfl, by go_num, rfl⟩
  case round =>
   obtain ⟨j, hj, hjx, rfl, rfl, rfl⟩ := hrel
   by_cases hjk : kb < j
   ·obtain ⟨i, rfl⟩ : ∃ i, j = i + 1 := ⟨j - 1, by omega⟩
    have hge : decide ((kb : Int) ≤ (i : Int)) = true := decide_eq_true (by omega)
    have hgn : decide (kb ≤ i) = true := decide_eq_true (by omega)
    have hij : (((i + 1 : Nat) : Int) - 1) = (i : Int) := by omega
    have HHX : LimbsAt w (.slice A1 x.length C1) x := by have h := H1.out; unfold NatAt at h; rw [HX.out] at h; exact h
    obtain ⟨b6, o6, rfl, e1⟩ := HHX.cellD i (by omega)
    obtain ⟨hle1, hval⟩ := HHI.out i (by omega) (by omega)
    obtain ⟨dx, hdx⟩ : ∃ d, x.getD i 0 = d := ⟨_, rfl⟩
    have hdx32 : dx < 1000000000 := by rw [← hdx]; exact getD_lt (by decide) HX32.out i
    rw [hdx] at e1 hval
    obtain ⟨h0, hh0⟩ : ∃ h, val LB (x.drop (i + 1)) = h := ⟨_, rfl⟩
    rw [hh0] at hval ⊢
    have hb0 : h0 * 1000000000 + dx < 1000000000000000000 := by omega
    have HV := hid hval; clear hval hle1 hdx hh0 HHX
    have HJ := hid hj; clear hj
    have HJK := hid hjk; clear hjk
    go_wp2
    go_roundg (gk - 1)
    case measure => have := HJ.out; have := HJK.out; omega
    case rel => exact ⟨i, by have := HJ.out; have := HJK.out; omega, by omega, by rw [HV.out]; go_num, by go_num, rfl⟩
   ·obtain rfl : j = kb := by omega
    have hge : decide ((j : Int) ≤ (j : Int) - 1) = false := decide_eq_false (by omega)
    have HHY : LimbsAt w (.slice A2 y.length C2) y := by have h := H2.out; unfold NatAt at h; rw [HY.out] at h; exact h
    obtain ⟨b6, o6, rfl, e1⟩ := HHY.cellD j hkb2
    rw [HT.out] at e1
    rw [HH.out]
    have htn : ¬ ((t : Int) = 0) := by omega
    have htn1 : ¬ ((t : Int) + 1 = 0) := by omega
    obtain ⟨a1, ha1⟩ : ∃ a, H / (t + 1) = a := ⟨_, rfl⟩
    obtain ⟨a2, ha2⟩ : ∃ a, H / t = a := ⟨_, rfl⟩
    have ha1i : (H : Int) / ((t : Int) + 1) = (a1 : Int) := by rw [← ha1]; simp
    have ha2i : (H : Int) / (t : Int) = (a2 : Int) := by rw [← ha2]; simp
    have ha1H : a1 ≤ H := by rw [← ha1]; exact Nat.div_le_self _ _
    have ha2H : a2 ≤ H := by rw [← ha2]; exact Nat.div_le_self _ _
    rw [ha1] at b3
    rw [ha2] at b4
    clear hj hjk HHY hjx b5 ha1 ha2
    go_wp2
    go_quiet (fail)
    go_wp2
    clear e1 htn htn1 hge
    go_loopg [8, 9] 1000000000 (fun g v8 v9 wx => ∃ lo hi : Nat, v8 = .int .u64 lo ∧ v9 = .int .u64 hi ∧ lo ≤ q ∧ q ≤ hi ∧ hi ≤ 999999999 ∧ hi ≤ lo + g ∧ Below B w wx)
    case atStart =>
     refine ⟨a1, min a2 999999999, rfl, by congr 1; omega, b3, by omega, by omega, by omega, ?_⟩
     rw [← HB.out]; exact below_drewN (below_drewN (Below.refl _ _) _) _
    case round =>
     obtain ⟨lo, hi, rfl, rfl, hlo, hhi2, hhi3, hg, hb⟩ := hrel
     have HBW := hid hb; clear hb
     by_cases hlh : lo < hi
     ·have hlb : decide ((lo : Int) < (hi : Int)) = true := decide_eq_true (by omega)
      have hln : decide (lo < hi) = true := decide_eq_true hlh
      obtain ⟨mm, hmm⟩ : ∃ mm, (lo + hi + 1) / 2 = mm := ⟨_, rfl⟩
      have hmi : ((lo : Int) + (hi : Int) + 1) / 2 = (mm : Int) := by omega
      have hm9 : mm ≤ 999999999 := by omega
      have hml : lo < mm := by omega
      have hmh : mm ≤ hi := by omega
      clear hmm
      have hmLB : mm < LB := by have h : LB = 1000000000 := rfl; omega
      have hone : LimbsAt (wr.alloc (.cells #[.int .u32 (mm : Int)] 182)) (.slice (some ⟨wr.heap.size, 0, none⟩) 1 1) [mm] := by
       refine LimbsAt.of_block (l := [mm]) (alloc_at _ _ _ rfl) ?_ (Nat.le_refl _)
       intro i hi
       obtain rfl : i = 0 := by simpa using hi
       rfl
      have HONE := hid hone; clear hone
      have hs0 : B ≤ wr.heap.size := by have := HBW.out.size; rw [HB.out] at this; exact this
      have hba : Below B w (wr.alloc (.cells #[.int .u32 (mm : Int)] 182)) := HBW.out.alloc hs0 _
      have HBA := hid hba; clear hba
      have HMLB := hid hmLB; clear hmLB
      go_wp2_with fail
      refine (trim_any _ [mm] _ HONE.out (fun d hd => by rw [List.mem_singleton.1 hd]; exact HMLB.out) (by simp)).mono ?_
      rintro e w2 ⟨v2, rfl, hn2, rfl⟩
      rw [val_one] at hn2
      have HN2 := hid hn2; clear hn2
      go_wp2_with fail
      refine (times_any _ v2 M mm _ (H2.out.below (by rw [HB.out]; exact HBA.out)) HN2.out (by rw [HY.out]; exact HL2.out) (by have := digs_one_len HMLB.out; omega)).mono ?_
      rintro e w3 ⟨v3, rfl, hn3, hb3⟩
      have HN3 := hid hn3; clear hn3
      have HB3 : Hid (Below B w w3) := HBA.out.trans (hb3.mono (by simp; omega))
      clear hb3
      go_wp2_with fail
      refine (compare_any v3 _ (M * mm) R w3 HN3.out (H1.out.below (by rw [HB.out]; exact HB3.out)) (by have := HLM.out mm HMLB.out; have := HL2.out; omega) (by rw [HX.out]; exact HL1.out)).mono ?_
      rintro e w4 ⟨cc, rfl, hcc, q4, rfl⟩
      have hqm : M * mm ≤ R ↔ mm ≤ q := by
       rw [← HQ.out, Nat.le_div_iff_mul_le (Nat.pos_of_ne_zero HM.out), Nat.mul_comm]
      by_cases hle : cc ≤ 0
      ·have hmq : mm ≤ q := by
        apply hqm.1
        apply Nat.le_of_not_lt
        intro h
        have := hcc.2.2 h
        omega
       have hcb : decide (cc ≤ 0) = true := decide_eq_true hle
       clear hcc hqm
       go_wp2
       go_roundg (gk - 1)
       case measure => omega
       case rel => exact ⟨mm, hi, by go_num, rfl, hmq, hhi2, hhi3, by omega, below_drewN HB3.out _⟩
      ·have hmq : ¬ mm ≤ q := by
        intro h
        have h2 := hqm.2 h
        have := hcc.2.1 (by omega)
        omega
       have hcb : decide (cc ≤ 0) = false := decide_eq_false hle
       clear hcc hqm
       go_wp2
       go_roundg (gk - 1)
       case measure => omega
       case rel => exact ⟨lo, mm - 1, rfl, by go_num, hlo, by omega, by omega, by omega, below_drewN HB3.out _⟩
     ·have hlb : decide ((lo : Int) < (hi : Int)) = false := decide_eq_false (by omega)
      have hln : decide (lo < hi) = false := decide_eq_false hlh
      obtain rfl : lo = q := by omega
      go_wp2
      go_ret
      exact ⟨by first | rfl | (congr 2; omega), HBW.out⟩
end Go.Proofs.YtjcdeeahjkfmoaaGreatDoor.Num
namespace Go.Proofs.YtjcdeeahjkfmoaaGreatDoor.Num
open Go.RowKit Go.Lib
theorem TAt.below' {B g : Nat} {w wx w' : World} {o : List Nat} (h : TAt B g w o wx) (hb : Below wx.heap.size wx w') (hB : B ≤ wx.heap.size) : TAt B g w o w' := by
 obtain ⟨cs, h1, h2⟩ := h.block
 exact ⟨⟨cs, (hb.block g (heap_lt h1)).trans h1, h2⟩, h.below.trans (hb.mono hB)⟩
theorem one_at (wr : World) (d : Nat) : LimbsAt (wr.alloc (.cells #[.int .u32 (d : Int)] 182)) (.slice (some ⟨wr.heap.size, 0, none⟩) 1 1) [d] := by
 refine LimbsAt.of_block (l := [d]) (alloc_at _ _ _ rfl) ?_ (Nat.le_refl _)
 intro i hi
 obtain rfl : i = 0 := by simpa using hi
 rfl
theorem limbsV_cells {w : World} {a : Addr} {C : Nat} {l : List Nat} (h : LimbsAt w (.slice (some a) l.length C) l) (o : Obj) : ∀ j u, (limbsV l)[j]? = some u → (w.alloc o).cell? (a.add j) = some u := by
 intro j u hj
 obtain ⟨hj1, hj2⟩ := List.getElem?_eq_some_iff.1 hj
 have hj3 : j < l.length := by simpa [limbsV] using hj1
 obtain ⟨b, o', ha, hcell⟩ := h.cellD j hj3
 obtain rfl := Option.some.inj ha
 rw [Addr.add_lit]
 refine Lib.cell?_alloc_some _ ?_
 rw [hcell, ← hj2]
 simp [limbsV, List.getD, hj3]
theorem made_one (wr : World) (d : Nat) : (wr.alloc (.cells #[.int .u32 (d : Int)] 182)).ownsRow wr.heap.size 182 1 (.slice (some ⟨wr.heap.size, 0, none⟩) 1 1) 1 [.int .u32 (d : Int)] :=
 ⟨rfl, .inr ⟨wr.heap.size, 1, #[.int .u32 (d : Int)], rfl, Nat.le_refl _, heap_alloc_new _ _, Nat.le_refl _, by decide, rfl, rfl⟩⟩
theorem LimbsAt.setCell {w : World} {v : Value} {l : List Nat} (h : LimbsAt w v l) (g i : Nat) (u : Value) (hne : v.ownBlock ≠ some g) : LimbsAt (w.setCell ⟨g, i, none⟩ u) v l := by
 obtain ⟨A, C, rfl, hC, hc⟩ := h
 refine ⟨A, C, rfl, hC, fun j hj => ?_⟩
 obtain ⟨b, o, rfl, hcell⟩ := hc j hj
 refine ⟨b, o, rfl, ?_⟩
 rw [World.cell?_setCell_other _ _ _ _ (by intro e; apply hne; simp only [Addr.mk.injEq] at e; simp [Value.ownBlock, e.1])]
 exact hcell
theorem divide_any (v1 vM : Value) (X M : Nat) (w : World) (h1 : NatAt w v1 X) (h2 : NatAt w vM M) (hM : M ≠ 0) (hl1 : (digs LB X).length ≤ 10000000) (hl2 : (digs LB M).length ≤ 10000000) :
  Calls Tryz.prog 220 #[v1, vM] w fun e w' => ∃ vq vr, e = .returned (.tuple #[vq, vr]) ∧ NatAt w' vq (X / M) ∧ NatAt w' vr (X % M) ∧ Below w.heap.size w w' := by
 obtain ⟨A1, C1, rfl, hC1⟩ := h1.form
 have H1 := hid h1; clear h1
 have H2 := hid h2; clear h2
 have HM := hid hM; clear hM
 have HL2 := hid hl2; clear hl2
 have HX32 := hid (digs_lt LB_two X)
 obtain ⟨x, hx⟩ : ∃ x, digs LB X = x := ⟨_, rfl⟩
 have HX := hid hx
 rw [hx] at HX32 hC1 hl1 H1 ⊢
 clear hx
 have HC1 := hid hC1; clear hC1
 have hfin : ∀ q r, DivInv LB x M 0 q r → val LB q = X / M ∧ r = X % M := by
  intro q r h
  have := h.done
  rw [← HX.out, val_digs LB_two] at this
  exact this
 have HFIN := hid hfin; clear hfin
 obtain ⟨B, hB⟩ : ∃ B, w.heap.size = B := ⟨_, rfl⟩
 have HB := hid hB
 have hmk := run_make_row' (P := Tryz.prog) 171 182 (.int .u32 0) 4 Tryz.underlying171 (by kernel_rfl) rfl .i64 .i64 x.length (by omega) (by omega)
 have hta : TAt B B w (List.replicate x.length 0) (w.alloc (.cells (madeCells #[.int .u32 0] x.length) 182)) := ⟨⟨_, alloc_at _ _ _ hB, made_begins _⟩, by rw [← hB]; exact (Below.refl _ _).alloc (Nat.le_refl _) _⟩
 have HTA := hid hta; clear hta
 go_enter Tryz.func220, Tryz.ntmps220
 go_wp2
 go_loopg [7, 8] x.length (fun g v7 v8 wx => ∃ (j : Nat) (q : List Nat) (r : Nat), j = g ∧ j ≤ x.length ∧ v8 = .int .i64 ((j : Int) - 1) ∧ DivInv LB x M j q r ∧ NatAt wx v7 r ∧ TAt B B w q wx)
 case atStart => exact ⟨x.length, _, 0, rfl, Nat.le_refl _, by go_num, DivInv.start LB_two x M, NatAt.zero _ _ _, HTA.out⟩
 case round =>
  obtain ⟨j, q, r, rfl, hj, rfl, hdi, hnr, hta⟩ := hrel
  have HDI := hid hdi; clear hdi
  have HNR := hid hnr; clear hnr
  have HTQ := hid hta; clear hta
  by_cases h0 : j = 0
  ·subst h0
   have hge : decide ((0 : Int) ≤ ((0 : Nat) : Int) - 1) = false := rfl
   obtain ⟨hv, hr⟩ := HFIN.out q r HDI.out
   obtain ⟨cs2, hk1, hk2⟩ := HTQ.out.block
   have hol := HDI.out.len
   have hat : LimbsAt wr (.slice (some ⟨B, 0, none⟩) x.length x.length) q := by rw [← hol]; exact LimbsAt.of_block hk1 hk2 (by omega)
   have HV := hid hv; clear hv
   have HR := hid hr; clear hr
   have HAT := hid hat; clear hat hk1 hk2
   go_wp2_with fail
   refine (trim_any _ q wr HAT.out HDI.out.lt (by omega)).mono ?_
   rintro e w2 ⟨vq, rfl, hnq, rfl⟩
   rw [HV.out] at hnq
   have HNQ := hid hnq; clear hnq
   go_wp2
   go_ret2
   exact ⟨_, _, rfl, HNQ.out, by rw [← HR.out]; exact HNR.out, by rw [HB.out]; exact HTQ.out.below⟩
  ·obtain ⟨i, rfl⟩ : ∃ i, j = i + 1 := ⟨j - 1, by omega⟩
   have hge : decide ((0 : Int) ≤ (i : Int)) = true := decide_eq_true (by omega)
   have hij : (((i + 1 : Nat) : Int) - 1) = (i : Int) := by omega
   have HHX : LimbsAt wr (.slice A1 x.length C1) x := by
    have h := H1.out
    unfold NatAt at h
    rw [HX.out] at h
    exact h.below (by rw [HB.out]; exact HTQ.out.below)
   obtain ⟨b1, o1, rfl, e1⟩ := HHX.cellD i (by omega)
   obtain ⟨d, hd⟩ : ∃ d, x.getD i 0 = d := ⟨_, rfl⟩
   have hd32 : d < 1000000000 := by rw [← hd]; exact getD_lt (by decide) HX32.out i
   obtain ⟨hdi2, hqlt⟩ := HDI.out.step LB_two (Nat.pos_of_ne_zero HM.out) HX32.out (by omega)
   have hrM : r < M := by rw [HDI.out.rem]; exact Nat.mod_lt _ (Nat.pos_of_ne_zero HM.out)
   rw [hd] at e1 hdi2 hqlt
   obtain ⟨R, hR⟩ : ∃ R, d + LB * r = R := ⟨_, rfl⟩
   rw [hR] at hdi2 hqlt
   have hRM : R < M * LB := by
    rw [← hR, Nat.mul_comm M]
    have h := Nat.mul_le_mul_left LB (show r + 1 ≤ M from hrM)
    rw [Nat.mul_add, Nat.mul_one] at h
    have h' : LB = 1000000000 := rfl
    omega
   have hlr : (digs LB r).length ≤ (digs LB M).length := digs_len_mono LB_two (Nat.le_of_lt hrM)
   have hvR : val LB (d :: digs LB r) = R := by rw [digs_cons LB_two _ _ (by have h' : LB = 1000000000 := rfl; omega), hR]
   have hall : ∀ z ∈ d :: digs LB r, z < LB := by
    intro z hz
    rcases List.mem_cons.1 hz with rfl | hz
    ·have h' : LB = 1000000000 := rfl
     omega
    ·exact digs_lt LB_two r z hz
   obtain ⟨qd, hqd⟩ : ∃ qd, R / M = qd := ⟨_, rfl⟩
   rw [hqd] at hdi2 hqlt
   have hmod : R - M * qd = R % M := by rw [← hqd, Nat.mod_def]
   have hmle : M * qd ≤ R := by rw [← hqd]; exact Nat.mul_div_le R M
   have hlR := len_lt_mul hRM
   have HDI2 := hid hdi2; clear hdi2
   have HQLT := hid hqlt; clear hqlt
   have HRM := hid hRM; clear hRM
   have HVR := hid hvR; clear hvR
   have HALL := hid hall; clear hall
   have HQD := hid hqd; clear hqd
   have HMOD := hid hmod; clear hmod
   have HMLE := hid hmle; clear hmle
   have hlr7 : (digs LB r).length ≤ 10000000 := Nat.le_trans hlr HL2.out
   have HLR : Hid ((digs LB R).length ≤ 100000000) := by show (digs LB R).length ≤ 100000000; have := HL2.out; omega
   have HLr := hid hlr7
   clear hlr hlR hR hd hrM HHX
   have hs0 : B ≤ wr.heap.size := by have := HTQ.out.below.size; rw [HB.out] at this; exact this
   have hqi : i < q.length := by rw [HDI.out.len]; omega
   obtain ⟨Ar, Cr, rfl, hCr⟩ := HNR.out.form
   obtain ⟨lr, hlr⟩ : ∃ lr, (digs LB r).length = lr := ⟨_, rfl⟩
   rw [hlr] at hCr hlr7 ⊢
   have HLRE := hid hlr; clear hlr
   have HCR := hid hCr; clear hCr
   obtain ⟨i0, hi0, hz0, hz1, hz2⟩ := info_u32
   have HNR2 : LimbsAt wr (.slice Ar (digs LB r).length Cr) (digs LB r) := by
    have h := HNR.out
    unfold NatAt at h
    exact h
   clear HNR
   have HNR2 := hid HNR2
   cases Ar with
   | none =>
    have hz : digs LB r = [] := by
     match hdg : digs LB r with
     | [] => rfl
     | z :: t =>
      have h := HNR2.out
      rw [hdg] at h
      obtain ⟨b, o, hA, _⟩ := h.cellD 0 (by simp)
      cases hA
    have hlz : lr = 0 := by rw [← HLRE.out, hz]; rfl
    subst hlz
    have HL2L : Hid (LimbsAt (wr.alloc (.cells #[.int .u32 (d : Int)] 182)) (.slice (some ⟨wr.heap.size, 0, none⟩) 1 1) (d :: digs LB r)) := by
     show LimbsAt _ _ _
     rw [hz]; exact one_at wr d
    have HB2 : Hid (Below wr.heap.size wr (wr.alloc (.cells #[.int .u32 (d : Int)] 182))) := (Below.refl _ _).alloc (Nat.le_refl _) _
    have HOB : Hid ((Value.slice (some ⟨wr.heap.size, 0, none⟩) 1 1).ownBlock ≠ some B) := by
     show _ ≠ _
     simp [Value.ownBlock]
     have := heap_lt (Classical.choose_spec HTQ.out.block).1
     omega
    clear hz
    go_wp2_with fail
    refine (trim_own _ (d :: digs LB r) _ HL2L.out HALL.out (by have := HLr.out; simp only [List.length_cons]; omega)).mono ?_
    rintro e w3 ⟨v3, rfl, hn3, hob3, rfl⟩
    rw [HVR.out] at hn3
    have HOB3 : Hid (v3.ownBlock ≠ some B) := by show _ ≠ _; rw [hob3]; exact HOB.out
    clear hob3 HOB
    have HN3 := hid hn3; clear hn3
    have HT3 := hid (HTQ.out.below' HB2.out hs0)
    clear HB2 HL2L
    go_wp2_with fail
    refine (digit_any v3 vM R M _ HN3.out (H2.out.below (by rw [HB.out]; exact HT3.out.below)) HM.out HRM.out HL2.out).mono ?_
    rintro e w4 ⟨rfl, hb4⟩
    rw [HQD.out]
    have hs3 := HT3.out.below.size
    rw [HB.out] at hs3
    have HN4 := hid (HN3.out.below hb4)
    have HT4 := hid (HT3.out.below' hb4 hs3)
    clear hb4 HN3 HT3
    obtain ⟨hcell, hfro⟩ := HT4.out.cell i hqi
    have HT5 := hid (HT4.out.set (Nat.le_refl _) i qd)
    have HN5 : Hid (NatAt (w4.setCell ⟨B, i, none⟩ (.int .u32 (qd : Int))) v3 R) := LimbsAt.setCell HN4.out B i _ HOB3.out
    have hs5 : B ≤ (w4.setCell ⟨B, i, none⟩ (.int .u32 (qd : Int))).heap.size := by have := HT5.out.below.size; rw [HB.out] at this; exact this
    have hone := one_at (w4.setCell ⟨B, i, none⟩ (.int .u32 (qd : Int))) qd
    rw [size_setCell] at hone
    have HONE := hid hone; clear hone
    have HBE : Hid (Below B w ((w4.setCell ⟨B, i, none⟩ (.int .u32 (qd : Int))).alloc (.cells #[.int .u32 (qd : Int)] 182))) := HT5.out.below.alloc hs5 _
    have HQL : Hid (∀ z ∈ [qd], z < LB) := by
     intro z hz
     rw [List.mem_singleton.1 hz]; exact HQLT.out
    go_wp2_with fail
    refine (trim_any _ [qd] _ HONE.out HQL.out (by simp)).mono ?_
    rintro e w6 ⟨v6, rfl, hn6, rfl⟩
    rw [val_one] at hn6
    have HN6 := hid hn6; clear hn6
    go_wp2_with fail
    refine (times_any vM v6 M qd _ (H2.out.below (by rw [HB.out]; exact HBE.out)) HN6.out (by have := HL2.out; omega) (by have := digs_one_len HQLT.out; omega)).mono ?_
    rintro e w7 ⟨v7, rfl, hn7, hb7⟩
    have HN7 := hid hn7; clear hn7
    have HB7 : Hid (Below (w4.setCell ⟨B, i, none⟩ (.int .u32 (qd : Int))).heap.size (w4.setCell ⟨B, i, none⟩ (.int .u32 (qd : Int))) w7) := ((Below.refl _ _).alloc (Nat.le_refl _) _).trans (hb7.mono (by simp))
    clear hb7
    go_wp2_with fail
    refine (minus_any v3 v7 R (M * qd) w7 (HN5.out.below HB7.out) HN7.out HMLE.out (by have := HLR.out; omega)).mono ?_
    rintro e w8 ⟨v8, rfl, hn8, hb8⟩
    rw [HMOD.out] at hn8
    have HN8 := hid hn8; clear hn8
    have HT7 := HT5.out.below' HB7.out hs5
    have hs7 : B ≤ w7.heap.size := by have := HT7.below.size; rw [HB.out] at this; exact this
    have HT8 := hid (HT7.below' hb8 hs7)
    clear hb8 HT7
    go_wp2
    go_roundg i
    case measure => omega
    case rel => exact ⟨i, _, R % M, by omega, by omega, by go_num, HDI2.out, HN8.out, HT8.out⟩
   | some ar =>
    have HOWN := hid (made_one wr d)
    have HCE := hid (limbsV_cells HNR2.out (.cells #[.int .u32 (d : Int)] 182))
    have HLEN : Hid ((limbsV (digs LB r)).length = lr * 1) := by show _ = _; rw [limbsV_len, HLRE.out]; omega
    go_wp2_with (at_builtin; refine wpList_append_own _ rfl _ _ 171 rfl wr.heap.size 182 i0 (.int .u32 0) 1 4 Tryz.underlying171 hi0 hz0 hz1 hz2 rfl (by decide) _ 1 _ rfl HOWN.out ar lr Cr (limbsV (digs LB r)) rfl HLEN.out HCE.out (limbsV_one _) (by unfold maxLen; omega) (by omega) (by simp) ?_)
    intro v2 w2 hown2 hgrow2 _
    have HL2L : Hid (LimbsAt w2 v2 (d :: digs LB r)) := by
     show LimbsAt _ _ _
     refine Begins.of_owns (B := wr.heap.size) (n := 1 + lr) (e := 182) ?_
     simpa [limbsV] using hown2
    have HB2 : Hid (Below wr.heap.size wr w2) := ((Below.refl _ wr).alloc (Nat.le_refl _) _).grown hgrow2 (by simp) (by intro k hk; simp [Value.ownBlock] at hk; omega)
    have HOB : Hid (v2.ownBlock ≠ some B) := by
     show _ ≠ _
     intro e
     have := (hown2.lt B e).1
     have := heap_lt (Classical.choose_spec HTQ.out.block).1
     omega
    clear hown2 hgrow2
    go_wp2_with fail
    refine (trim_own v2 (d :: digs LB r) w2 HL2L.out HALL.out (by have := HLr.out; simp only [List.length_cons]; omega)).mono ?_
    rintro e w3 ⟨v3, rfl, hn3, hob3, rfl⟩
    rw [HVR.out] at hn3
    have HOB3 : Hid (v3.ownBlock ≠ some B) := by show _ ≠ _; rw [hob3]; exact HOB.out
    clear hob3 HOB
    have HN3 := hid hn3; clear hn3
    have HT3 := hid (HTQ.out.below' HB2.out hs0)
    clear HB2 HL2L
    go_wp2_with fail
    refine (digit_any v3 vM R M _ HN3.out (H2.out.below (by rw [HB.out]; exact HT3.out.below)) HM.out HRM.out HL2.out).mono ?_
    rintro e w4 ⟨rfl, hb4⟩
    rw [HQD.out]
    have hs3 := HT3.out.below.size
    rw [HB.out] at hs3
    have HN4 := hid (HN3.out.below hb4)
    have HT4 := hid (HT3.out.below' hb4 hs3)
    clear hb4 HN3 HT3
    obtain ⟨hcell, hfro⟩ := HT4.out.cell i hqi
    have HT5 := hid (HT4.out.set (Nat.le_refl _) i qd)
    have HN5 : Hid (NatAt (w4.setCell ⟨B, i, none⟩ (.int .u32 (qd : Int))) v3 R) := LimbsAt.setCell HN4.out B i _ HOB3.out
    have hs5 : B ≤ (w4.setCell ⟨B, i, none⟩ (.int .u32 (qd : Int))).heap.size := by have := HT5.out.below.size; rw [HB.out] at this; exact this
    have hone := one_at (w4.setCell ⟨B, i, none⟩ (.int .u32 (qd : Int))) qd
    rw [size_setCell] at hone
    have HONE := hid hone; clear hone
    have HBE : Hid (Below B w ((w4.setCell ⟨B, i, none⟩ (.int .u32 (qd : Int))).alloc (.cells #[.int .u32 (qd : Int)] 182))) := HT5.out.below.alloc hs5 _
    have HQL : Hid (∀ z ∈ [qd], z < LB) := by
     intro z hz
     rw [List.mem_singleton.1 hz]; exact HQLT.out
    go_wp2_with fail
    refine (trim_any _ [qd] _ HONE.out HQL.out (by simp)).mono ?_
    rintro e w6 ⟨v6, rfl, hn6, rfl⟩
    rw [val_one] at hn6
    have HN6 := hid hn6; clear hn6
    go_wp2_with fail
    refine (times_any vM v6 M qd _ (H2.out.below (by rw [HB.out]; exact HBE.out)) HN6.out (by have := HL2.out; omega) (by have := digs_one_len HQLT.out; omega)).mono ?_
    rintro e w7 ⟨v7, rfl, hn7, hb7⟩
    have HN7 := hid hn7; clear hn7
    have HB7 : Hid (Below (w4.setCell ⟨B, i, none⟩ (.int .u32 (qd : Int))).heap.size (w4.setCell ⟨B, i, none⟩ (.int .u32 (qd : Int))) w7) := ((Below.refl _ _).alloc (Nat.le_refl _) _).trans (hb7.mono (by simp))
    clear hb7
    go_wp2_with fail
    refine (minus_any v3 v7 R (M * qd) w7 (HN5.out.below HB7.out) HN7.out HMLE.out (by have := HLR.out; omega)).mono ?_
    rintro e w8 ⟨v8, rfl, hn8, hb8⟩
    rw [HMOD.out] at hn8
    have HN8 := hid hn8; clear hn8
    have HT7 := HT5.out.below' HB7.out hs5
    have hs7 : B ≤ w7.heap.size := by have := HT7.below.size; rw [HB.out] at this; exact this
    have HT8 := hid (HT7.below' hb8 hs7)
    clear hb8 HT7
    go_wp2
    go_roundg i
    case measure => omega
    case rel => exact ⟨i, _, R % M, by omega, by omega, by go_num, HDI2.out, HN8.out, HT8.out⟩
end Go.Proofs.YtjcdeeahjkfmoaaGreatDoor.Num
namespace Go.Proofs.YtjcdeeahjkfmoaaGreatDoor.Num
open Go.RowKit Go.Lib
theorem common_any (v1 v2 : Value) (m n : Nat) (w : World) (h1 : NatAt w v1 m) (h2 : NatAt w v2 n) (hl1 : (digs LB m).length ≤ 10000000) (hl2 : (digs LB n).length ≤ 10000000) :
  Calls Tryz.prog 287 #[v1, v2] w fun e w' => ∃ v', e = .returned v' ∧ NatAt w' v' (m.gcd n) ∧ Below w.heap.size w w' := by
 have H1 := hid h1; clear h1
 have H2 := hid h2; clear h2
 have HL1 := hid hl1; clear hl1
 have HL2 := hid hl2; clear hl2
 obtain ⟨B, hB⟩ : ∃ B, w.heap.size = B := ⟨_, rfl⟩
 have HB := hid hB
 obtain ⟨G, hG⟩ : ∃ G, m.gcd n = G := ⟨_, rfl⟩
 have HG := hid hG
 rw [hG]
 clear hG
 go_enter Tryz.func287, Tryz.ntmps287
 go_wp2_with fail
 go_loopg [0, 1] n (fun g v0 v1 wx => ∃ a b : Nat, b ≤ g ∧ NatAt wx v0 a ∧ NatAt wx v1 b ∧ a.gcd b = G ∧ (digs LB a).length ≤ 10000000 ∧ (digs LB b).length ≤ 10000000 ∧ Below B w wx ∧ B ≤ wx.heap.size)
 case atStart => exact ⟨m, n, Nat.le_refl _, H1.out, H2.out, HG.out, HL1.out, HL2.out, Below.refl _ _, by omega⟩
 case round =>
  obtain ⟨a, b, hb, ha1, hb1, hgcd, hla, hlb, hbel, hs⟩ := hrel
  have HA := hid ha1; clear ha1
  have HBB := hid hb1; clear hb1
  have HGC := hid hgcd; clear hgcd
  have HLA := hid hla; clear hla
  have HLB := hid hlb; clear hlb
  have HBL := hid hbel; clear hbel
  go_wp2_with fail
  refine (zero_any _ b wr HBB.out).mono ?_
  rintro e w2 ⟨rfl, rfl⟩
  by_cases h0 : b = 0
  ·subst h0
   have hz : decide ((0 : Nat) = 0) = true := rfl
   have hg := HGC.out
   rw [Nat.gcd_zero_right] at hg
   subst hg
   go_wp2
   go_ret
   exact ⟨_, rfl, HA.out, by rw [HB.out]; exact HBL.out⟩
  ·have hz : decide (b = 0) = false := decide_eq_false h0
   have hmod : a % b < b := Nat.mod_lt _ (Nat.pos_of_ne_zero h0)
   have hg2 : b.gcd (a % b) = G := by rw [← HGC.out, Nat.gcd_comm a b, Nat.gcd_rec b a, Nat.gcd_comm]
   have hlm : (digs LB (a % b)).length ≤ 10000000 := Nat.le_trans (digs_len_mono LB_two (Nat.le_of_lt hmod)) HLB.out
   have HG2 := hid hg2; clear hg2
   have HLM := hid hlm; clear hlm
   have HM := hid hmod; clear hmod
   go_wp2_with fail
   refine (divide_any _ _ a b w2 HA.out HBB.out h0 HLA.out HLB.out).mono ?_
   rintro e w3 ⟨vq, vr, rfl, hq, hr, hb3⟩
   have HR := hid hr; clear hr hq
   have HB3 := hid hb3; clear hb3
   go_wp2
   go_roundg (gk - 1)
   case measure => have := HM.out; omega
   case rel => exact ⟨b, a % b, by have := HM.out; omega, HBB.out.below HB3.out, HR.out, HG2.out, HLB.out, HLM.out, HBL.out.trans (HB3.out.mono hs), Nat.le_trans hs HB3.out.size⟩
end Go.Proofs.YtjcdeeahjkfmoaaGreatDoor.Num
namespace Go.Proofs.YtjcdeeahjkfmoaaGreatDoor.Num
open Go.RowKit Go.Lib
theorem parse_any (s : ByteArray) (w : World) (hd : AllDigits s.data.toList) (hs : s.size ≤ 90000000) :
  Calls Tryz.prog 286 #[.string s] w fun e w' => ∃ v', e = .returned v' ∧ NatAt w' v' (decVal s.data.toList) ∧ Below w.heap.size w w' := by
 obtain ⟨l, hl⟩ : ∃ l, s.data.toList = l := ⟨_, rfl⟩
 have hsz : s.size = l.length := by rw [← hl]; simp
 have HS := hid hl
 rw [hl] at hd ⊢
 have HD := hid hd; clear hd hl
 obtain ⟨B, hB⟩ : ∃ B, w.heap.size = B := ⟨_, rfl⟩
 have HB := hid hB
 obtain ⟨i0, hi0, hz0, hz1, hz2⟩ := info_u32
 have hl9 : l.length ≤ 90000000 := by omega
 go_enter Tryz.func286, Tryz.ntmps286
 go_wp2
 go_loopg [0, 3] l.length (fun g v0 v3 wx => ∃ (k : Nat) (t : ByteArray) (o : List Nat), k = g ∧ k ≤ l.length ∧ v0 = .string t ∧ t.data.toList = l.take k ∧ t.size = k ∧ ParseInv LB l k o ∧ (k + 9 * o.length ≤ l.length + 9 ∧ (k ≠ 0 → k + 9 * o.length = l.length)) ∧ OwnL B v3 o wx ∧ Below B w wx ∧ B ≤ wx.heap.size)
 case atStart => exact ⟨l.length, s, [], rfl, Nat.le_refl _, rfl, by rw [HS.out, List.take_length], hsz, ParseInv.start _ _, ⟨by simp, fun _ => by simp⟩, World.ownsRow_nil _ _ _ _, Below.refl _ _, by omega⟩
 case round =>
  obtain ⟨k, t, o, rfl, hk, rfl, htl, hts, hpi, ⟨hol, hol2⟩, hown, hb, hs0⟩ := hrel
  have HTL := hid htl; clear htl
  have HPI := hid hpi; clear hpi
  have HOW := hid hown; clear hown
  have HBL := hid hb; clear hb
  by_cases h0 : k = 0
  ·subst h0
   have hz : decide ((0 : Int) < ((0 : Nat) : Int)) = false := rfl
   have hv := HPI.out.done
   have HV := hid hv; clear hv
   go_wp2_with fail
   refine (trim_any _ o wr HOW.out.at HPI.out.lt (by omega)).mono ?_
   rintro e w2 ⟨v2, rfl, hn2, rfl⟩
   rw [HV.out] at hn2
   have HN2 := hid hn2; clear hn2
   go_wp2
   go_ret
   exact ⟨_, rfl, HN2.out, by rw [HB.out]; exact HBL.out⟩
  ·have hkb : decide ((0 : Int) < (k : Int)) = true := decide_eq_true (by omega)
   have hkn : decide (0 < k) = true := decide_eq_true (by omega)
   obtain ⟨j, hj⟩ : ∃ j, k - 9 = j := ⟨_, rfl⟩
   have hji : max (0 : Int) ((k : Int) - 9) = (j : Int) := by omega
   have hjk : j < k := by omega
   have hst := HPI.out.step LB_ten HD.out hjk (by omega) (by omega)
   have hpiece : (t.extract j k).data.toList = (l.take k).drop j := by
    rw [Lib.extract_data, HTL.out]
    rw [List.take_of_length_le]
    simp; omega
   have hpl : (t.extract j k).size = k - j := by rw [ByteArray.size_extract, hts]; omega
   have hhead : (t.extract 0 j).data.toList = l.take j := by
    rw [Lib.extract_data, HTL.out]
    simp [List.take_take]; omega
   have hhl : (t.extract 0 j).size = j := by rw [ByteArray.size_extract, hts]; omega
   obtain ⟨d, hdv⟩ : ∃ d, decVal ((l.take k).drop j) = d := ⟨_, rfl⟩
   rw [hdv] at hst
   have hd9 : d < 1000000000 := hst.lt d (by simp)
   have hat : Lib.atoi (t.extract j k).data.toList = some (d : Int) := by
    rw [hpiece, atoi_val _ (fun c hc => HD.out c (List.mem_of_mem_take (List.mem_of_mem_drop hc))) (by
     intro e
     have := congrArg List.length e
     simp at this; omega), hdv]
   have HST := hid hst; clear hst
   have HHEAD := hid hhead; clear hhead
   have HAT := hid hat; clear hat
   have hko := hol2 h0
   clear hdv hpiece hol hol2 h0
   obtain ⟨av, cv, rfl⟩ := owns_form HOW.out
   go_wp2_with fail
   refine (Tryz.strconv_Atoi (t.extract j k) d (by rw [hpl]; omega) HAT.out wr).mono ?_
   rintro e w2 ⟨rfl, t2, rfl⟩
   have hb2 : Below wr.heap.size wr (Lib.bytesWorld wr 5 t2) := Lib.bytesWorld_below _ _ _
   obtain ⟨w2, hw2⟩ : ∃ w2, Lib.bytesWorld wr 5 t2 = w2 := ⟨_, rfl⟩
   rw [hw2] at hb2 ⊢
   clear hw2
   have HOW2 : Hid (OwnL B (.slice av o.length cv) o w2) := (KeepKind.below hb2).owns HOW.out
   have HBL2 : Hid (Below B w w2) := HBL.out.trans (hb2.mono hs0)
   have hs2 : B ≤ w2.heap.size := Nat.le_trans hs0 hb2.size
   clear hb2 HOW HBL
   have hOWA := hid (HOW2.out.alloc (.cells #[.int .u32 (d : Int)] 182))
   have hlen3 : o.length + 1 ≤ 1000000003 := by omega
   go_wp2_with (at_builtin; refine wpList_append_own _ rfl _ _ 171 rfl B 182 i0 (.int .u32 0) 1 4 Tryz.underlying171 hi0 hz0 hz1 hz2 rfl (by decide) (.slice av o.length cv) o.length (limbsV o) rfl hOWA.out ⟨w2.heap.size, 0, none⟩ 1 1 [.int .u32 (d : Int)] rfl rfl (cell_one_new _ _ _) (by simp [Value.oneCell']) (by unfold maxLen; omega) (by omega) (by simp; omega) ?_)
   intro v5 w5 hown5 hgrow5 _
   have HN5 : Hid (OwnL B v5 (o ++ [d]) w5) := OwnL.snoc hown5
   have HB5 : Hid (Below B w w5) := (HBL2.out.alloc hs2 _).grown hgrow5 (by simp; omega) (fun k e => (HOW2.out.lt k e).1)
   have hs5 : B ≤ w5.heap.size := Nat.le_trans hs2 (Nat.le_trans (by simp) hgrow5.size)
   clear hown5 hgrow5
   go_wp2
   go_roundg j
   case measure => omega
   case rel => exact ⟨j, _, o ++ [d], rfl, by omega, rfl, HHEAD.out, hhl, HST.out, ⟨by simp; omega, fun h => by simp; omega⟩, HN5.out, HB5.out, hs5⟩
end Go.Proofs.YtjcdeeahjkfmoaaGreatDoor.Num
namespace Go.Proofs.YtjcdeeahjkfmoaaGreatDoor.Num
open Go.RowKit Go.Lib
end Go.Proofs.YtjcdeeahjkfmoaaGreatDoor.Num
namespace Go.Proofs.YtjcdeeahjkfmoaaGreatDoor.Num
open Go.RowKit Go.Lib Go.Shelf
attribute [local go_sem] Oper.semAt_some
def upto {α : Type} (f : Nat → α) (k : Nat) : List α := (List.range k).map f
theorem upto_succ {α : Type} (f : Nat → α) (k : Nat) : upto f (k + 1) = upto f k ++ [f k] := by simp [upto, List.range_succ]
theorem upto_length {α : Type} (f : Nat → α) (k : Nat) : (upto f k).length = k := by simp [upto]
def KBack (n₀ : Nat) (W W' : World) : Prop := Below n₀ W W' ∧ KeepKind 171 W W'
theorem KBack.refl (n₀ : Nat) (W : World) : KBack n₀ W W := ⟨Below.refl _ _, KeepKind.refl _ _⟩
theorem KBack.trans {n₀ : Nat} {A B C : World} (h : KBack n₀ A B) (k : KBack n₀ B C) : KBack n₀ A C := ⟨h.1.trans k.1, h.2.trans k.2⟩
theorem KBack.put {n₀ : Nat} {w : World} (hn : n₀ ≤ w.heap.size) (W : World) (l : Nat) (o o' : Obj) (hl : w.heap.size ≤ l) (h : W.heap[l]? = some o) (hc : o.isCells = false) (hw : o.isWalk = false) : KBack n₀ W (W.putObj l o') := by
 refine ⟨belowK_b hn W l o o' hl h hc hw, fun k c fz hk => ?_⟩
 rw [World.putObj_heap_other (fun e => ?_)]
 ·exact hk
 ·subst e
  rw [hk] at h
  obtain rfl := Option.some.inj h
  simp [Obj.isCells] at hc
abbrev Limb := { p : Nat × Nat // p.1 < 1000000000 ∧ p.2 < 1000000000 }
def LimbsOk (zs : List Nat) : Prop := (∀ d ∈ zs, d < LB) ∧ zs.length ≤ 100000000
def backAt (zs : List Nat) (h : LimbsOk zs) (k : Nat) : Limb := ⟨(zs.length - 1 - k, zs[zs.length - 1 - k]?.getD 0), by
 refine ⟨?_, ?_⟩
 ·have := h.2
  show zs.length - 1 - k < _
  omega
 ·exact getD_lt (b := LB) (by decide) h.1 _⟩
theorem backward1_in (F : Fence) (n : Nat) (hF : F.fn 367) (hro : F.round = none) (hn : 1 ≤ n) (l Bs n₀ b off len cap : Nat) (zs : List Nat) (H : LimbsOk zs) (hlen : zs.length = len) (hb : b < n₀) (J Jx : List Limb → World → Prop)
  (hY : ∀ pre x W, J pre W → pre.length < len → YieldAt F (n - 1) Tryz.prog l #[.int .i64 (x.1.1 : Int), .int .u32 (x.1.2 : Int)] W fun e W' =>
   (e = .returned (.bool true) ∧ J (pre ++ [x]) W' ∧ KBack n₀ W W') ∨ (e = .returned (.bool false) ∧ Jx (pre ++ [x]) W'))
  (W : World) (hBs : W.heap[Bs]? = some (.cells #[.slice (some ⟨b, off, none⟩) len cap] 171 (0, 0))) (hc : ∀ j, j < len → W.cell? ⟨b, off + j, none⟩ = some (.int .u32 (zs[j]?.getD 0 : Nat))) (h0 : J [] W) :
  CallsIn F n Tryz.prog 367 #[.func (.yield l) #[] #[], .pointer (some ⟨Bs, 0, none⟩)] W fun e W' => (∃ v, e = .returned v) ∧
   ((∃ ys, ys = upto (backAt zs H) len ∧ J ys W') ∨ (∃ pre, (∃ k, k ≤ len ∧ pre = upto (backAt zs H) k) ∧ Jx pre W')) := by
 have hreach : len ≤ 100000000 := by rw [← hlen]; exact H.2
 refine callsIn_of_wp Tryz.func367 rfl hF ?_ hro
 simp only [Tryz.ntmps367, List.size_toArray, List.length_cons, List.length_nil, Nat.reduceAdd, Nat.reduceSub, Array.replicate_succ, Array.replicate_zero, List.push_toArray, List.append_toArray, List.nil_append, List.cons_append]
 have hbs0 : W.cell? ⟨Bs, 0, none⟩ = some (.slice (some ⟨b, off, none⟩) len cap) := by rw [Lib.cell_of_heap hBs 0]; rfl
 gi_wp2
 gi_loopw [3] (fun i wr => ∃ k m : Nat, m + k = len ∧ i = .int .i64 ((m : Int) - 1) ∧ J (upto (backAt zs H) k) wr ∧ KBack n₀ W wr)
  (fun i _ => (RowKit.intOf i + 1).toNat)
 case atStart => exact ⟨0, len, by omega, rfl, h0, KBack.refl _ _⟩
 case round =>
  obtain ⟨k, m, hkm, rfl, hJs, hnx⟩ := hrel
  have hbs : wr.cell? ⟨Bs, 0, none⟩ = some (.slice (some ⟨b, off, none⟩) len cap) := by rw [Lib.cell_of_heap (hnx.2 _ _ _ hBs) 0]; rfl
  by_cases hm : m = 0
  ·subst hm
   obtain rfl : k = len := by omega
   gi_wp2
   go_end0
   exact ⟨⟨_, rfl⟩, .inl ⟨_, rfl, hJs⟩⟩
  ·obtain ⟨i, rfl⟩ : ∃ i, m = i + 1 := ⟨m - 1, by omega⟩
   have hij : (((i + 1 : Nat) : Int) - 1) = (i : Int) := by omega
   have hil : i < len := by omega
   obtain ⟨y, hat⟩ : ∃ y, backAt zs H k = y := ⟨_, rfl⟩
   have hy1 : y.1 = (i, zs[i]?.getD 0) := by rw [← hat]; unfold backAt; simp only [hlen, show len - 1 - k = i by omega]
   obtain ⟨fn, tmps, assign, body, hy, hR⟩ := hY _ y wr hJs (by rw [upto_length]; omega)
   rw [hy1] at hy
   dsimp only at hy
   have hcx : wr.cell? ⟨b, off + i, none⟩ = some (.int .u32 (zs[i]?.getD 0 : Nat)) := (hnx.1.cell (p := ⟨b, off + i, none⟩) hb).trans (hc i hil)
   obtain ⟨d, hd⟩ : ∃ d, zs[i]?.getD 0 = d := ⟨_, rfl⟩
   rw [hd] at hy hcx
   clear hd
   have HN := hid hkm; clear hkm
   gi_wp2
   refine hR.mono ?_
   rintro e W3 (⟨rfl, hJ3, hk3⟩ | ⟨rfl, hJx3⟩)
   ·gi_wp2
    go_roundw
    case rel => exact ⟨k + 1, i, by have := HN.out; omega, by simp, by rw [upto_succ, hat]; exact hJ3, hnx.trans hk3⟩
    case measure => simp [RowKit.intOf]
   ·gi_wp2
    refine bodyPost_ret (results_none rfl _ _ _) rfl ?_
    exact ⟨⟨_, rfl⟩, .inr ⟨_, ⟨k + 1, by have := HN.out; omega, by rw [upto_succ, hat]⟩, hJx3⟩⟩
theorem backward_in (F : Fence) (n : Nat) (hF : F.fn 334) (hro : F.round = none) (a : Option Addr) (len cap : Nat) (w : World) :
  CallsIn F n Tryz.prog 334 #[.slice a len cap] w fun e w' => e = .returned (.func (.func 367) #[] #[.pointer (some ⟨w.heap.size, 0, none⟩)]) ∧ w' = w.alloc (.cells #[.slice a len cap] 171) := by
 refine callsIn_of_wp Tryz.func334 rfl hF ?_ hro
 simp only [Tryz.ntmps334, List.size_toArray, List.length_cons, List.length_nil, Nat.reduceAdd, Nat.reduceSub, Array.replicate_succ, Array.replicate_zero, List.push_toArray, List.append_toArray, List.nil_append, List.cons_append]
 gi_wp2
 go_ret
 exact ⟨rfl, rfl⟩
def LimbsIn (n₀ : Nat) (W : World) (v : Value) (zs : List Nat) : Prop := ∃ b off cap, v = .slice (some ⟨b, off, none⟩) zs.length cap ∧ b < n₀ ∧ ∀ j, j < zs.length → W.cell? ⟨b, off + j, none⟩ = some (.int .u32 (zs[j]?.getD 0 : Nat))
theorem LimbsIn.below {n₀ : Nat} {A B : World} (h : Below n₀ A B) {v : Value} {zs : List Nat} (hl : LimbsIn n₀ A v zs) : LimbsIn n₀ B v zs :=
 let ⟨b, off, cap, e, hb, hc⟩ := hl
 ⟨b, off, cap, e, hb, fun j hj => (h.cell (p := ⟨b, off + j, none⟩) hb).trans (hc j hj)⟩
theorem LimbsAt.into {w : World} {v : Value} {l : List Nat} (h : LimbsAt w v l) (hne : l ≠ []) : LimbsIn w.heap.size w v l := by
 obtain ⟨A, C, rfl, hC, hc⟩ := h
 obtain ⟨b, o, rfl, h0⟩ := hc 0 (List.length_pos_iff.2 hne)
 refine ⟨b, o, C, rfl, cell_lt h0, fun j hj => ?_⟩
 obtain ⟨b', o', hA, hcell⟩ := hc j hj
 simp only [Option.some.injEq, Addr.mk.injEq, and_true] at hA
 obtain ⟨rfl, rfl⟩ := hA
 rw [hcell]; simp [hj]
theorem backward_stops (F : Fence) (n : Nat) (hF : F.fn 367) (hro : F.round = none) (hn : 1 ≤ n) (Bs n₀ : Nat) (sv : Value) (zs : List Nat) (H : LimbsOk zs) (w : World) (hn₀ : n₀ ≤ w.heap.size)
  (hc : w.heap[Bs]? = some (.cells #[sv] 171 (0, 0))) (hI : LimbsIn n₀ w sv zs) :
  SeqStopsK F n Tryz.prog 367 #[.pointer (some ⟨Bs, 0, none⟩)] (fun x : Limb => #[Value.int .i64 (x.1.1 : Int), Value.int .u32 (x.1.2 : Int)]) (KBack n₀) (fun ys => ys = upto (backAt zs H) zs.length)
   (fun pre => ∃ k, k ≤ zs.length ∧ pre = upto (backAt zs H) k) zs.length w := fun l J Jx W hW _ _ hY h0 => by
 have hc' := (hW.block Bs (heap_lt hc)).trans hc
 obtain ⟨b, off, cap, rfl, hb, hcs⟩ := hI.below (hW.mono hn₀)
 exact backward1_in F n hF hro hn l Bs n₀ b off zs.length cap zs H rfl hb J Jx hY W hc' hcs h0
end Go.Proofs.YtjcdeeahjkfmoaaGreatDoor.Num
namespace Go.Proofs.YtjcdeeahjkfmoaaGreatDoor.Num
open Go.RowKit Go.Lib
def txt (x : List Nat) (k : Nat) : List UInt8 := if k = 0 then [] else Lib.decDigits (val LB (x.drop (x.length - k)))
def fills (L i d : Nat) : List UInt8 := if i < L - 1 then List.replicate (9 - (Lib.decDigits d).length) 48 else []
theorem val_drop_pos {n : Nat} {j : Nat} (hj : j < (digs LB n).length) : 0 < val LB ((digs LB n).drop j) := by
 have hne : digs LB n ≠ [] := by intro h; rw [h] at hj; simp at hj
 have h1 := digs_ge LB_two n hne
 have h2 := val_drop_bounds (digs_lt LB_two n) j (Nat.le_of_lt hj)
 rw [val_digs LB_two] at h2
 apply Nat.pos_of_ne_zero
 intro h0
 rw [h0] at h2
 have h3 : LB ^ j ≤ LB ^ ((digs LB n).length - 1) := Nat.pow_le_pow_right (by decide) (by omega)
 omega
theorem txt_step {n : Nat} {x : List Nat} (hx : digs LB n = x) {k i d : Nat} (hk : k < x.length) (hi : i = x.length - 1 - k) (hd : d = x[i]?.getD 0) : txt x (k + 1) = txt x k ++ fills x.length i d ++ Lib.decDigits d := by
 have hil : i < x.length := by omega
 have hd9 : d < 10 ^ 9 := by
  rw [LB_ten, hd, ← hx]
  have := digs_lt LB_two n ((digs LB n)[i]'(by rw [hx]; exact hil)) (List.getElem_mem _)
  simpa [show i < (digs LB n).length by rw [hx]; exact hil] using this
 have hv := val_drop_succ LB x i hil
 have hde : x.getD i 0 = d := by rw [hd]; rfl
 rw [hde] at hv
 have e1 : x.length - (k + 1) = i := by omega
 have e2 : x.length - k = i + 1 := by omega
 unfold txt
 rw [if_neg (by omega), e1, hv, e2]
 by_cases h0 : k = 0
 ·have hlast : i + 1 = x.length := by omega
  rw [if_pos h0, hlast, List.drop_length]
  have hf : fills x.length i d = [] := by unfold fills; rw [if_neg (by omega)]
  rw [hf]
  simp [val]
 ·have hp : 0 < val LB (x.drop (i + 1)) := by rw [← hx]; exact val_drop_pos (by rw [hx]; omega)
  have hf : fills x.length i d = List.replicate (9 - (Lib.decDigits d).length) 48 := by unfold fills; rw [if_pos (by omega)]
  rw [if_neg h0, hf, Nat.add_comm, ← LB_ten, decDigits_pad _ (by rw [LB_ten]; exact hp) 9 d hd9, pad_eq 8 d hd9, List.append_assoc]
theorem txt_done {n : Nat} {x : List Nat} (hx : digs LB n = x) (hn : n ≠ 0) : txt x x.length = Lib.decDigits n := by
 have hl : x.length ≠ 0 := by
  intro h
  apply hn
  rw [← digs_eq_nil LB_two, hx]
  exact List.eq_nil_of_length_eq_zero h
 unfold txt
 rw [if_neg hl, Nat.sub_self, List.drop_zero, ← hx, val_digs LB_two]
theorem dec_len9 {d : Nat} (h : d < 1000000000) : 1 ≤ (Lib.decDigits d).length ∧ (Lib.decDigits d).length ≤ 9 :=
 ⟨List.length_pos_iff.2 (decDigits_ne d), decDigits_len_le (k := 8) (by omega)⟩
def pieces (L : Nat) (pre : List Limb) : List UInt8 := pre.flatMap fun p => fills L p.1.1 p.1.2 ++ Lib.decDigits p.1.2
theorem pieces_snoc (L : Nat) (pre : List Limb) (y : Limb) : pieces L (pre ++ [y]) = pieces L pre ++ fills L y.1.1 y.1.2 ++ Lib.decDigits y.1.2 := by simp [pieces]
theorem pieces_upto {n : Nat} {x : List Nat} (hx : digs LB n = x) (H : LimbsOk x) : ∀ k, k ≤ x.length → pieces x.length (upto (backAt x H) k) = txt x k
 | 0, _ => by simp [pieces, upto, txt]
 | k + 1, hk => by
  rw [upto_succ, pieces_snoc, pieces_upto hx H k (by omega)]
  exact (txt_step hx (k := k) (by omega) rfl rfl).symm
theorem pieces_len (L : Nat) : ∀ pre : List Limb, (pieces L pre).length ≤ 9 * pre.length
 | [] => by simp [pieces]
 | y :: r => by
  have h1 := pieces_len L r
  have h2 := dec_len9 y.2.2
  have h3 : (fills L y.1.1 y.1.2 ++ Lib.decDigits y.1.2).length ≤ 9 := by
   unfold fills
   rw [List.length_append]
   split
   ·rw [List.length_replicate]; omega
   ·simp; omega
  have h4 : (pieces L (y :: r)).length = (fills L y.1.1 y.1.2 ++ Lib.decDigits y.1.2).length + (pieces L r).length := by simp [pieces, Nat.add_assoc]
  rw [h4, List.length_cons]; omega
end Go.Proofs.YtjcdeeahjkfmoaaGreatDoor.Num
namespace Go.Proofs
open Go.Shelf
end Go.Proofs
namespace Go.Proofs
open Go.Shelf
def Tryz.lays166_ren : Go.Shelf.Ren := ⟨fun | 166 => 250 | 240 => 309 | 276 => 350 | n => n, fun | 0 => 0 | 3 => 3 | 4 => 4 | 5 => 5 | 9 => 9 | 20 => 20 | 37 => 125 | 70 => 201 | 72 => 203 | 75 => 190 | 80 => 86 | 164 => 275 | n => n, fun | n => n⟩
theorem Tryz.lays166 : Go.Proofs.Lays.n166 Tryz.prog Tryz.lays166_ren := {
 mixed := by kernel_rfl
 f166 := Tryz.func250.trans (congrArg some (by kernel_rfl))
 f240 := Tryz.func309.trans (congrArg some (by kernel_rfl))
 f276 := Tryz.func350.trans (congrArg some (by kernel_rfl))
 t0 := Tryz.underlying0
 a0 := Tryz.isAgg0
 z0 := Tryz.sizeOf0
 v0 := Tryz.zeroValue0
 t3 := Tryz.underlying3
 a3 := Tryz.isAgg3
 z3 := Tryz.sizeOf3
 v3 := Tryz.zeroValue3
 t4 := Tryz.underlying4
 a4 := Tryz.isAgg4
 z4 := Tryz.sizeOf4
 v4 := Tryz.zeroValue4
 t9 := Tryz.underlying9
 a9 := Tryz.isAgg9
 z9 := Tryz.sizeOf9
 v9 := Tryz.zeroValue9
 t20 := Tryz.underlying20
 a20 := Tryz.isAgg20
 z20 := Tryz.sizeOf20
 v20 := Tryz.zeroValue20
 t37 := Tryz.underlying125
 a37 := Tryz.isAgg125
 z37 := Tryz.sizeOf125
 v37 := Tryz.zeroValue125
 t70 := Tryz.underlying201
 a70 := Tryz.isAgg201
 z70 := Tryz.sizeOf201
 v70 := Tryz.zeroValue201
 t72 := Tryz.underlying203
 a72 := Tryz.isAgg203
 z72 := Tryz.sizeOf203
 v72 := Tryz.zeroValue203
 t75 := Tryz.underlying190
 a75 := Tryz.isAgg190
 z75 := Tryz.sizeOf190
 v75 := Tryz.zeroValue190
 t164 := Tryz.underlying275
 a164 := Tryz.isAgg275
 z164 := Tryz.sizeOf275
 v164 := Tryz.zeroValue275 }
theorem Tryz.Builder_Extra_166 : Builder.Extra Tryz.prog Tryz.lays166_ren := {
 sizeBuilder := by kernel_rfl
 liesBuilder := by kernel_rfl
 t5 := Tryz.underlying5
 a5 := Tryz.isAgg5
 z5 := Tryz.sizeOf5
 v5 := Tryz.zeroValue5
 infoByte := by kernel_rfl
 cellsByte := by kernel_rfl
 sizeByte := by kernel_rfl
 neB5 := by decide }
open Go.RowKit in
theorem Tryz.Builder_WriteString_k (B b : Nat) (bs : List Value) (s : ByteArray) (w : World) (h : Lib.IsBuilderF 203 5 B b bs w) (hlen : bs.length + s.size ≤ 140737488355328) (hBw : B ≤ w.heap.size) :
  Calls Tryz.prog 250 #[.pointer (some ⟨b, 0, none⟩), .string s] w fun e w' => e = .returned (.tuple #[.int .i64 s.size, .nilIface]) ∧ (Lib.BuilderAtF 203 5 B b (.pointer (some ⟨b, 0, none⟩)) (bs ++ Lib.strCells s) w' ∧ Below B w w' ∧ Lib.OthersKept 5 (some b) w w') :=
 Any.Builder_WriteString_k Tryz.lays166 Tryz.Builder_Extra_166 B b bs s w h hlen hBw
end Go.Proofs
namespace Go.Proofs.YtjcdeeahjkfmoaaGreatDoor.Num
open Go.RowKit Go.Lib Go.Shelf
def Tab (w : World) : Prop := Lib.TabIs Tryz.prog w "internal/strconv.uint64pow10" .u64 Lib.pow10Tab
theorem Tab.below {w w' : World} (h : Tab w) (hb : Below w.heap.size w w') : Tab w' := by
 unfold Tab Lib.TabIs World.var? at h ⊢
 have hg : Tryz.prog.globalNamed "internal/strconv.uint64pow10" = some 3 := by kernel_rfl
 rw [hg] at h ⊢
 simp only [Option.bind_some] at h ⊢
 have hlt : 3 < w.heap.size := by
  rcases Nat.lt_or_ge 3 w.heap.size with h' | h'
  ·exact h'
  ·rw [Array.getElem?_eq_none h'] at h; cases h
 rw [hb.block _ hlt]
 exact h
theorem grow_facts (w : World) (k : Nat) (os : Array Obj) : Below w.heap.size w (Sort.grow (w.drewN k) os) :=
 ⟨rfl, rfl, rfl, by simp [Sort.grow], fun i hi => by simp [Sort.grow, Array.getElem?_append, hi]⟩
theorem itoa_any (n : Int) (w : World) (h0 : -9223372036854775808 ≤ n) (h1 : n ≤ 9223372036854775807) (ht : Tab w) :
  Calls Tryz.prog 140 #[.int .i64 n] w fun e w' => e = .returned (.string ⟨(Lib.itoa n).toArray⟩) ∧ Below w.heap.size w w' :=
 (Tryz.strconv_Itoa n h0 h1 w ht).mono fun e w' ⟨h, k, os, h2⟩ => ⟨h, by rw [h2]; exact grow_facts w k os⟩
theorem itoa_nat (d : Nat) : Lib.itoa (d : Int) = Lib.decDigits d := by
 unfold Lib.itoa
 rw [if_neg (by omega)]; rfl
end Go.Proofs.YtjcdeeahjkfmoaaGreatDoor.Num
