/- Contracts of the program's functions, joined from smaller texts. Conditions stand at each theorem. -/
import Derived.Test.YtjcdeeahjkfmoaaGreatDoorNumB
import Derived.Test.YtjcdeeahjkfmoaaGreatDoorNumA
import Derived.Shelf.Strings.SlTrimAscii
import Derived.Deep.RegionHeld3
import Derived.Deep.DeepCutAuto
set_option maxRecDepth 100000
set_option maxHeartbeats 4000000
namespace Go.Proofs.YtjcdeeahjkfmoaaGreatDoor
namespace Num
open Go.RowKit Go.Lib Go.Shelf
attribute [local go_sem] Oper.semAt_some
theorem builderAt_kept {T e : TypeId} {B b : Nat} {p : Value} {bs : List Value} {W W' : World} {row : Option Nat} (h : Lib.BuilderAtF T e B b p bs W) (hg : W.grownBy W' row) (hr : ∀ r, row = some r → ∃ o : Obj, W.heap[r]? = some o ∧ o.isCells = false) : Lib.BuilderAtF T e B b p bs W' := by
 obtain ⟨hB, v, hb, hown, hne⟩ := h
 refine ⟨hB, v, ?_, ?_, hne⟩
 ·rw [hg.block b (heap_lt hb) (fun e => ?_)]
  ·exact hb
  ·obtain ⟨o, ho, hc⟩ := hr b e.symm
   rw [hb] at ho
   obtain rfl := Option.some.inj ho
   simp [Obj.isCells] at hc
 ·refine hown.kept hg ?_
  rcases hown.2 with ⟨rfl, _⟩ | ⟨g, cap, cur, fz, rfl, hbg, hgg, _⟩
  ·exact .inl rfl
  ·right
   intro e
   obtain ⟨o, ho, hc⟩ := hr g e.symm
   rw [hgg] at ho
   obtain rfl := Option.some.inj ho
   simp [Obj.isCells] at hc
theorem builder_kept {T e : TypeId} {B b : Nat} {bs : List Value} {W W' : World} {row : Option Nat} (h : Lib.IsBuilderF T e B b bs W) (hg : W.grownBy W' row) (hr : ∀ r, row = some r → ∃ o : Obj, W.heap[r]? = some o ∧ o.isCells = false) : Lib.IsBuilderF T e B b bs W' :=
 h.elim (fun x => .inl (builderAt_kept x hg hr)) (fun x => .inr (builderAt_kept x hg hr))
theorem cells_kept {W W' : World} {row : Option Nat} {k : Nat} {c : Array Value} {T : TypeId} {fz : Nat × Nat} (h : W.heap[k]? = some (.cells c T fz)) (hg : W.grownBy W' row) (hr : ∀ r, row = some r → ∃ o : Obj, W.heap[r]? = some o ∧ o.isCells = false) : W'.heap[k]? = some (.cells c T fz) := by
 rw [hg.block k (heap_lt h) (fun e => ?_)]
 ·exact h
 ·obtain ⟨o, ho, hc⟩ := hr k e.symm
  rw [h] at ho
  obtain rfl := Option.some.inj ho
  simp [Obj.isCells] at hc
theorem write_any (w0 : World) (sv : Value) (l : List UInt8) (s : ByteArray) (W : World) (hb : Lib.IsBuilderF 203 5 (w0.heap.size + 1) (w0.heap.size + 1) (Lib.byteCells l) W) (hbox : W.heap[w0.heap.size]? = some (.cells #[sv] 171 (0, 0))) (hlen : l.length + s.size ≤ 1000000000) (hB : Below w0.heap.size w0 W) (hs : w0.heap.size + 1 ≤ W.heap.size) (K : Nat) :
  Calls Tryz.prog 250 #[.pointer (some ⟨w0.heap.size + 1, 0, none⟩), .string s] W fun e w' => e = .returned (.tuple #[.int .i64 s.size, .nilIface]) ∧
   Lib.IsBuilderF 203 5 (w0.heap.size + 1) (w0.heap.size + 1) (Lib.byteCells (l ++ s.data.toList)) w' ∧ w'.heap[w0.heap.size]? = some (.cells #[sv] 171 (0, 0)) ∧ Below w0.heap.size w0 w' ∧ KeepsFrom K W w' ∧ KBack w0.heap.size W w' := by
 have hbl : ∃ c, W.heap[w0.heap.size + 1]? = some (.cells c 203 (0, 0)) := by
  rcases hb with ⟨_, v, h, _⟩ | ⟨_, v, h, _⟩ <;> exact ⟨_, h⟩
 refine (Tryz.Builder_WriteString_k (w0.heap.size + 1) (w0.heap.size + 1) (Lib.byteCells l) s W hb (by simp [Lib.byteCells]; omega) hs).mono ?_
 rintro e w' ⟨h1, h2, h3, h4⟩
 obtain ⟨c, hc⟩ := hbl
 have hkk : KeepKind 171 W w' := by
  intro k c' fz hk
  refine h4 k _ hk (fun e => ?_) (fun c2 fz2 e => ?_)
  ·simp only [Option.some.injEq] at e
   subst e
   rw [hc] at hk
   simp at hk
  ·simp at e
 have hbw : Below w0.heap.size W w' := h3.mono (by omega)
 refine ⟨h1, .inr ?_, hkk _ _ _ hbox, hB.trans hbw, ⟨h3.size, fun k o _ hk ho => ?_⟩, hbw, hkk⟩
 ·have e : Lib.byteCells (l ++ s.data.toList) = Lib.byteCells l ++ Lib.strCells s := by simp [Lib.byteCells, Lib.strCells]
  rw [e]; exact h2
 ·refine h4 k o hk (fun e => ?_) (fun c2 fz2 e => ?_)
  ·simp only [Option.some.injEq] at e
   subst e
   rw [hc] at hk
   obtain rfl := Option.some.inj hk
   simp [Obj.isCells] at ho
  ·subst e; simp [Obj.isCells] at ho
theorem keepsFrom_all {W W' : World} (h : KeepsFrom 0 W W') (K : Nat) : KeepsFrom K W W' := ⟨h.size, fun k o _ hk ho => h.same k o (Nat.zero_le _) hk ho⟩
theorem keepsFrom_below {W W' : World} (h : Below W.heap.size W W') : KeepsFrom 0 W W' := ⟨h.size, fun k _ _ hk _ => (h.block k (heap_lt hk)).trans hk⟩
def TextI (w : World) (sv : Value) (x : List Nat) (pre : List Limb) (W : World) : Prop :=
 (Lib.IsBuilderF 203 5 (w.heap.size + 1) (w.heap.size + 1) (Lib.byteCells (pieces x.length pre)) W ∧ W.heap[w.heap.size]? = some (.cells #[sv] 171 (0, 0))) ∧ Below w.heap.size w W
theorem text_zero (v : Value) (w : World) (h : NatAt w v 0) :
  Calls Tryz.prog 291 #[v] w fun e w' => e = .returned (.string ⟨(Lib.decDigits 0).toArray⟩) ∧ Below w.heap.size w w' := by
 have hz := zero_any v 0 (w.alloc (.cells #[v] 171)) (h.below ((Below.refl _ _).alloc (Nat.le_refl _) _))
 obtain ⟨A, C, rfl, hC⟩ := h.form
 have HZ := hid hz; clear hz h hC
 generalize (digs LB 0).length = k at HZ ⊢
 rw [decDigits_zero]
 have hb : Below w.heap.size w (w.alloc (.cells #[.slice A k C] 171)) := (Below.refl _ _).alloc (Nat.le_refl _) _
 have HB := hid hb; clear hb
 go_enter Tryz.func291, Tryz.ntmps291
 go_wp2_with fail
 refine HZ.out.mono ?_
 rintro e w2 ⟨rfl, rfl⟩
 simp only [decide_true]
 go_wp2
 go_ret
 exact ⟨rfl, HB.out⟩
theorem text_pos (v : Value) (n : Nat) (w : World) (h : NatAt w v n) (hn : n ≠ 0) (hl : (digs LB n).length ≤ 1000000) (htab : Tab w) :
  Calls Tryz.prog 291 #[v] w fun e w' => e = .returned (.string ⟨(Lib.decDigits n).toArray⟩) ∧ Below w.heap.size w w' := by
 have hz := zero_any v n (w.alloc (.cells #[v] 171)) (h.below ((Below.refl _ _).alloc (Nat.le_refl _) _))
 have hne : digs LB n ≠ [] := fun e => hn ((digs_eq_nil LB_two).1 e)
 have hin := LimbsAt.into h hne
 obtain ⟨b, off, cap, hv, hbl, hcs⟩ := hin
 subst hv
 obtain ⟨x, hx⟩ : ∃ x, digs LB n = x := ⟨_, rfl⟩
 have HX := hid hx
 have HIN : Hid (LimbsIn w.heap.size w (.slice (some ⟨b, off, none⟩) x.length cap) x) := by rw [← hx]; exact ⟨b, off, cap, rfl, hbl, hcs⟩
 rw [hx] at hz hl ⊢
 have HOK : LimbsOk x := ⟨by rw [← hx]; exact digs_lt LB_two n, by omega⟩
 have HZ := hid hz; clear hz h hne hcs hx
 have HT := hid htab; clear htab
 have hdn : decide (n = 0) = false := decide_eq_false hn
 have hbb : Below w.heap.size w (((w.alloc (.cells #[.slice (some ⟨b, off, none⟩) x.length cap] 171)).alloc (.cells #[.pointer none, .slice none 0 0] 203)).alloc (.cells #[.slice (some ⟨b, off, none⟩) x.length cap] 171)) := (((Below.refl _ _).alloc (Nat.le_refl _) _).alloc (by simp) _).alloc (by simp; omega) _
 have HBB := hid hbb; clear hbb
 refine (callsIn_wide (n := 6)).1 ?_
 refine callsIn_of_wp_marks Tryz.func291 rfl trivial ?_ rfl
 simp only [Tryz.ntmps291, List.size_toArray, List.length_cons, List.length_nil, Nat.reduceAdd, Nat.reduceSub, Array.replicate_succ, Array.replicate_zero, List.push_toArray, List.append_toArray, List.nil_append, List.cons_append]
 gi_wp2_with (first | (refine ⟨trivial, ?_⟩; gi_at_call 218; refine (callsIn_wide.2 HZ.out).mono ?_; rintro e w' ⟨rfl, rfl⟩; rw [hdn]) | (refine ⟨trivial, ?_⟩; gi_at_call 334; refine (backward_in Fence.wide _ trivial rfl _ _ _ _).mono ?_; rintro e w' ⟨rfl, rfl⟩))
 refine wpIn_rangeFunc_ownG rfl (by decide) (gf := 367) (lb := _) rfl trivial (enters_of Tryz.func367 (by kernel_rfl) rfl)
  (backward_stops Fence.wide 5 trivial rfl (by decide) (w.heap.size + 1 + 1) w.heap.size _ x HOK _ (by simp; omega) (alloc_at _ _ _ (by simp)) (HIN.out.below HBB.out)) KBack.trans (KBack.put (by simp; omega)) (Below.refl _ _) (fun _ => rfl)
  (TextI w (.slice (some ⟨b, off, none⟩) x.length cap) x) (fun _ _ _ => False)
  (OwnFrom.and (Own.from (fun s A B row hs hg hr => ⟨builder_kept hs.1 hg hr, cells_kept hs.2 hg hr⟩) _) (ownFrom_below (Nat.le_refl _) (by simp; omega)))
  (fun _ _ _ _ _ hs _ _ => hs)
  ?h0 (fun y => { tmps := #[.slice (some ⟨b, off, none⟩) x.length cap, .pointer (some ⟨w.heap.size, 0, none⟩), .string ⟨#[]⟩, .pointer (some ⟨w.heap.size + 1, 0, none⟩), .int .i64 (y.1.1 : Int), .int .u32 (y.1.2 : Int), undef, .slice (some ⟨b, off, none⟩) x.length cap, .bool false, .slice (some ⟨b, off, none⟩) x.length cap, .func (.func 367) #[] #[.pointer (some ⟨w.heap.size + 1 + 1, 0, none⟩)], .int .i64 (y.1.1 : Int), .int .u32 (y.1.2 : Int), undef, undef, undef, undef, undef, undef, undef, undef, undef, undef, undef, undef, undef, undef, undef, undef], defers := [] }) ?assign ?body ?done ?stop
 case h0 =>
  refine ⟨⟨?_, ?_⟩, HBB.out⟩
  ·have h := Lib.fresh_isBuilder 203 5 (w.alloc (.cells #[.slice (some ⟨b, off, none⟩) x.length cap] 171))
   rw [World.size_alloc] at h
   exact builder_kept (Lib.IsBuilderF.of h) (World.grownBy_alloc _ _ none) (fun r e => by cases e)
  ·refine cells_kept (cells_kept (heap_alloc_new w _) (World.grownBy_alloc _ _ none) (fun r e => by cases e)) (World.grownBy_alloc _ _ none) (fun r e => by cases e)
 case assign =>
  intro l x W K hK
  gi_wp2
  exact hK
 case body =>
  rintro l pre y W ⟨⟨hbuild, hbox⟩, hB⟩ hlen
  obtain ⟨⟨i, d⟩, hi9, hd9⟩ := y
  dsimp only at hi9 hd9 ⊢
  have hbx : W.cell? ⟨w.heap.size, 0, none⟩ = some (.slice (some ⟨b, off, none⟩) x.length cap) := by rw [Lib.cell_of_heap hbox 0]; rfl
  have hpl := pieces_len x.length pre
  obtain ⟨hd1, hd2⟩ := dec_len9 hd9
  have hTW := HT.out.below hB
  have HTW := hid hTW; clear hTW
  have hita := itoa_any (d : Int) W (by omega) (by omega) HTW.out
  rw [itoa_nat] at hita
  obtain ⟨t, ht⟩ : ∃ t : ByteArray, (⟨(Lib.decDigits d).toArray⟩ : ByteArray) = t := ⟨_, rfl⟩
  have htl : t.data.toList = Lib.decDigits d := by rw [← ht]
  have hts : t.size = (Lib.decDigits d).length := by rw [← ht]; show (Lib.decDigits d).toArray.size = _; simp
  rw [ht] at hita
  rw [← hts] at hd1 hd2
  have HTS := hid hts; clear hts
  have HITA := hid hita; clear hita ht
  have hs0 : w.heap.size + 1 ≤ W.heap.size := by
   rcases hbuild with ⟨_, v, h, _⟩ | ⟨_, v, h, _⟩ <;> exact Nat.le_of_lt (heap_lt h)
  have hlp : (pieces x.length pre).length ≤ 9000000 := by omega
  have HBU := hid hbuild; clear hbuild
  have HBOX := hid hbox; clear hbox
  have HBW := hid hB; clear hB
  by_cases hfirst : i < x.length - 1
  ·have hfi : decide ((i : Int) < (x.length : Int) - 1) = true := decide_eq_true (by omega)
   obtain ⟨m, hm⟩ : ∃ m, 9 - t.size = m := ⟨_, rfl⟩
   have hmi : (9 : Int) - (t.size : Int) = (m : Int) := by omega
   have hm8 : m ≤ 8 := by omega
   obtain ⟨z, hz⟩ : ∃ z : ByteArray, (⟨#[48, 48, 48, 48, 48, 48, 48, 48]⟩ : ByteArray).extract 0 m = z := ⟨_, rfl⟩
   have hzl : z.data.toList = List.replicate m 48 := by
    rw [← hz, Lib.extract_data]
    have : m = 0 ∨ m = 1 ∨ m = 2 ∨ m = 3 ∨ m = 4 ∨ m = 5 ∨ m = 6 ∨ m = 7 ∨ m = 8 := by omega
    rcases this with rfl | rfl | rfl | rfl | rfl | rfl | rfl | rfl | rfl <;> rfl
   have hzs : z.size = m := by
    show z.data.size = m
    rw [← Array.length_toList, hzl, List.length_replicate]
   have HZL := hid hzl; clear hzl
   have HHM := hid hm; clear hm
   gi_wp2_with (refine ⟨trivial, ?_⟩; gi_at_call 140; refine (CallsIn.inRound l (callsIn_wide.2 HITA.out)).mono ?_; rintro e W1 ⟨rfl, hb1⟩; have hbx1 := (hb1.cell (p := ⟨w.heap.size, 0, none⟩) (heap_lt HBOX.out)).trans hbx)
   have hbu1 := builder_kept HBU.out (only_of_below hb1 none) (fun r e => by cases e)
   have hbo1 := (hb1.block w.heap.size (heap_lt HBOX.out)).trans HBOX.out
   have hw1 := HBW.out.trans (hb1.mono (by omega))
   have hwr := write_any w _ _ z W1 hbu1 hbo1 (by omega) hw1 (by have := hb1.size; omega) 0
   have HWR := hid hwr; clear hwr
   have HB1 := hid hb1; clear hb1 hbu1 hbo1 hw1 hbx1
   gi_wp2_with (refine ⟨trivial, ?_⟩; gi_at_call 250; refine (CallsIn.inRound l (callsIn_wide.2 HWR.out)).mono ?_; clear HWR; rintro e W2 ⟨rfl, k1, k2, k3, k4, k5⟩)
   have hwr2 := write_any w _ _ t W2 k1 k2 (by rw [List.length_append, HZL.out, List.length_replicate]; omega) k3 (by have := k4.size; have := HB1.out.size; omega) 0
   have HWR2 := hid hwr2; clear hwr2
   have HK4 := hid k4; clear k4
   have HK5 := hid k5; clear k5 k1 k2 k3
   gi_wp2_with (refine ⟨trivial, ?_⟩; gi_at_call 250; refine (CallsIn.inRound l (callsIn_wide.2 HWR2.out)).mono ?_; clear HWR2; rintro e W3 ⟨rfl, j1, j2, j3, j4, j5⟩)
   have g1 : KeepsFrom 0 W W3 := (keepsFrom_below HB1.out).trans (HK4.out.trans j4)
   have g0 : KBack w.heap.size W W1 := ⟨HB1.out.mono (Nat.le_trans (Nat.le_succ _) hs0), KeepKind.below HB1.out⟩
   have g2 : KBack w.heap.size W W3 := g0.trans (HK5.out.trans j5)
   have hf : fills x.length i d = List.replicate m 48 := by unfold fills; rw [if_pos hfirst, ← htl, show t.data.toList.length = t.size by rw [HTS.out, htl], HHM.out]
   have g3 : Lib.IsBuilderF 203 5 (w.heap.size + 1) (w.heap.size + 1) (Lib.byteCells (pieces x.length (pre ++ [⟨(i, d), hi9, hd9⟩]))) W3 := by
    rw [pieces_snoc]
    show Lib.IsBuilderF _ _ _ _ (Lib.byteCells (pieces x.length pre ++ fills x.length i d ++ Lib.decDigits d)) _
    rw [hf, ← HZL.out, ← htl]
    exact j1
   show KeepsFrom _ W W3 ∧ KBack w.heap.size W W3 ∧ TextI w _ x _ W3
   exact ⟨keepsFrom_all g1 _, g2, ⟨g3, j2⟩, j3⟩
  ·have hfi : decide ((i : Int) < (x.length : Int) - 1) = false := decide_eq_false (by omega)
   gi_wp2_with (refine ⟨trivial, ?_⟩; gi_at_call 140; refine (CallsIn.inRound l (callsIn_wide.2 HITA.out)).mono ?_; rintro e W1 ⟨rfl, hb1⟩; have hbx1 := (hb1.cell (p := ⟨w.heap.size, 0, none⟩) (heap_lt HBOX.out)).trans hbx)
   have hbu1 := builder_kept HBU.out (only_of_below hb1 none) (fun r e => by cases e)
   have hbo1 := (hb1.block w.heap.size (heap_lt HBOX.out)).trans HBOX.out
   have hw1 := HBW.out.trans (hb1.mono (by omega))
   have hwr := write_any w _ _ t W1 hbu1 hbo1 (by omega) hw1 (by have := hb1.size; omega) 0
   have HWR := hid hwr; clear hwr
   have HB1 := hid hb1; clear hb1 hbu1 hbo1 hw1 hbx1
   gi_wp2_with (refine ⟨trivial, ?_⟩; gi_at_call 250; refine (CallsIn.inRound l (callsIn_wide.2 HWR.out)).mono ?_; clear HWR; rintro e W2 ⟨rfl, k1, k2, k3, k4, k5⟩)
   have g1 : KeepsFrom 0 W W2 := (keepsFrom_below HB1.out).trans k4
   have g0 : KBack w.heap.size W W1 := ⟨HB1.out.mono (Nat.le_trans (Nat.le_succ _) hs0), KeepKind.below HB1.out⟩
   have g2 : KBack w.heap.size W W2 := g0.trans k5
   have hf : fills x.length i d = [] := by unfold fills; rw [if_neg hfirst]
   have g3 : Lib.IsBuilderF 203 5 (w.heap.size + 1) (w.heap.size + 1) (Lib.byteCells (pieces x.length (pre ++ [⟨(i, d), hi9, hd9⟩]))) W2 := by
    rw [pieces_snoc]
    show Lib.IsBuilderF _ _ _ _ (Lib.byteCells (pieces x.length pre ++ fills x.length i d ++ Lib.decDigits d)) _
    rw [hf, List.append_nil, ← htl]
    exact k1
   show KeepsFrom _ W W2 ∧ KBack w.heap.size W W2 ∧ TextI w _ x _ W2
   exact ⟨keepsFrom_all g1 _, g2, ⟨g3, k2⟩, k3⟩
 case done =>
  rintro D ys W hD rfl ⟨⟨hbuild, hbox⟩, hB⟩ hK
  rw [pieces_upto HX.out HOK _ (Nat.le_refl _), txt_done HX.out hn] at hbuild
  have hst := Tryz.Builder_String_k (w.heap.size + 1) (w.heap.size + 1) (Lib.decDigits n) W hbuild (decDigits_ne n)
  have HST := hid hst; clear hst
  have HBW := hid hB; clear hB
  have HKD := hid hK; clear hK hbuild hbox
  gi_wp2_with (refine ⟨trivial, ?_⟩; gi_at_call 251; refine (callsIn_wide.2 HST.out).mono ?_; clear HST; rintro e W2 ⟨rfl, _, j2, j3⟩)
  have hDB : w.heap.size ≤ D := by simp at hD; omega
  have hK' : W2.heap[D]? = some (.deferred (some [])) := by
   refine j3 D _ HKD.out (fun e => ?_) (fun c fz e => by cases e)
   simp only [Option.some.injEq] at e
   simp at hD; omega
  refine ⟨by simp, .inl ⟨_, _, rfl, run_takeDeferred hK', ?_⟩⟩
  exact ⟨_, results_tmp rfl _ _ _, rfl, (HBW.out.trans (j2.mono (by omega))).trans (belowK_b (w := w) (Nat.le_refl _) W2 D _ _ hDB hK' rfl rfl)⟩
 case stop =>
  rintro D c pre W _ _ h _
  exact h.elim
theorem text_any (v : Value) (n : Nat) (w : World) (h : NatAt w v n) (hl : (digs LB n).length ≤ 1000000) (htab : Tab w) :
  Calls Tryz.prog 291 #[v] w fun e w' => e = .returned (.string ⟨(Lib.decDigits n).toArray⟩) ∧ Below w.heap.size w w' := by
 by_cases hn : n = 0
 ·subst hn; exact text_zero v w h
 ·exact text_pos v n w h hn hl htab
end Num
namespace Num
open Go.RowKit Go.Lib
def bstr (l : List UInt8) : Value := .string ⟨l.toArray⟩
def fracV (q : Rat) : Value := .agg #[bstr (numText q), bstr (denText q)]
theorem numText_int (n : Int) : numText (n : Rat) = Lib.itoa n := by
 unfold numText neg up Lib.itoa
 have h1 : (n : Rat).num = n := Rat.num_intCast n
 rw [h1]
 by_cases h : n < 0
 ·simp [h]
 ·simp only [h, decide_false, Bool.false_eq_true, if_false]
  congr 1; omega
theorem denText_int (n : Int) : denText (n : Rat) = [49] := by
 unfold denText
 have h1 : (n : Rat).den = 1 := Rat.den_intCast n
 rw [h1]; exact decDigits_one
theorem fracV_int (n : Int) : fracV (n : Rat) = .agg #[bstr (Lib.itoa n), bstr [49]] := by unfold fracV; rw [numText_int, denText_int]
theorem of_any (n : Int) (w : World) (h0 : -9223372036854775808 ≤ n) (h1 : n ≤ 9223372036854775807) (ht : Tab w) :
  Calls Tryz.prog 79 #[.int .i64 n] w fun e w' => e = .returned (fracV (n : Rat)) ∧ Below w.heap.size w w' := by
 rw [fracV_int]
 have hb0 : Below w.heap.size w (w.alloc (.cells #[.string ⟨#[]⟩, .string ⟨#[]⟩] 30)) := (Below.refl _ _).alloc (Nat.le_refl _) _
 have HI := hid (itoa_any n _ h0 h1 (ht.below hb0))
 have HB0 := hid hb0
 have hnew := Lib.cell_of_heap (heap_alloc_new w (.cells #[.string ⟨#[]⟩, .string ⟨#[]⟩] 30))
 have hlt : w.heap.size < (w.alloc (.cells #[.string ⟨#[]⟩, .string ⟨#[]⟩] 30)).heap.size := by simp
 clear ht hb0
 go_enter Tryz.func79, Tryz.ntmps79
 go_wp2_with fail
 refine HI.out.mono ?_
 rintro e w1 ⟨rfl, hb⟩
 have hblk : w1.heap[w.heap.size]? = some (.cells #[.string ⟨#[]⟩, .string ⟨#[]⟩] 30 (0, 0)) := (hb.block _ hlt).trans (heap_alloc_new w _)
 have c0 := Lib.cell_of_heap hblk 0
 have c1 := Lib.cell_of_heap hblk 1
 have f0 := Lib.frozen_of_heap hblk 0
 have f1 := Lib.frozen_of_heap hblk 1
 simp at c0 c1
 have HB : Hid (Below w.heap.size w w1) := HB0.out.trans (hb.mono (by simp))
 clear hb hnew hlt hblk
 go_wp2
 refine bodyPost_ret (v := .agg #[bstr (Lib.itoa n), bstr [49]]) (by simp [results, Tryz.results79, go_sem, c0, c1, bstr]) rfl ⟨rfl, (HB.out.setCell (p := ⟨w.heap.size, 0, none⟩) (Nat.le_refl _) _).setCell (p := ⟨w.heap.size, 1, none⟩) (Nat.le_refl _) _⟩
end Num
namespace Num
open Go.RowKit Go.Lib
theorem dropWhile_all {α : Type} {p : α → Bool} : ∀ {l : List α}, (∀ c ∈ l, p c = true) → l.dropWhile p = []
 | [], _ => rfl
 | c :: r, h => by
  rw [List.dropWhile_cons, if_pos (h c (by simp))]
  exact dropWhile_all fun x hx => h x (List.mem_cons_of_mem _ hx)
theorem trim_digits (l : List UInt8) (h : AllDigits l) : Lib.trimS l [48, 49, 50, 51, 52, 53, 54, 55, 56, 57] = [] := by
 have hc : ∀ c ∈ l, ([48, 49, 50, 51, 52, 53, 54, 55, 56, 57] : List UInt8).contains c = true := by
  intro c hc
  have h1 := h c hc
  have h2 : c = UInt8.ofNat c.toNat := by simp
  have : c.toNat = 48 ∨ c.toNat = 49 ∨ c.toNat = 50 ∨ c.toNat = 51 ∨ c.toNat = 52 ∨ c.toNat = 53 ∨ c.toNat = 54 ∨ c.toNat = 55 ∨ c.toNat = 56 ∨ c.toNat = 57 := by omega
  rcases this with e | e | e | e | e | e | e | e | e | e <;> rw [e] at h2 <;> subst h2 <;> decide
 unfold Lib.trimS Lib.trimRightS
 rw [dropWhile_all (fun c hcc => hc c (List.mem_reverse.1 hcc))]
 rfl
theorem digits_true (s : ByteArray) (w : World) (h : AllDigits s.data.toList) (hne : s.data.toList ≠ []) (hz : s.data.toList.head? = some 48 → s.data.toList.length = 1) (hs : s.size ≤ 1000000) :
  Calls Tryz.prog 285 #[.string s] w fun e w' => e = .returned (.bool true) ∧ Below w.heap.size w w' := by
 have htr := Any.strings_Trim_laid Tryz.lays160 (by kernel_rfl) s ⟨#[48, 49, 50, 51, 52, 53, 54, 55, 56, 57]⟩ w (by omega) (by decide) (ascii_of_all (by decide))
 rw [show (⟨#[48, 49, 50, 51, 52, 53, 54, 55, 56, 57]⟩ : ByteArray).data.toList = [48, 49, 50, 51, 52, 53, 54, 55, 56, 57] from rfl, trim_digits _ h] at htr
 have HTR := hid htr; clear htr
 have hsz : s.data.toList.length = s.size := by simp
 have hpos : 0 < s.size := by rw [← hsz]; exact List.length_pos_iff.2 hne
 have hem : s.toList.isEmpty = false := by
  rw [Lib.toList_data]
  cases hl : s.data.toList with
  | nil => exact absurd hl hne
  | cons _ _ => rfl
 have hem2 : ((⟨#[]⟩ : ByteArray)).toList.isEmpty = true := by rw [Lib.toList_data]; rfl
 have h0 : (s[0]'hpos = 48) → s.size = 1 := by
  intro e
  rw [← hsz]
  apply hz
  rw [List.head?_eq_getElem?, List.getElem?_eq_getElem (by rw [hsz]; exact hpos)]
  congr 1
 have H0 := hid h0; clear h0 hz hne h hsz
 obtain ⟨c, hc⟩ : ∃ c, s[0]'hpos = c := ⟨_, rfl⟩
 rw [hc] at H0
 by_cases h48 : c = 48
 ·have h1 := H0.out h48
  have hcb : ((c.toNat : Int) == 48) = true := by rw [h48]; rfl
  have hlb : decide ((1 : Int) < (s.size : Int)) = false := decide_eq_false (by omega)
  have hln : decide (1 < s.size) = false := decide_eq_false (by omega)
  clear h1
  go_enter Tryz.func285, Tryz.ntmps285
  go_wp2_with fail
  refine HTR.out.mono ?_
  rintro e w1 ⟨rfl, hb⟩
  have HB := hid hb; clear hb
  go_wp2
  go_ret
  exact ⟨by first | rfl | simp [hem2], HB.out⟩
 ·have hcb : ((c.toNat : Int) == 48) = false := by
   rw [beq_eq_false_iff_ne]; intro h
   exact h48 (UInt8.toNat_inj.1 (by have : (48 : UInt8).toNat = 48 := rfl; omega))
  go_enter Tryz.func285, Tryz.ntmps285
  go_wp2_with fail
  refine HTR.out.mono ?_
  rintro e w1 ⟨rfl, hb⟩
  have HB := hid hb; clear hb
  go_wp2
  go_ret
  exact ⟨by first | rfl | simp [hem2], HB.out⟩
end Num
namespace Num
open Go.RowKit Go.Lib
theorem bstr_data (l : List UInt8) : (⟨l.toArray⟩ : ByteArray).data.toList = l := rfl
theorem bstr_size (l : List UInt8) : (⟨l.toArray⟩ : ByteArray).size = l.length := by show l.toArray.size = _; simp
theorem fits_up {q : Rat} (h : fits q = true) : (Lib.decDigits (up q)).length ≤ 300 := by
 unfold fits at h; rw [Bool.and_eq_true] at h; exact of_decide_eq_true h.1
theorem fits_den {q : Rat} (h : fits q = true) : (Lib.decDigits q.den).length ≤ 300 := by
 unfold fits at h; rw [Bool.and_eq_true] at h; exact of_decide_eq_true h.2
theorem dec_limbs {n k : Nat} (h : (Lib.decDigits n).length ≤ k) (hk : 0 < k) : (digs LB n).length ≤ k := by
 have h1 := (decDigits_length_iff hk).1 h
 exact digs_len_le LB_two (Nat.lt_of_lt_of_le h1 (Nat.pow_le_pow_left (by decide) k))
theorem decDigits_not (n : Nat) (c : UInt8) (hc : c.toNat < 48 ∨ 57 < c.toNat) : (Lib.decDigits n).head? ≠ some c := by
 intro h
 have h1 : c ∈ Lib.decDigits n := List.mem_of_mem_head? h
 have h2 := decDigits_all n c h1
 omega
theorem decDigits_zero_len (n : Nat) (h : (Lib.decDigits n).head? = some 48) : (Lib.decDigits n).length = 1 := by
 by_cases hn : n = 0
 ·subst hn; rw [decDigits_zero]; rfl
 ·exact absurd h (decDigits_head n hn)
def upS (q : Rat) : ByteArray := ⟨(Lib.decDigits (up q)).toArray⟩
def denS (q : Rat) : ByteArray := ⟨(denText q).toArray⟩
def numS (q : Rat) : ByteArray := ⟨(numText q).toArray⟩
theorem fracV_is (q : Rat) : fracV q = .agg #[.string (numS q), .string (denS q)] := rfl
theorem prefix_minus (l : List UInt8) : Lib.hasPrefix l [45] = (l.head? == some 45) := by
 cases l with
 | nil => rfl
 | cons c r =>
  show ((45 : UInt8) == c && true) = (some c == some 45)
  rw [Bool.and_true, Bool.eq_iff_iff, beq_iff_eq, beq_iff_eq]
  exact ⟨fun h => by rw [h], fun h => (Option.some.inj h).symm⟩
theorem num_minus (q : Rat) : Lib.hasPrefix (numText q) [45] = neg q := by
 rw [prefix_minus]
 unfold numText
 by_cases h : neg q = true
 ·rw [if_pos h, h]; rfl
 ·rw [if_neg h]
  have : neg q = false := by simpa using h
  rw [this, beq_eq_false_iff_ne]
  exact decDigits_not _ _ (by decide)
theorem num_rest (q : Rat) : Lib.trimPrefix (numText q) [45] = Lib.decDigits (up q) := by
 unfold Lib.trimPrefix
 rw [num_minus]
 unfold numText
 by_cases h : neg q = true
 ·rw [if_pos h, if_pos h]; rfl
 ·rw [if_neg h, if_neg h]
theorem cut_num (q : Rat) (w : World) : Calls Tryz.prog 275 #[.string (numS q), .string ⟨#[45]⟩] w fun e w' => e = .returned (.tuple #[.string (upS q), .bool (neg q)]) ∧ w' = w := by
 have h := Tryz.strings_CutPrefix (numS q) ⟨#[45]⟩ w
 rw [show (numS q).data.toList = numText q from rfl, show (⟨#[45]⟩ : ByteArray).data.toList = [45] from rfl, num_rest, num_minus] at h
 exact h
theorem digits_dec (n : Nat) (w : World) (h : (Lib.decDigits n).length ≤ 1000000) :
  Calls Tryz.prog 285 #[.string ⟨(Lib.decDigits n).toArray⟩] w fun e w' => e = .returned (.bool true) ∧ Below w.heap.size w w' :=
 digits_true _ w (decDigits_all n) (decDigits_ne n) (decDigits_zero_len n) (by rw [bstr_size]; exact h)
theorem NatAt.shape {w : World} {v : Value} {n : Nat} (h : NatAt w v n) : ∃ A L C, v = .slice A L C := let ⟨A, C, h, _⟩ := LimbsAt.form h; ⟨A, _, C, h⟩
theorem shaped {e : Ending} {w w' : World} {n : Nat} (h : ∃ v', e = .returned v' ∧ NatAt w' v' n ∧ Below w.heap.size w w') : ∃ A L C, e = .returned (.slice A L C) ∧ NatAt w' (.slice A L C) n ∧ Below w.heap.size w w' := by
 obtain ⟨v, rfl, hn, hb⟩ := h
 obtain ⟨A, L, C, rfl⟩ := hn.shape
 exact ⟨A, L, C, rfl, hn, hb⟩
theorem parse_dec (n : Nat) (w : World) (h : (Lib.decDigits n).length ≤ 1000000) :
  Calls Tryz.prog 286 #[.string ⟨(Lib.decDigits n).toArray⟩] w fun e w' => ∃ A L C, e = .returned (.slice A L C) ∧ NatAt w' (.slice A L C) n ∧ Below w.heap.size w w' := by
 have h1 := parse_any ⟨(Lib.decDigits n).toArray⟩ w (decDigits_all n) (by rw [bstr_size]; omega)
 rw [bstr_data, decVal_decDigits] at h1
 exact h1.mono fun _ _ h => shaped h
theorem keep_block {w w' : World} {k : Nat} {o : Obj} (h : w.heap[k]? = some o) (hb : Below w.heap.size w w') : w'.heap[k]? = some o := (hb.block _ (heap_lt h)).trans h
theorem not_zero {l : List UInt8} (h : l ≠ [48]) : (l == [48]) = false := by rw [beq_eq_false_iff_ne]; exact h
def ReadI (w : World) (n d : ByteArray) (W : World) : Prop :=
 W.heap[w.heap.size]? = some (.cells #[.string n, .string d] 30 (0, 0)) ∧ W.heap[w.heap.size + 1]? = some (.cells #[.bool false, .slice none 0 0, .slice none 0 0] 173 (0, 0)) ∧ Below w.heap.size w W
theorem ReadI.start {w : World} {n d : ByteArray} : ReadI w n d ((w.alloc (.cells #[.string n, .string d] 30)).alloc (.cells #[.bool false, .slice none 0 0, .slice none 0 0] 173)) :=
 ⟨(Below.heap_alloc _ _ _ (by simp)).trans (heap_alloc_new w _), by have := heap_alloc_new (w.alloc (.cells #[.string n, .string d] 30)) (.cells #[.bool false, .slice none 0 0, .slice none 0 0] 173); simpa using this, ((Below.refl _ _).alloc (Nat.le_refl _) _).alloc (by simp) _⟩
theorem ReadI.step {w W W' : World} {n d : ByteArray} (h : ReadI w n d W) (hb : Below W.heap.size W W') : ReadI w n d W' :=
 ⟨keep_block h.1 hb, keep_block h.2.1 hb, h.2.2.trans (hb.mono (Nat.le_of_lt (heap_lt h.1)))⟩
theorem ReadI.cells {w W : World} {n d : ByteArray} (h : ReadI w n d W) : W.cell? ⟨w.heap.size, 0, none⟩ = some (.string n) ∧ W.cell? ⟨w.heap.size, 1, none⟩ = some (.string d) :=
 ⟨by rw [Lib.cell_of_heap h.1 0]; rfl, by rw [Lib.cell_of_heap h.1 1]; rfl⟩
theorem ReadI.alloc {w W : World} {n d : ByteArray} (h : ReadI w n d W) (o : Obj) : ReadI w n d (W.alloc o) := h.step ((Below.refl _ _).alloc (Nat.le_refl _) o)
theorem ReadI.set {w W : World} {n d : ByteArray} (h : ReadI w n d W) {p : Addr} (hp : w.heap.size + 1 < p.block) (u : Value) : ReadI w n d (W.setCell p u) :=
 ⟨(Below.heap_setCell W p u _ (by omega)).trans h.1, (Below.heap_setCell W p u _ (by omega)).trans h.2.1, h.2.2.setCell (by omega) u⟩
theorem ReadI.set3 {w W : World} {n d : ByteArray} (h : ReadI w n d W) (b : Nat) (hp : w.heap.size + 1 < b) (x y z : Value) : ReadI w n d (((W.setCell ⟨b, 0, none⟩ x).setCell ⟨b, 1, none⟩ y).setCell ⟨b, 2, none⟩ z) := ((h.set (p := ⟨b, 0, none⟩) hp x).set (p := ⟨b, 1, none⟩) hp y).set (p := ⟨b, 2, none⟩) hp z
theorem ReadI.drew {w W : World} {n d : ByteArray} (h : ReadI w n d W) : ReadI w n d W.drew := ⟨h.1, h.2.1, h.2.2.drew⟩
theorem ReadI.lt {w W : World} {n d : ByteArray} (h : ReadI w n d W) : w.heap.size + 1 < W.heap.size := heap_lt h.2.1
theorem ReadI.both {w W : World} {n d : ByteArray} (h : ReadI w n d W) : W.cell? ⟨w.heap.size, 1, none⟩ = some (.string d) ∧ ReadI w n d W := ⟨h.cells.2, h⟩
def Three (W : World) (b : Nat) (x y z : Value) : Prop :=
 (W.cell? ⟨b, 0, none⟩ = some x ∧ W.cell? ⟨b, 1, none⟩ = some y ∧ W.cell? ⟨b, 2, none⟩ = some z) ∧ W.frozen? ⟨b, 0, none⟩ = false ∧ W.frozen? ⟨b, 1, none⟩ = false ∧ W.frozen? ⟨b, 2, none⟩ = false
theorem three_at {W : World} {b : Nat} {x y z : Value} {T : TypeId} (h : W.heap[b]? = some (.cells #[x, y, z] T (0, 0))) : Three W b x y z :=
 ⟨⟨Lib.cell_of_heap h 0, Lib.cell_of_heap h 1, Lib.cell_of_heap h 2⟩, by rw [Lib.frozen_of_heap h 0], by rw [Lib.frozen_of_heap h 1], by rw [Lib.frozen_of_heap h 2]⟩
theorem new_kept_drew {X W : World} {o : Obj} (hb : Below (X.alloc o).drew.heap.size (X.alloc o).drew W) : W.heap[X.heap.size]? = some o := keep_block (w := (X.alloc o).drew) (show (X.alloc o).drew.heap[X.heap.size]? = some o from heap_alloc_new X o) hb
theorem new_kept {X W : World} {o : Obj} (hb : Below (X.alloc o).heap.size (X.alloc o) W) : W.heap[X.heap.size]? = some o := keep_block (heap_alloc_new X o) hb
theorem set3_at {W : World} {b : Nat} {x0 y0 z0 : Value} {T : TypeId} (h : W.heap[b]? = some (.cells #[x0, y0, z0] T (0, 0))) (x y z : Value) :
  (((W.setCell ⟨b, 0, none⟩ x).setCell ⟨b, 1, none⟩ y).setCell ⟨b, 2, none⟩ z).heap[b]? = some (.cells #[x, y, z] T (0, 0)) := by
 have h1 := heap_setCell_at h 0 x
 have h2 := heap_setCell_at h1 1 y
 have h3 := heap_setCell_at h2 2 z
 rw [h3]; rfl
theorem set3_other (W : World) (b : Nat) (x y z : Value) {k : Nat} (hk : k ≠ b) : (((W.setCell ⟨b, 0, none⟩ x).setCell ⟨b, 1, none⟩ y).setCell ⟨b, 2, none⟩ z).heap[k]? = W.heap[k]? :=
 (Below.heap_setCell _ ⟨b, 2, none⟩ z k hk).trans ((Below.heap_setCell _ ⟨b, 1, none⟩ y k hk).trans (Below.heap_setCell W ⟨b, 0, none⟩ x k hk))
def NoLimb (W : World) (b : Nat) : Prop := ∀ (j : Nat) (d : Int), W.cell? ⟨b, j, none⟩ ≠ some (.int .u32 d)
theorem noLimb_num {W : World} {b : Nat} {m : Bool} {A1 A2 : Option Addr} {L1 C1 L2 C2 : Nat} {T : TypeId} {fz : Nat × Nat} (h : W.heap[b]? = some (.cells #[.bool m, .slice A1 L1 C1, .slice A2 L2 C2] T fz)) : NoLimb W b := by
 intro j d e
 rw [Lib.cell_of_heap h j] at e
 match j with
 | 0 => cases e
 | 1 => cases e
 | 2 => cases e
 | n + 3 => simp at e
theorem LimbsAt.but {W W' : World} {b : Nat} {v : Value} {l : List Nat} (h : LimbsAt W v l) (hb : NoLimb W b) (ho : ∀ k, k ≠ b → W'.heap[k]? = W.heap[k]?) : LimbsAt W' v l := by
 obtain ⟨A, C, rfl, hC, hc⟩ := h
 refine ⟨A, C, rfl, hC, fun i hi => ?_⟩
 obtain ⟨b', o, ha, hcell⟩ := hc i hi
 refine ⟨b', o, ha, ?_⟩
 have hne : b' ≠ b := by rintro rfl; exact hb _ _ hcell
 have := ho b' hne
 simp only [World.cell?] at hcell ⊢
 rw [this]; exact hcell
theorem NatAt.set3 {W : World} {b : Nat} {m : Bool} {A1 A2 : Option Addr} {L1 C1 L2 C2 : Nat} {T : TypeId} {v : Value} {n : Nat} (hn : NatAt W v n) (h : W.heap[b]? = some (.cells #[.bool m, .slice A1 L1 C1, .slice A2 L2 C2] T (0, 0))) (x y z : Value) :
  NatAt (((W.setCell ⟨b, 0, none⟩ x).setCell ⟨b, 1, none⟩ y).setCell ⟨b, 2, none⟩ z) v n :=
 LimbsAt.but hn (noLimb_num h) (fun _ hk => set3_other W b x y z hk)
def LitI (w : World) (nS dS : ByteArray) (sg : Bool) (m n : Nat) (s6 : Value) (wx : World) : Prop :=
 ∃ b A1 L1 C1 A2 L2 C2, s6 = .pointer (some ⟨b, 0, none⟩) ∧ wx.heap[b]? = some (.cells #[.bool sg, .slice A1 L1 C1, .slice A2 L2 C2] 173 (0, 0)) ∧ NatAt wx (.slice A1 L1 C1) m ∧ NatAt wx (.slice A2 L2 C2) n ∧ ReadI w nS dS wx
theorem lit_alloc {w W1 W2 : World} {nS dS : ByteArray} {sg : Bool} {m n : Nat} {A1 A2 : Option Addr} {L1 C1 L2 C2 : Nat} (h1 : NatAt W1 (.slice A1 L1 C1) m) (hb : Below W1.heap.size W1 W2) (h2 : NatAt W2 (.slice A2 L2 C2) n) (hr : ReadI w nS dS W2) :
  LitI w nS dS sg m n (.pointer (some ⟨W2.heap.size, 0, none⟩)) (W2.alloc (.cells #[.bool sg, .slice A1 L1 C1, .slice A2 L2 C2] 173)) := by
 have ha : Below W2.heap.size W2 (W2.alloc (.cells #[.bool sg, .slice A1 L1 C1, .slice A2 L2 C2] 173)) := (Below.refl _ _).alloc (Nat.le_refl _) _
 exact ⟨_, A1, L1, C1, A2, L2, C2, rfl, heap_alloc_new W2 _, (h1.below hb).below ha, h2.below ha, hr.alloc _⟩
theorem lit_set {w W2 : World} {nS dS : ByteArray} {sg : Bool} {m n b : Nat} {A1 A2 : Option Addr} {L1 C1 L2 C2 : Nat} (hk : W2.heap[b]? = some (.cells #[.bool false, .slice none 0 0, .slice none 0 0] 173 (0, 0))) (h1 : NatAt W2 (.slice A1 L1 C1) m) (h2 : NatAt W2 (.slice A2 L2 C2) n) (hr : ReadI w nS dS W2) (hlt : w.heap.size + 1 < b) :
  LitI w nS dS sg m n (.pointer (some ⟨b, 0, none⟩)) (((W2.setCell ⟨b, 0, none⟩ (.bool sg)).setCell ⟨b, 1, none⟩ (.slice A1 L1 C1)).setCell ⟨b, 2, none⟩ (.slice A2 L2 C2)) :=
 ⟨b, A1, L1, C1, A2, L2, C2, rfl, set3_at hk _ _ _, h1.set3 hk _ _ _, h2.set3 hk _ _ _, hr.set3 b hlt _ _ _⟩
theorem read_ok (q : Rat) (w : World) (hf : fits q = true) :
  Calls Tryz.prog 219 #[fracV q] w fun e w' => ∃ v1 v2, e = .returned (.tuple #[.agg #[.bool (neg q), v1, v2], .int .i64 0]) ∧ NatAt w' v1 (up q) ∧ NatAt w' v2 q.den ∧ Below w.heap.size w w' := by
 have hu := fits_up hf
 have hd := fits_den hf
 rw [fracV_is]
 have HD1 := hid (fun w => digits_dec (up q) w (by omega))
 have HD2 := hid (fun w => digits_dec q.den w (by omega))
 have HP1 := hid (fun w => parse_dec (up q) w (by omega))
 have HP2 := hid (fun w => parse_dec q.den w (by omega))
 have HC := hid (fun w => cut_num q w)
 have hsu : (upS q).size ≤ 300 := by unfold upS; rw [bstr_size]; exact hu
 have hsd : (denS q).size ≤ 300 := by unfold denS; rw [bstr_size]; exact hd
 clear hu hd
 obtain ⟨nS, hnS⟩ : ∃ s, numS q = s := ⟨_, rfl⟩
 obtain ⟨uS, huS⟩ : ∃ s, upS q = s := ⟨_, rfl⟩
 obtain ⟨dS, hdS⟩ : ∃ s, denS q = s := ⟨_, rfl⟩
 obtain ⟨sg, hsg⟩ : ∃ s, neg q = s := ⟨_, rfl⟩
 have e1 : (⟨(Lib.decDigits (up q)).toArray⟩ : ByteArray) = uS := huS
 have e2 : (⟨(Lib.decDigits q.den).toArray⟩ : ByteArray) = dS := hdS
 rw [e1] at HD1 HP1
 rw [e2] at HD2 HP2
 rw [hnS, huS, hsg] at HC
 rw [hnS, hdS, hsg]
 rw [huS] at hsu
 rw [hdS] at hsd
 have hz1 : (dS.toList == [48]) = false := by
  rw [← hdS, Lib.toList_data]
  exact not_zero (fun h => q.den_nz (decDigits_inj (h.trans decDigits_zero.symm)))
 have hz2 : ((uS.toList == [48]) && sg) = false := by
  rw [← huS, ← hsg, Lib.toList_data]
  cases hn : neg q
  ·simp
  ·rw [Bool.and_true]
   exact not_zero (fun h => neg_up q hn (decDigits_inj (h.trans decDigits_zero.symm)))
 obtain ⟨bz, hbz⟩ : ∃ b, (uS.toList == [48]) = b := ⟨_, rfl⟩
 rw [hbz] at hz2
 have hl1 : decide ((300 : Int) < (uS.size : Int)) = false := decide_eq_false (by omega)
 have hl2 : decide ((300 : Int) < (dS.size : Int)) = false := decide_eq_false (by omega)
 clear e1 e2 hnS huS hdS hsg hsu hsd
 go_enter Tryz.func219, Tryz.ntmps219
 go_wp2_with fail
 refine (HC.out _).mono ?_
 rintro e w1 ⟨rfl, rfl⟩
 go_upto_region 2 with fail
 go_cut [33] (fun s33 wx => s33 = .bool false ∧ ReadI w nS dS wx)
 case first =>
  go_wp2_with fail
  refine (HD1.out _).mono ?_
  rintro e w1 ⟨rfl, hb1⟩
  have HI1 := hid (ReadI.start.step hb1); clear hb1
  obtain ⟨c0, c1⟩ := HI1.out.cells
  go_wp2_with fail
  refine (HD2.out _).mono ?_
  rintro e w2 ⟨rfl, hb2⟩
  have HI2 := hid (HI1.out.step hb2); clear hb2 c0 c1 HI1
  obtain ⟨c0, c1⟩ := HI2.out.cells
  cases bz <;> cases sg <;> first | (exact absurd hz2 (by decide)) | skip
  all_goals
   go_wp2_with fail
   go_meet
   exact ⟨rfl, HI2.out⟩
 case rest =>
  obtain ⟨rfl, hri⟩ := hcut
  have HI2 := hid hri; clear hri
  obtain ⟨c0, c1⟩ := HI2.out.cells
  have hlt := HI2.out.lt
  clear hz1 hz2
  go_upto_region 6 with fail
  go_cut [6] (fun s6 wx => LitI w nS dS sg (up q) q.den s6 wx)
  case first =>
   go_region_held3 (fun W => W.cell? ⟨w.heap.size, 1, none⟩ = some (.string dS) ∧ ReadI w nS dS W)
    (first | (with_reducible exact HI2.out.drew.both) | (with_reducible exact (HI2.out.drew.alloc _).both) | (with_reducible exact (HI2.out.alloc _).drew.both) | (with_reducible exact HR1.out.both) | (with_reducible exact (HR1.out.alloc _).both) | (with_reducible exact HR2.out.both) | (with_reducible exact (HR2.out.alloc _).both) | (with_reducible exact (HR2.out.set3 _ hlt _ _ _).both) | (with_reducible exact (HR2.out.set3 _ hl1 _ _ _).both) | fail)
    ((first | (go_at_call 286; (with_reducible refine (HP1.out _).mono ?_); rintro e W1 ⟨A1, L1, C1, rfl, hn1, hb1⟩; have HN1 := hid hn1; have HR1 := hid ((And.right ‹_ ∧ ReadI _ _ _ _›).step hb1); have HB1 := hid hb1; have hl1 := HR1.out.lt; (first | ((with_reducible first | have hk1 := new_kept_drew hb1 | have hk1 := new_kept hb1); obtain ⟨⟨k0, k1, k2⟩, f0, f1, f2⟩ := three_at hk1) | skip); clear hn1 hb1) | (go_at_call 286; (with_reducible refine (HP2.out _).mono ?_); rintro e W2 ⟨A2, L2, C2, rfl, hn2, hb2⟩; have HN2 := hid hn2; have HR2 := hid ((And.right ‹_ ∧ ReadI _ _ _ _›).step hb2); have HB2 := hid hb2; (first | ((with_reducible have hk2 := new_kept hb2); obtain ⟨⟨k0, k1, k2⟩, f0, f1, f2⟩ := three_at hk2) | (have hk2 := keep_block hk1 hb2; clear k0 k1 k2 f0 f1 f2 hk1; obtain ⟨⟨k0, k1, k2⟩, f0, f1, f2⟩ := three_at hk2) | skip); clear hn2 hb2)))
   ·go_wp2_with fail
    go_meet
    exact lit_alloc HN1.out HB2.out HN2.out HR2.out
   ·go_wp2_with fail
    go_meet
    exact lit_set hk2 (HN1.out.below (((Below.refl _ _).alloc (Nat.le_refl _) _).trans (HB2.out.mono (by simp)))) HN2.out HR2.out hl1
   ·go_wp2_with fail
    go_meet
    exact lit_set hk2 (HN1.out.below HB2.out) HN2.out HR2.out hlt
  case rest =>
   obtain ⟨b, A1, L1, C1, A2, L2, C2, rfl, hk, hn1, hn2, hr⟩ := hcut
   have HK := hid hk
   have HN1 := hid hn1
   have HN2 := hid hn2
   have HR := hid hr
   obtain ⟨⟨k0, k1, k2⟩, f0, f1, f2⟩ := three_at hk
   clear hk hn1 hn2 hr c0 c1 HI2
   have HLN := hid (And.intro (dec_limbs (fits_up hf) (by decide)) (dec_limbs (fits_den hf) (by decide)))
   go_wp2_with fail
   refine (common_any _ _ _ _ _ HN1.out HN2.out (by have := HLN.out; omega) (by have := HLN.out; omega)).mono ?_
   rintro e w3 ⟨vg, rfl, hg, hb3⟩
   rw [up_gcd] at hg
   have HG := hid hg
   have HK3 := hid (keep_block HK.out hb3)
   have HN13 := hid (HN1.out.below hb3)
   have HN23 := hid (HN2.out.below hb3)
   have HR3 := hid (HR.out.step hb3)
   clear hg hb3 k0 k1 k2 f0 f1 f2 HK HN1 HN2 HR
   obtain ⟨⟨k0, k1, k2⟩, f0, f1, f2⟩ := three_at HK3.out
   obtain ⟨⟨r0, r1, r2⟩, g0, g1, g2⟩ := three_at HR3.out.2.1
   go_wp2_with fail
   refine (one_any _ _ _ HG.out).mono ?_
   rintro e w4 ⟨rfl, rfl⟩
   simp only [decide_true]
   go_wp2
   refine bodyPost_ret (v := .tuple #[.agg #[.bool sg, .slice A1 L1 C1, .slice A2 L2 C2], .int .i64 0]) (by simp [results, Tryz.results219, go_sem, r0, r1, r2]) rfl ⟨_, _, rfl, HN13.out.set3 HR3.out.2.1 _ _ _, HN23.out.set3 HR3.out.2.1 _ _ _, ?_⟩
   exact ((HR3.out.2.2.setCell (p := ⟨w.heap.size + 1, 0, none⟩) (Nat.le_succ _) _).setCell (p := ⟨w.heap.size + 1, 1, none⟩) (Nat.le_succ _) _).setCell (p := ⟨w.heap.size + 1, 2, none⟩) (Nat.le_succ _) _
end Num
namespace Num
open Go.RowKit Go.Lib
def noFrac : Value := .agg #[.string ⟨#[]⟩, .string ⟨#[]⟩]
def wroteV (q : Rat) : Value := if fits q then .tuple #[fracV q, .int .i64 0] else .tuple #[noFrac, .int .i64 19]
theorem wroteV_ok {q : Rat} (h : fits q = true) : wroteV q = .tuple #[fracV q, .int .i64 0] := by unfold wroteV; rw [if_pos h]
theorem wroteV_no {q : Rat} (h : fits q = false) : wroteV q = .tuple #[noFrac, .int .i64 19] := by unfold wroteV; rw [if_neg (by rw [h]; decide)]
theorem fracV_zero : fracV 0 = .agg #[.string ⟨#[48]⟩, .string ⟨#[49]⟩] := by
 have h : fracV ((0 : Int) : Rat) = _ := fracV_int 0
 have h0 : ((0 : Int) : Rat) = 0 := rfl
 rw [h0] at h
 rw [h]
 have : Lib.itoa 0 = [48] := by
  have := itoa_nat 0
  rw [show ((0 : Nat) : Int) = 0 from rfl] at this
  rw [this]; exact decDigits_zero
 rw [this]; rfl
theorem fits_zero : fits 0 = true := by
 unfold fits up
 rw [show (0 : Rat).num = 0 from rfl, show (0 : Rat).den = 1 from rfl]
 rw [show ((0 : Int).natAbs) = 0 from rfl, decDigits_zero, decDigits_one]; rfl
def WriteI (w : World) (m : Bool) (v1 v2 : Value) (a b : Nat) (W : World) : Prop :=
 (W.heap[w.heap.size]? = some (.cells #[.bool m, v1, v2] 173 (0, 0)) ∧ W.heap[w.heap.size + 1]? = some (.cells #[.string ⟨#[]⟩, .string ⟨#[]⟩] 30 (0, 0))) ∧ NatAt W v1 a ∧ NatAt W v2 b ∧ Tab W ∧ Below w.heap.size w W
theorem WriteI.start {w : World} {m : Bool} {v1 v2 : Value} {a b : Nat} (h1 : NatAt w v1 a) (h2 : NatAt w v2 b) (ht : Tab w) : WriteI w m v1 v2 a b ((w.alloc (.cells #[.bool m, v1, v2] 173)).alloc (.cells #[.string ⟨#[]⟩, .string ⟨#[]⟩] 30)) := by
 have hb : Below w.heap.size w ((w.alloc (.cells #[.bool m, v1, v2] 173)).alloc (.cells #[.string ⟨#[]⟩, .string ⟨#[]⟩] 30)) := ((Below.refl _ _).alloc (Nat.le_refl _) _).alloc (by simp) _
 refine ⟨⟨(Below.heap_alloc _ _ _ (by simp)).trans (heap_alloc_new w _), ?_⟩, h1.below hb, h2.below hb, ht.below hb, hb⟩
 have := heap_alloc_new (w.alloc (.cells #[.bool m, v1, v2] 173)) (.cells #[.string ⟨#[]⟩, .string ⟨#[]⟩] 30)
 simpa using this
theorem WriteI.step {w W W' : World} {m : Bool} {v1 v2 : Value} {a b : Nat} (h : WriteI w m v1 v2 a b W) (hb : Below W.heap.size W W') : WriteI w m v1 v2 a b W' :=
 ⟨⟨keep_block h.1.1 hb, keep_block h.1.2 hb⟩, h.2.1.below hb, h.2.2.1.below hb, h.2.2.2.1.below hb, h.2.2.2.2.trans (hb.mono (Nat.le_of_lt (heap_lt h.1.1)))⟩
theorem WriteI.lt {w W : World} {m : Bool} {v1 v2 : Value} {a b : Nat} (h : WriteI w m v1 v2 a b W) : w.heap.size + 1 < W.heap.size := heap_lt h.1.2
def Two (W : World) (b : Nat) (x y : Value) : Prop :=
 (W.cell? ⟨b, 0, none⟩ = some x ∧ W.cell? ⟨b, 1, none⟩ = some y) ∧ W.frozen? ⟨b, 0, none⟩ = false ∧ W.frozen? ⟨b, 1, none⟩ = false
theorem two_at {W : World} {b : Nat} {x y : Value} {T : TypeId} (h : W.heap[b]? = some (.cells #[x, y] T (0, 0))) : Two W b x y :=
 ⟨⟨Lib.cell_of_heap h 0, Lib.cell_of_heap h 1⟩, by rw [Lib.frozen_of_heap h 0], by rw [Lib.frozen_of_heap h 1]⟩
theorem write_zero (m : Bool) (v1 v2 : Value) (b : Nat) (w : World) (h1 : NatAt w v1 0) (h2 : NatAt w v2 b) (ht : Tab w) :
  Calls Tryz.prog 222 #[.agg #[.bool m, v1, v2]] w fun e w' => e = .returned (.tuple #[fracV 0, .int .i64 0]) ∧ Below w.heap.size w w' := by
 rw [fracV_zero]
 obtain ⟨A1, L1, C1, rfl⟩ := h1.shape
 obtain ⟨A2, L2, C2, rfl⟩ := h2.shape
 have HI := hid (WriteI.start (m := m) h1 h2 ht)
 clear h1 h2 ht
 obtain ⟨⟨⟨c0, c1, c2⟩, _⟩, ⟨k0, k1⟩, f0, f1⟩ := And.intro (three_at HI.out.1.1) (two_at HI.out.1.2)
 go_enter Tryz.func222, Tryz.ntmps222
 go_wp2_with fail
 refine (zero_any _ 0 _ HI.out.2.1).mono ?_
 rintro e w1 ⟨rfl, rfl⟩
 simp only [decide_true]
 go_wp2
 refine bodyPost_ret (v := .tuple #[.agg #[.string ⟨#[48]⟩, .string ⟨#[49]⟩], .int .i64 0]) (by simp [results, Tryz.results222, go_sem]) rfl ⟨rfl, ?_⟩
 exact (((Below.refl _ _).alloc (Nat.le_refl _) _).alloc (by simp) _)
theorem minus_numS (q : Rat) (h : neg q = true) : (⟨#[45]⟩ : ByteArray) ++ upS q = numS q := by
 apply ByteArray.ext
 unfold numS upS numText
 rw [ByteArray.data_append, if_pos h]
 apply Array.toList_inj.1
 rw [Array.toList_append]; rfl
theorem plain_numS (q : Rat) (h : neg q = false) : upS q = numS q := by
 unfold numS upS numText
 rw [h]; rfl
theorem div_limbs {n g k : Nat} (h : (digs LB n).length ≤ k) : (digs LB (n / g)).length ≤ k := Nat.le_trans (digs_len_mono LB_two (Nat.div_le_self n g)) h
theorem gcd_limbs {a b k : Nat} (ha : a ≠ 0) (h : (digs LB a).length ≤ k) : (digs LB (a.gcd b)).length ≤ k := Nat.le_trans (digs_len_mono LB_two (Nat.gcd_le_left b (Nat.pos_of_ne_zero ha))) h
theorem set2_at {W : World} {b : Nat} {x0 y0 : Value} {T : TypeId} (h : W.heap[b]? = some (.cells #[x0, y0] T (0, 0))) (x y : Value) : ((W.setCell ⟨b, 0, none⟩ x).setCell ⟨b, 1, none⟩ y).heap[b]? = some (.cells #[x, y] T (0, 0)) := by
 have h1 := heap_setCell_at h 0 x
 have h2 := heap_setCell_at h1 1 y
 rw [h2]; rfl
theorem set2_alloc {W : World} {b : Nat} {x0 y0 : Value} {T : TypeId} (h : W.heap[b]? = some (.cells #[x0, y0] T (0, 0))) (x y : Value) (o : Obj) : (((W.setCell ⟨b, 0, none⟩ x).setCell ⟨b, 1, none⟩ y).alloc o).cell? ⟨b, 0, none⟩ = some x ∧ (((W.setCell ⟨b, 0, none⟩ x).setCell ⟨b, 1, none⟩ y).alloc o).cell? ⟨b, 1, none⟩ = some y := by
 have h2 := set2_at h x y
 have h3 := (Below.heap_alloc _ o b (heap_lt h2)).trans h2
 exact ⟨Lib.cell_of_heap h3 0, Lib.cell_of_heap h3 1⟩
theorem write_pos (m : Bool) (v1 v2 : Value) (a b : Nat) (w : World) (ha : a ≠ 0) (hb0 : b ≠ 0) (h1 : NatAt w v1 a) (h2 : NatAt w v2 b) (ht : Tab w) (hl1 : (digs LB a).length ≤ 1000000) (hl2 : (digs LB b).length ≤ 1000000) :
  Calls Tryz.prog 222 #[.agg #[.bool m, v1, v2]] w fun e w' => e = .returned (wroteV (ratOf m a b)) ∧ Below w.heap.size w w' := by
 obtain ⟨q, hq⟩ : ∃ q, ratOf m a b = q := ⟨_, rfl⟩
 have hqu : a / a.gcd b = up q := by rw [← hq, ratOf_up m a hb0]
 have hqd : b / a.gcd b = q.den := by rw [← hq, ratOf_den m a hb0]
 have hqn : neg q = m := by rw [← hq, ratOf_neg m a hb0, decide_eq_true ha, Bool.and_true]
 have hg0 : a.gcd b ≠ 0 := fun h => ha (Nat.gcd_eq_zero_iff.1 h).1
 rw [hq]
 clear hq
 obtain ⟨V, hV⟩ : ∃ V, wroteV q = V := ⟨_, rfl⟩
 rw [hV]
 have HV := hid hV
 clear hV
 obtain ⟨A1, L1, C1, rfl⟩ := h1.shape
 obtain ⟨A2, L2, C2, rfl⟩ := h2.shape
 have HI := hid (WriteI.start (m := m) h1 h2 ht)
 clear h1 h2 ht
 have HL := hid (And.intro hl1 (And.intro hl2 (gcd_limbs (b := b) ha hl1)))
 have HQ := hid (And.intro hqu (And.intro hqd hqn))
 have HG0 := hid hg0
 have hdz : decide (a = 0) = false := decide_eq_false ha
 clear hl1 hl2 hqu hqd hqn hg0 ha
 obtain ⟨⟨c0, c1, c2⟩, _⟩ := three_at HI.out.1.1
 go_enter Tryz.func222, Tryz.ntmps222
 go_wp2_with fail
 refine (zero_any _ a _ HI.out.2.1).mono ?_
 rintro e w1 ⟨rfl, rfl⟩
 rw [hdz]
 go_wp2_with fail
 refine (common_any _ _ _ _ _ HI.out.2.1 HI.out.2.2.1 (by have := HL.out.1; omega) (by have := HL.out.2.1; omega)).mono ?_
 rintro e w1 ⟨vg, rfl, hg, hb1⟩
 have HG1 := hid hg
 have HI1 := hid (HI.out.step hb1)
 clear hg hb1 c0 c1 c2
 obtain ⟨⟨c0, c1, c2⟩, _⟩ := three_at HI1.out.1.1
 go_wp2_with fail
 refine (divide_any _ _ _ _ _ HI1.out.2.1 HG1.out HG0.out (by have := HL.out.1; omega) (by have := HL.out.2.2; omega)).mono ?_
 rintro e w2 ⟨vq, vr, rfl, hvq, _, hb2⟩
 rw [HQ.out.1] at hvq
 have HU2 := hid hvq
 have HG2 := hid (HG1.out.below hb2)
 have HI2 := hid (HI1.out.step hb2)
 clear hvq hb2 c0 c1 c2 HG1 HI1 HI
 obtain ⟨⟨c0, c1, c2⟩, _⟩ := three_at HI2.out.1.1
 go_wp2_with fail
 refine (divide_any _ _ _ _ _ HI2.out.2.2.1 HG2.out HG0.out (by have := HL.out.2.1; omega) (by have := HL.out.2.2; omega)).mono ?_
 rintro e w3 ⟨vd, vr2, rfl, hvd, _, hb3⟩
 rw [HQ.out.2.1] at hvd
 have HD3 := hid hvd
 have HU3 := hid (HU2.out.below hb3)
 have HI3 := hid (HI2.out.step hb3)
 clear hvd hb3 c0 c1 c2 HG2 HI2 HU2
 have hlu : (digs LB (up q)).length ≤ 1000000 := by rw [← HQ.out.1]; exact div_limbs HL.out.1
 have hld : (digs LB q.den).length ≤ 1000000 := by rw [← HQ.out.2.1]; exact div_limbs HL.out.2.1
 go_wp2_with fail
 refine (text_any _ _ _ HU3.out hlu HI3.out.2.2.2.1).mono ?_
 rintro e w4 ⟨rfl, hb4⟩
 have HD4 := hid (HD3.out.below hb4)
 have HI4 := hid (HI3.out.step hb4)
 clear hb4 HD3 HU3 HI3 hlu
 go_wp2_with fail
 refine (text_any _ _ _ HD4.out hld HI4.out.2.2.2.1).mono ?_
 rintro e w5 ⟨rfl, hb5⟩
 have HI5 := hid (HI4.out.step hb5)
 clear hb5 HD4 HI4 hld
 obtain ⟨uS, huS⟩ : ∃ s, upS q = s := ⟨_, rfl⟩
 obtain ⟨dS, hdS⟩ : ∃ s, denS q = s := ⟨_, rfl⟩
 rw [show (⟨(Lib.decDigits (up q)).toArray⟩ : ByteArray) = uS from huS, show (⟨(Lib.decDigits q.den).toArray⟩ : ByteArray) = dS from hdS]
 have hsu : uS.size = (Lib.decDigits (up q)).length := by rw [← huS]; exact bstr_size _
 have hsd : dS.size = (Lib.decDigits q.den).length := by rw [← hdS]; exact bstr_size _
 have HS := hid (And.intro hsu hsd)
 clear hsu hsd
 have HU := hid huS
 have HD := hid hdS
 clear huS hdS
 obtain ⟨⟨c0, c1, c2⟩, _⟩ := three_at HI5.out.1.1
 obtain ⟨⟨k0, k1⟩, f0, f1⟩ := two_at HI5.out.1.2
 have hlt5 := HI5.out.lt
 have hlt0 : w.heap.size < w5.heap.size := by omega
 have HI6 := hid (HI5.out.step (W' := w5.alloc (.cells #[.string uS, .string dS] 30)) ((Below.refl _ _).alloc (Nat.le_refl _) _))
 obtain ⟨⟨a0, _⟩, _⟩ := three_at HI6.out.1.1
 obtain ⟨⟨b0, b1⟩, g0, g1⟩ := two_at HI6.out.1.2
 by_cases hu : uS.size ≤ 300
 ·have hu1 : decide ((300 : Int) < (uS.size : Int)) = false := decide_eq_false (by omega)
  by_cases hd : dS.size ≤ 300
  ·have hd1 : decide ((300 : Int) < (dS.size : Int)) = false := decide_eq_false (by omega)
   have hfits : fits q = true := by
    unfold fits
    rw [← HS.out.1, ← HS.out.2, decide_eq_true hu, decide_eq_true hd]; rfl
   have hov : ¬ 9223372036854775807 < 1 + uS.size := by omega
   have HF := hid hfits
   clear hfits
   cases m with
   | true =>
    obtain ⟨nS, hnS⟩ : ∃ s, (⟨#[45]⟩ : ByteArray) ++ uS = s := ⟨_, rfl⟩
    have hnum : numS q = nS := by rw [← hnS, ← HU.out]; exact (minus_numS q HQ.out.2.2).symm
    have HN := hid hnum
    clear hnum
    go_wp2
    obtain ⟨e0, e1⟩ := set2_alloc HI5.out.1.2 (.string nS) (.string dS) (.cells #[.string nS, .string dS] 30)
    refine bodyPost_ret (v := .tuple #[.agg #[.string nS, .string dS], .int .i64 0]) (by simp [results, Tryz.results222, go_sem, e0, e1]) rfl ⟨by rw [← HV.out, wroteV_ok HF.out, fracV_is, HN.out, HD.out], ?_⟩
    exact ((HI5.out.2.2.2.2.setCell (p := ⟨w.heap.size + 1, 0, none⟩) (Nat.le_succ _) _).setCell (p := ⟨w.heap.size + 1, 1, none⟩) (Nat.le_succ _) _).alloc (by simp []; omega) _
   | false =>
    have hnum : numS q = uS := by rw [← HU.out]; exact (plain_numS q HQ.out.2.2).symm
    have HN := hid hnum
    clear hnum
    go_wp2
    obtain ⟨e0, e1⟩ := set2_alloc HI5.out.1.2 (.string uS) (.string dS) (.cells #[.string uS, .string dS] 30)
    refine bodyPost_ret (v := .tuple #[.agg #[.string uS, .string dS], .int .i64 0]) (by simp [results, Tryz.results222, go_sem, e0, e1]) rfl ⟨by rw [← HV.out, wroteV_ok HF.out, fracV_is, HN.out, HD.out], ?_⟩
    exact ((HI5.out.2.2.2.2.setCell (p := ⟨w.heap.size + 1, 0, none⟩) (Nat.le_succ _) _).setCell (p := ⟨w.heap.size + 1, 1, none⟩) (Nat.le_succ _) _).alloc (by simp []; omega) _
  ·have hd1 : decide ((300 : Int) < (dS.size : Int)) = true := decide_eq_true (by omega)
   have hno : fits q = false := by
    unfold fits
    rw [← HS.out.2, decide_eq_false hd, Bool.and_false]
   have HF := hid hno
   clear hno
   go_wp2
   obtain ⟨e0, e1⟩ := set2_alloc HI5.out.1.2 (.string ⟨#[]⟩) (.string ⟨#[]⟩) (.cells #[.string uS, .string dS] 30)
   refine bodyPost_ret (v := .tuple #[noFrac, .int .i64 19]) (by simp [results, noFrac, Tryz.results222, go_sem, e0, e1]) rfl ⟨by rw [← HV.out, wroteV_no HF.out], ?_⟩
   exact ((HI5.out.2.2.2.2.setCell (p := ⟨w.heap.size + 1, 0, none⟩) (Nat.le_succ _) _).setCell (p := ⟨w.heap.size + 1, 1, none⟩) (Nat.le_succ _) _).alloc (by simp []; omega) _
 ·have hu1 : decide ((300 : Int) < (uS.size : Int)) = true := decide_eq_true (by omega)
  have hno : fits q = false := by
   unfold fits
   rw [← HS.out.1, decide_eq_false hu, Bool.false_and]
  have HF := hid hno
  clear hno
  go_wp2
  obtain ⟨e0, e1⟩ := set2_alloc HI5.out.1.2 (.string ⟨#[]⟩) (.string ⟨#[]⟩) (.cells #[.string uS, .string dS] 30)
  refine bodyPost_ret (v := .tuple #[noFrac, .int .i64 19]) (by simp [results, noFrac, Tryz.results222, go_sem, e0, e1]) rfl ⟨by rw [← HV.out, wroteV_no HF.out], ?_⟩
  exact ((HI5.out.2.2.2.2.setCell (p := ⟨w.heap.size + 1, 0, none⟩) (Nat.le_succ _) _).setCell (p := ⟨w.heap.size + 1, 1, none⟩) (Nat.le_succ _) _).alloc (by simp []; omega) _
theorem numWrite_any (m : Bool) (v1 v2 : Value) (a b : Nat) (w : World) (hb0 : b ≠ 0) (h1 : NatAt w v1 a) (h2 : NatAt w v2 b) (ht : Tab w) (hl1 : (digs LB a).length ≤ 1000000) (hl2 : (digs LB b).length ≤ 1000000) :
  Calls Tryz.prog 222 #[.agg #[.bool m, v1, v2]] w fun e w' => e = .returned (wroteV (ratOf m a b)) ∧ Below w.heap.size w w' := by
 by_cases ha : a = 0
 ·subst ha
  rw [ratOf_zero, wroteV_ok fits_zero]
  exact write_zero m v1 v2 b w h1 h2 ht
 ·exact write_pos m v1 v2 a b w ha hb0 h1 h2 ht hl1 hl2
end Num
namespace Num
open Go.RowKit Go.Lib
theorem digs_len_mul {a b k l : Nat} (h1 : (digs LB a).length ≤ k) (h2 : (digs LB b).length ≤ l) : (digs LB (a * b)).length ≤ k + l := by
 refine digs_len_le LB_two ?_
 have ha := Nat.lt_of_lt_of_le (digs_upper LB_two a) (Nat.pow_le_pow_right (by decide) h1)
 have hb := Nat.lt_of_lt_of_le (digs_upper LB_two b) (Nat.pow_le_pow_right (by decide) h2)
 rw [Nat.pow_add]
 exact Nat.mul_lt_mul'' ha hb
theorem digs_len_add {a b k : Nat} (h1 : (digs LB a).length ≤ k) (h2 : (digs LB b).length ≤ k) : (digs LB (a + b)).length ≤ k + 1 := by
 refine digs_len_le LB_two ?_
 have ha := Nat.lt_of_lt_of_le (digs_upper LB_two a) (Nat.pow_le_pow_right (by decide) h1)
 have hb := Nat.lt_of_lt_of_le (digs_upper LB_two b) (Nat.pow_le_pow_right (by decide) h2)
 rw [Nat.pow_succ]
 have : 2 ≤ LB := LB_two
 have h3 : LB ^ k * 2 ≤ LB ^ k * LB := Nat.mul_le_mul_left _ this
 omega
def NumRet (w : World) (s : Bool) (n d : Nat) (e : Ending) (w' : World) : Prop :=
 ∃ A L C A' L' C', e = .returned (.agg #[.bool s, .slice A L C, .slice A' L' C']) ∧ NatAt w' (.slice A L C) n ∧ NatAt w' (.slice A' L' C') d ∧ Below w.heap.size w w'
theorem calls_shaped {P : Program} {f : FuncId} {args : Array Value} {w : World} {n : Nat} (h : Calls P f args w fun e w' => ∃ v', e = .returned v' ∧ NatAt w' v' n ∧ Below w.heap.size w w') :
  Calls P f args w fun e w' => ∃ A L C, e = .returned (.slice A L C) ∧ NatAt w' (.slice A L C) n ∧ Below w.heap.size w w' := h.mono fun _ _ h => Num.shaped h
theorem drew_block {W : World} {k : Nat} {o : Obj} (h : W.heap[k]? = some o) : W.drew.heap[k]? = some o := h
theorem cells6 {W : World} {p q : Nat} {x0 x1 x2 y0 y1 y2 : Value} {T U : TypeId} (hx : W.heap[p]? = some (.cells #[x0, x1, x2] T (0, 0))) (hy : W.heap[q]? = some (.cells #[y0, y1, y2] U (0, 0))) :
  W.cell? ⟨p, 0, none⟩ = some x0 ∧ W.cell? ⟨p, 1, none⟩ = some x1 ∧ W.cell? ⟨p, 2, none⟩ = some x2 ∧ W.cell? ⟨q, 0, none⟩ = some y0 ∧ W.cell? ⟨q, 1, none⟩ = some y1 ∧ W.cell? ⟨q, 2, none⟩ = some y2 :=
 ⟨Lib.cell_of_heap hx 0, Lib.cell_of_heap hx 1, Lib.cell_of_heap hx 2, Lib.cell_of_heap hy 0, Lib.cell_of_heap hy 1, Lib.cell_of_heap hy 2⟩
theorem cells6_set3 {W : World} {p : Nat} {x0 x1 x2 y0 y1 y2 a b c : Value} {T U : TypeId} (hx : W.heap[p]? = some (.cells #[x0, x1, x2] T (0, 0))) (hy : W.heap[p + 1]? = some (.cells #[y0, y1, y2] U (0, 0))) :
  (((W.setCell ⟨p + 1 + 1, 0, none⟩ a).setCell ⟨p + 1 + 1, 1, none⟩ b).setCell ⟨p + 1 + 1, 2, none⟩ c).cell? ⟨p, 0, none⟩ = some x0 ∧ (((W.setCell ⟨p + 1 + 1, 0, none⟩ a).setCell ⟨p + 1 + 1, 1, none⟩ b).setCell ⟨p + 1 + 1, 2, none⟩ c).cell? ⟨p, 1, none⟩ = some x1 ∧ (((W.setCell ⟨p + 1 + 1, 0, none⟩ a).setCell ⟨p + 1 + 1, 1, none⟩ b).setCell ⟨p + 1 + 1, 2, none⟩ c).cell? ⟨p, 2, none⟩ = some x2 ∧
  (((W.setCell ⟨p + 1 + 1, 0, none⟩ a).setCell ⟨p + 1 + 1, 1, none⟩ b).setCell ⟨p + 1 + 1, 2, none⟩ c).cell? ⟨p + 1, 0, none⟩ = some y0 ∧ (((W.setCell ⟨p + 1 + 1, 0, none⟩ a).setCell ⟨p + 1 + 1, 1, none⟩ b).setCell ⟨p + 1 + 1, 2, none⟩ c).cell? ⟨p + 1, 1, none⟩ = some y1 ∧ (((W.setCell ⟨p + 1 + 1, 0, none⟩ a).setCell ⟨p + 1 + 1, 1, none⟩ b).setCell ⟨p + 1 + 1, 2, none⟩ c).cell? ⟨p + 1, 2, none⟩ = some y2 :=
 cells6 ((set3_other W (p + 1 + 1) a b c (by omega)).trans hx) ((set3_other W (p + 1 + 1) a b c (by omega)).trans hy)
theorem compare_below {P : Program} {f : FuncId} {args : Array Value} {w : World} {m n : Nat} (h : Calls P f args w fun e w' => ∃ c, e = .returned (.int .i64 c) ∧ Compares c m n ∧ ∃ q, w' = w.drewN q) :
  Calls P f args w fun e w' => ∃ c, e = .returned (.int .i64 c) ∧ Compares c m n ∧ Below w.heap.size w w' :=
 h.mono fun _ _ ⟨c, he, hc, q, hq⟩ => ⟨c, he, hc, by rw [hq]; exact ⟨rfl, rfl, rfl, Nat.le_refl _, fun _ _ => rfl⟩⟩
theorem three_new (w : World) (x y z : Obj) : (((w.alloc x).alloc y).alloc z).heap[w.heap.size]? = some x ∧ (((w.alloc x).alloc y).alloc z).heap[w.heap.size + 1]? = some y ∧ (((w.alloc x).alloc y).alloc z).heap[w.heap.size + 1 + 1]? = some z ∧ Below w.heap.size w (((w.alloc x).alloc y).alloc z) := by
 refine ⟨?_, ?_, ?_, (((Below.refl _ _).alloc (Nat.le_refl _) _).alloc (by simp) _).alloc (by simp; omega) _⟩
 ·exact (Below.heap_alloc _ _ _ (by simp; omega)).trans ((Below.heap_alloc _ _ _ (by simp)).trans (heap_alloc_new w x))
 ·have := heap_alloc_new (w.alloc x) y
  rw [World.size_alloc] at this
  exact (Below.heap_alloc _ _ _ (by simp)).trans this
 ·have := heap_alloc_new ((w.alloc x).alloc y) z
  rw [World.size_alloc, World.size_alloc] at this
  exact this
theorem num_end {w W : World} {R n d : Nat} {T : TypeId} {s : Bool} {v1 v2 : Value} (hR : W.heap[R]? = some (.cells #[.bool false, .slice none 0 0, .slice none 0 0] T (0, 0))) (hb : Below w.heap.size w W) (hge : w.heap.size ≤ R) (h1 : NatAt W v1 n) (h2 : NatAt W v2 d) :
  (NatAt (((W.setCell ⟨R, 0, none⟩ (.bool s)).setCell ⟨R, 1, none⟩ v1).setCell ⟨R, 2, none⟩ v2) v1 n ∧ NatAt (((W.setCell ⟨R, 0, none⟩ (.bool s)).setCell ⟨R, 1, none⟩ v1).setCell ⟨R, 2, none⟩ v2) v2 d ∧ Below w.heap.size w (((W.setCell ⟨R, 0, none⟩ (.bool s)).setCell ⟨R, 1, none⟩ v1).setCell ⟨R, 2, none⟩ v2)) ∧
  (((W.setCell ⟨R, 0, none⟩ (.bool s)).setCell ⟨R, 1, none⟩ v1).setCell ⟨R, 2, none⟩ v2).cell? ⟨R, 0, none⟩ = some (.bool s) ∧ (((W.setCell ⟨R, 0, none⟩ (.bool s)).setCell ⟨R, 1, none⟩ v1).setCell ⟨R, 2, none⟩ v2).cell? ⟨R, 1, none⟩ = some v1 ∧ (((W.setCell ⟨R, 0, none⟩ (.bool s)).setCell ⟨R, 1, none⟩ v1).setCell ⟨R, 2, none⟩ v2).cell? ⟨R, 2, none⟩ = some v2 := by
 have h3 := set3_at hR (.bool s) v1 v2
 exact ⟨⟨h1.set3 hR _ _ _, h2.set3 hR _ _ _, ((hb.setCell (p := ⟨R, 0, none⟩) hge _).setCell (p := ⟨R, 1, none⟩) hge _).setCell (p := ⟨R, 2, none⟩) hge _⟩, Lib.cell_of_heap h3 0, Lib.cell_of_heap h3 1, Lib.cell_of_heap h3 2⟩
theorem sum_any (m k : Bool) (v1 v2 u1 u2 : Value) (a b c d : Nat) (w : World) (h1 : NatAt w v1 a) (h2 : NatAt w v2 b) (h3 : NatAt w u1 c) (h4 : NatAt w u2 d)
  (l1 : (digs LB a).length ≤ 1000) (l2 : (digs LB b).length ≤ 1000) (l3 : (digs LB c).length ≤ 1000) (l4 : (digs LB d).length ≤ 1000) :
  Calls Tryz.prog 217 #[.agg #[.bool m, v1, v2], .agg #[.bool k, u1, u2]] w (NumRet w (sumSign m k (a * d) (c * b)) (sumNum m k (a * d) (c * b)) (b * d)) := by
 obtain ⟨A1, L1, C1, rfl⟩ := h1.shape
 obtain ⟨A2, L2, C2, rfl⟩ := h2.shape
 obtain ⟨A3, L3, C3, rfl⟩ := h3.shape
 obtain ⟨A4, L4, C4, rfl⟩ := h4.shape
 obtain ⟨hx, hy, hr, hb⟩ := three_new w (.cells #[.bool m, .slice A1 L1 C1, .slice A2 L2 C2] 173) (.cells #[.bool k, .slice A3 L3 C3, .slice A4 L4 C4] 173) (.cells #[.bool false, .slice none 0 0, .slice none 0 0] 173)
 have HX := hid hx
 have HY := hid hy
 have HR := hid hr
 have N1 := hid (h1.below hb)
 have N2 := hid (h2.below hb)
 have N3 := hid (h3.below hb)
 have N4 := hid (h4.below hb)
 have HL := hid hb
 have T1 := hid (fun W h h' => calls_shaped (times_any (.slice A1 L1 C1) (.slice A4 L4 C4) a d W h h' (by omega) (by omega)))
 have T2 := hid (fun W h h' => calls_shaped (times_any (.slice A3 L3 C3) (.slice A2 L2 C2) c b W h h' (by omega) (by omega)))
 have T3 := hid (fun W h h' => calls_shaped (times_any (.slice A2 L2 C2) (.slice A4 L4 C4) b d W h h' (by omega) (by omega)))
 have HLP := hid (And.intro (digs_len_mul l1 l4) (digs_len_mul l3 l2))
 have TP := hid (fun W v v' h h' => calls_shaped (plus_any v v' (a * d) (c * b) W h h' (by have := digs_len_mul l1 l4; omega) (by have := digs_len_mul l3 l2; omega)))
 have TC := hid (fun W v v' h h' => compare_below (compare_any v v' (a * d) (c * b) W h h' (by have := digs_len_mul l1 l4; omega) (by have := digs_len_mul l3 l2; omega)))
 have TM1 := hid (fun W v v' h h' hle => calls_shaped (minus_any v v' (a * d) (c * b) W h h' hle (by have := digs_len_mul l1 l4; omega)))
 have TM2 := hid (fun W v v' h h' hle => calls_shaped (minus_any v v' (c * b) (a * d) W h h' hle (by have := digs_len_mul l3 l2; omega)))
 clear h1 h2 h3 h4 hx hy hr hb l1 l2 l3 l4
 obtain ⟨W0, hW0⟩ : ∃ W0, ((w.alloc (.cells #[.bool m, .slice A1 L1 C1, .slice A2 L2 C2] 173)).alloc (.cells #[.bool k, .slice A3 L3 C3, .slice A4 L4 C4] 173)).alloc (.cells #[.bool false, .slice none 0 0, .slice none 0 0] 173) = W0 := ⟨_, rfl⟩
 rw [hW0] at HX HY HR N1 N2 N3 N4 HL
 have HW := hid hW0
 clear hW0
 go_enter Tryz.func217, Tryz.ntmps217
 go_wp2_with fail
 rw [HW.out]
 replace HX := hid (drew_block HX.out)
 replace HY := hid (drew_block HY.out)
 replace HR := hid (drew_block HR.out)
 replace N1 := hid (show NatAt W0.drew _ _ from N1.out)
 replace N2 := hid (show NatAt W0.drew _ _ from N2.out)
 replace N3 := hid (show NatAt W0.drew _ _ from N3.out)
 replace N4 := hid (show NatAt W0.drew _ _ from N4.out)
 replace HL := hid (show Below w.heap.size w W0.drew from HL.out.drew)
 go_region_held3 (fun W => W.cell? ⟨w.heap.size, 0, none⟩ = some (.bool m) ∧ W.cell? ⟨w.heap.size, 1, none⟩ = some (.slice A1 L1 C1) ∧ W.cell? ⟨w.heap.size, 2, none⟩ = some (.slice A2 L2 C2) ∧ W.cell? ⟨w.heap.size + 1, 0, none⟩ = some (.bool k) ∧ W.cell? ⟨w.heap.size + 1, 1, none⟩ = some (.slice A3 L3 C3) ∧ W.cell? ⟨w.heap.size + 1, 2, none⟩ = some (.slice A4 L4 C4))
  (first | (with_reducible exact cells6 HX.out HY.out) | fail)
  ((first | (go_at_call 232; (with_reducible refine (T1.out _ N1.out N4.out).mono ?_); rintro e W1 ⟨B1, M1, D1, rfl, hp, hb⟩; have P1 := hid hp; clear hp; replace HX := hid (keep_block HX.out hb); replace HY := hid (keep_block HY.out hb); replace HR := hid (keep_block HR.out hb); replace N1 := hid (N1.out.below hb); replace N2 := hid (N2.out.below hb); replace N3 := hid (N3.out.below hb); replace N4 := hid (N4.out.below hb); replace HL := hid (HL.out.trans (hb.mono HL.out.size)); clear hb) | (go_at_call 232; (with_reducible refine (T2.out _ N3.out N2.out).mono ?_); rintro e W2 ⟨B2, M2, D2, rfl, hp, hb⟩; replace P1 := hid (P1.out.below hb); have P2 := hid hp; clear hp; replace HX := hid (keep_block HX.out hb); replace HY := hid (keep_block HY.out hb); replace HR := hid (keep_block HR.out hb); replace N1 := hid (N1.out.below hb); replace N2 := hid (N2.out.below hb); replace N3 := hid (N3.out.below hb); replace N4 := hid (N4.out.below hb); replace HL := hid (HL.out.trans (hb.mono HL.out.size)); clear hb)))
 obtain ⟨⟨x0, x1, x2⟩, xf0, xf1, xf2⟩ := three_at HX.out
 obtain ⟨⟨y0, y1, y2⟩, yf0, yf1, yf2⟩ := three_at HY.out
 go_wp2_with fail
 refine (T3.out _ N2.out N4.out).mono ?_
 rintro e W3 ⟨B3, M3, D3, rfl, hp, hb⟩
 have P3 := hid hp
 clear hp x0 x1 x2 y0 y1 y2 xf0 xf1 xf2 yf0 yf1 yf2
 replace HX := hid (keep_block HX.out hb)
 replace HY := hid (keep_block HY.out hb)
 replace HR := hid (keep_block HR.out hb)
 replace P1 := hid (P1.out.below hb)
 replace P2 := hid (P2.out.below hb)
 replace HL := hid (HL.out.trans (hb.mono HL.out.size))
 clear hb
 obtain ⟨⟨x0, x1, x2⟩, xf0, xf1, xf2⟩ := three_at HX.out
 obtain ⟨⟨y0, y1, y2⟩, yf0, yf1, yf2⟩ := three_at HY.out
 obtain ⟨⟨r0, r1, r2⟩, rf0, rf1, rf2⟩ := three_at HR.out
 have hge : w.heap.size ≤ w.heap.size + 1 + 1 := by omega
 by_cases hmk : m = k
 ·subst hmk
  have HS := hid (show sumSign m m (a * d) (c * b) = m by unfold sumSign; simp)
  have HN := hid (show sumNum m m (a * d) (c * b) = a * d + c * b by unfold sumNum; simp)
  have hq : (m == m) = true := by simp
  have P1d := hid (show NatAt W3.drew _ _ from P1.out)
  have P2d := hid (show NatAt W3.drew _ _ from P2.out)
  have P3d := hid (show NatAt W3.drew _ _ from P3.out)
  go_wp2_with fail
  go_region_held3 (fun W => W.cell? ⟨w.heap.size, 0, none⟩ = some (.bool m) ∧ W.cell? ⟨w.heap.size, 1, none⟩ = some (.slice A1 L1 C1) ∧ W.cell? ⟨w.heap.size, 2, none⟩ = some (.slice A2 L2 C2) ∧ W.cell? ⟨w.heap.size + 1, 0, none⟩ = some (.bool m) ∧ W.cell? ⟨w.heap.size + 1, 1, none⟩ = some (.slice A3 L3 C3) ∧ W.cell? ⟨w.heap.size + 1, 2, none⟩ = some (.slice A4 L4 C4))
   (first | (with_reducible exact cells6 HX.out HY.out) | (with_reducible exact cells6 (drew_block HX.out) (drew_block HY.out)) | (with_reducible exact cells6_set3 HX.out HY.out) | fail)
   ((first | (go_at_call 221; (with_reducible refine (TP.out _ _ _ P1d.out P2d.out).mono ?_); rintro e W5 ⟨B5, M5, D5, rfl, hp, hb⟩; have P5 := hid hp; clear hp; replace HX := hid (keep_block (drew_block HX.out) hb); replace HY := hid (keep_block (drew_block HY.out) hb); replace HR := hid (keep_block (drew_block HR.out) hb); replace P3 := hid (P3d.out.below hb); replace HL := hid (HL.out.drew.trans (hb.mono HL.out.drew.size)); clear hb; clear r0 r1 r2 rf0 rf1 rf2 x0 x1 x2 y0 y1 y2 xf0 xf1 xf2 yf0 yf1 yf2; obtain ⟨⟨r0, r1, r2⟩, rf0, rf1, rf2⟩ := three_at HR.out)))
  obtain ⟨⟨n1, n2, nb⟩, e0, e1, e2⟩ := num_end (s := m) HR.out HL.out hge P5.out P3.out
  go_wp2
  refine bodyPost_ret (v := .agg #[.bool m, .slice B5 M5 D5, .slice B3 M3 D3]) (by simp [results, Tryz.results217, go_sem, e0, e1, e2]) rfl ⟨_, _, _, _, _, _, by rw [HS.out], by rw [HN.out]; exact n1, n2, nb⟩
 ·have hq : (m == k) = false := by rw [beq_eq_false_iff_ne]; exact hmk
  go_wp2_with fail
  refine (TC.out _ _ _ P1.out P2.out).mono ?_
  rintro e W4 ⟨cc, rfl, hcc, hb⟩
  have HC := hid hcc
  clear hcc x0 x1 x2 y0 y1 y2 xf0 xf1 xf2 yf0 yf1 yf2 r0 r1 r2 rf0 rf1 rf2
  replace HX := hid (keep_block HX.out hb)
  replace HY := hid (keep_block HY.out hb)
  replace HR := hid (keep_block HR.out hb)
  replace P1 := hid (P1.out.below hb)
  replace P2 := hid (P2.out.below hb)
  replace P3 := hid (P3.out.below hb)
  replace HL := hid (HL.out.trans (hb.mono HL.out.size))
  clear hb
  obtain ⟨⟨x0, x1, x2⟩, xf0, xf1, xf2⟩ := three_at HX.out
  obtain ⟨⟨y0, y1, y2⟩, yf0, yf1, yf2⟩ := three_at HY.out
  obtain ⟨⟨r0, r1, r2⟩, rf0, rf1, rf2⟩ := three_at HR.out
  by_cases hle : c * b ≤ a * d
  ·have HS := hid (show sumSign m k (a * d) (c * b) = m by unfold sumSign; rw [if_neg (by rw [hq]; decide), if_pos hle])
   have HN := hid (show sumNum m k (a * d) (c * b) = a * d - c * b by unfold sumNum; rw [if_neg (by rw [hq]; decide), if_pos hle])
   have hge0 : decide ((0 : Int) ≤ cc) = true := decide_eq_true (Decidable.byContradiction fun h => absurd (HC.out.1.1 (by omega)) (Nat.not_lt.2 hle))
   have HLE := hid hle
   clear hle
   have P1d := hid (show NatAt W4.drew _ _ from P1.out)
   have P2d := hid (show NatAt W4.drew _ _ from P2.out)
   have P3d := hid (show NatAt W4.drew _ _ from P3.out)
   go_wp2_with fail
   go_region_held3 (fun W => W.cell? ⟨w.heap.size, 0, none⟩ = some (.bool m) ∧ W.cell? ⟨w.heap.size, 1, none⟩ = some (.slice A1 L1 C1) ∧ W.cell? ⟨w.heap.size, 2, none⟩ = some (.slice A2 L2 C2) ∧ W.cell? ⟨w.heap.size + 1, 0, none⟩ = some (.bool k) ∧ W.cell? ⟨w.heap.size + 1, 1, none⟩ = some (.slice A3 L3 C3) ∧ W.cell? ⟨w.heap.size + 1, 2, none⟩ = some (.slice A4 L4 C4))
    (first | (with_reducible exact cells6 HX.out HY.out) | (with_reducible exact cells6 (drew_block HX.out) (drew_block HY.out)) | (with_reducible exact cells6_set3 HX.out HY.out) | fail)
    ((first | (go_at_call 284; (with_reducible refine (TM1.out _ _ _ P1d.out P2d.out HLE.out).mono ?_); rintro e W5 ⟨B5, M5, D5, rfl, hp, hb⟩; have P5 := hid hp; clear hp; replace HX := hid (keep_block (drew_block HX.out) hb); replace HY := hid (keep_block (drew_block HY.out) hb); replace HR := hid (keep_block (drew_block HR.out) hb); replace P3 := hid (P3d.out.below hb); replace HL := hid (HL.out.drew.trans (hb.mono HL.out.drew.size)); clear hb; clear r0 r1 r2 rf0 rf1 rf2 x0 x1 x2 y0 y1 y2 xf0 xf1 xf2 yf0 yf1 yf2; obtain ⟨⟨r0, r1, r2⟩, rf0, rf1, rf2⟩ := three_at HR.out)))
   obtain ⟨⟨n1, n2, nb⟩, e0, e1, e2⟩ := num_end (s := m) HR.out HL.out hge P5.out P3.out
   go_wp2
   refine bodyPost_ret (v := .agg #[.bool m, .slice B5 M5 D5, .slice B3 M3 D3]) (by simp [results, Tryz.results217, go_sem, e0, e1, e2]) rfl ⟨_, _, _, _, _, _, by rw [HS.out], by rw [HN.out]; exact n1, n2, nb⟩
  ·have HS := hid (show sumSign m k (a * d) (c * b) = k by unfold sumSign; rw [if_neg (by rw [hq]; decide), if_neg hle])
   have HN := hid (show sumNum m k (a * d) (c * b) = c * b - a * d by unfold sumNum; rw [if_neg (by rw [hq]; decide), if_neg hle])
   have hge0 : decide ((0 : Int) ≤ cc) = false := decide_eq_false (by have := HC.out.1.2 (Nat.lt_of_not_le hle); omega)
   have HLE := hid (Nat.le_of_lt (Nat.lt_of_not_le hle))
   clear hle
   have P1d := hid (show NatAt W4.drew _ _ from P1.out)
   have P2d := hid (show NatAt W4.drew _ _ from P2.out)
   have P3d := hid (show NatAt W4.drew _ _ from P3.out)
   go_wp2_with fail
   go_region_held3 (fun W => W.cell? ⟨w.heap.size, 0, none⟩ = some (.bool m) ∧ W.cell? ⟨w.heap.size, 1, none⟩ = some (.slice A1 L1 C1) ∧ W.cell? ⟨w.heap.size, 2, none⟩ = some (.slice A2 L2 C2) ∧ W.cell? ⟨w.heap.size + 1, 0, none⟩ = some (.bool k) ∧ W.cell? ⟨w.heap.size + 1, 1, none⟩ = some (.slice A3 L3 C3) ∧ W.cell? ⟨w.heap.size + 1, 2, none⟩ = some (.slice A4 L4 C4))
    (first | (with_reducible exact cells6 HX.out HY.out) | (with_reducible exact cells6 (drew_block HX.out) (drew_block HY.out)) | (with_reducible exact cells6_set3 HX.out HY.out) | fail)
    ((first | (go_at_call 284; (with_reducible refine (TM2.out _ _ _ P2d.out P1d.out HLE.out).mono ?_); rintro e W5 ⟨B5, M5, D5, rfl, hp, hb⟩; have P5 := hid hp; clear hp; replace HX := hid (keep_block (drew_block HX.out) hb); replace HY := hid (keep_block (drew_block HY.out) hb); replace HR := hid (keep_block (drew_block HR.out) hb); replace P3 := hid (P3d.out.below hb); replace HL := hid (HL.out.drew.trans (hb.mono HL.out.drew.size)); clear hb; clear r0 r1 r2 rf0 rf1 rf2 x0 x1 x2 y0 y1 y2 xf0 xf1 xf2 yf0 yf1 yf2; obtain ⟨⟨r0, r1, r2⟩, rf0, rf1, rf2⟩ := three_at HR.out)))
   obtain ⟨⟨n1, n2, nb⟩, e0, e1, e2⟩ := num_end (s := k) HR.out HL.out hge P5.out P3.out
   go_wp2
   refine bodyPost_ret (v := .agg #[.bool k, .slice B5 M5 D5, .slice B3 M3 D3]) (by simp [results, Tryz.results217, go_sem, e0, e1, e2]) rfl ⟨_, _, _, _, _, _, by rw [HS.out], by rw [HN.out]; exact n1, n2, nb⟩
end Num
namespace Num
open Go.RowKit Go.Lib
def BothRet (w : World) (p q : Rat) (e : Ending) (w' : World) : Prop :=
 ∃ A1 L1 C1 A2 L2 C2 A3 L3 C3 A4 L4 C4, e = .returned (.tuple #[.agg #[.bool (neg p), .slice A1 L1 C1, .slice A2 L2 C2], .agg #[.bool (neg q), .slice A3 L3 C3, .slice A4 L4 C4], .int .i64 0]) ∧
  (NatAt w' (.slice A1 L1 C1) (up p) ∧ NatAt w' (.slice A2 L2 C2) p.den) ∧ (NatAt w' (.slice A3 L3 C3) (up q) ∧ NatAt w' (.slice A4 L4 C4) q.den) ∧ Below w.heap.size w w'
theorem read_s (q : Rat) (w : World) (hf : fits q = true) :
  Calls Tryz.prog 219 #[fracV q] w fun e w' => ∃ A1 L1 C1 A2 L2 C2, e = .returned (.tuple #[.agg #[.bool (neg q), .slice A1 L1 C1, .slice A2 L2 C2], .int .i64 0]) ∧ (NatAt w' (.slice A1 L1 C1) (up q) ∧ NatAt w' (.slice A2 L2 C2) q.den) ∧ Below w.heap.size w w' :=
 (read_ok q w hf).mono fun e w' ⟨v1, v2, he, h1, h2, hb⟩ => by
  obtain ⟨A1, L1, C1, rfl⟩ := h1.shape
  obtain ⟨A2, L2, C2, rfl⟩ := h2.shape
  exact ⟨A1, L1, C1, A2, L2, C2, he, ⟨h1, h2⟩, hb⟩
theorem four_new (w : World) (x y z u : Obj) : ((((w.alloc x).alloc y).alloc z).alloc u).heap[w.heap.size]? = some x ∧ ((((w.alloc x).alloc y).alloc z).alloc u).heap[w.heap.size + 1]? = some y ∧ ((((w.alloc x).alloc y).alloc z).alloc u).heap[w.heap.size + 1 + 1]? = some z ∧ ((((w.alloc x).alloc y).alloc z).alloc u).heap[w.heap.size + 1 + 1 + 1]? = some u ∧ Below w.heap.size w ((((w.alloc x).alloc y).alloc z).alloc u) := by
 obtain ⟨h1, h2, h3, hb⟩ := three_new w x y z
 refine ⟨?_, ?_, ?_, ?_, hb.alloc (by simp; omega) _⟩
 ·exact (Below.heap_alloc _ _ _ (heap_lt h1)).trans h1
 ·exact (Below.heap_alloc _ _ _ (heap_lt h2)).trans h2
 ·exact (Below.heap_alloc _ _ _ (heap_lt h3)).trans h3
 ·have := heap_alloc_new (((w.alloc x).alloc y).alloc z) u
  rw [World.size_alloc, World.size_alloc, World.size_alloc] at this
  exact this
theorem alloc_below {W W' : World} {o : Obj} (hb : Below (W.alloc o).heap.size (W.alloc o) W') : Below W.heap.size W W' := ((Below.refl _ _).alloc (Nat.le_refl _) o).trans (hb.mono (by simp))
theorem drew_nat {W : World} {v : Value} {n : Nat} (h : NatAt W v n) : NatAt W.drew v n := h
theorem both_end {w W : World} {R S n1 n2 n3 n4 : Nat} {T U : TypeId} {s t : Bool} {v1 v2 u1 u2 : Value} (hne : R ≠ S) (hR : W.heap[R]? = some (.cells #[.bool false, .slice none 0 0, .slice none 0 0] T (0, 0))) (hS : W.heap[S]? = some (.cells #[.bool false, .slice none 0 0, .slice none 0 0] U (0, 0))) (hb : Below w.heap.size w W) (hgr : w.heap.size ≤ R) (hgs : w.heap.size ≤ S) (h1 : NatAt W v1 n1) (h2 : NatAt W v2 n2) (h3 : NatAt W u1 n3) (h4 : NatAt W u2 n4) :
  ((NatAt (((((((W.setCell ⟨R, 0, none⟩ (.bool s)).setCell ⟨R, 1, none⟩ v1).setCell ⟨R, 2, none⟩ v2).setCell ⟨S, 0, none⟩ (.bool t)).setCell ⟨S, 1, none⟩ u1).setCell ⟨S, 2, none⟩ u2).drew) v1 n1 ∧ NatAt (((((((W.setCell ⟨R, 0, none⟩ (.bool s)).setCell ⟨R, 1, none⟩ v1).setCell ⟨R, 2, none⟩ v2).setCell ⟨S, 0, none⟩ (.bool t)).setCell ⟨S, 1, none⟩ u1).setCell ⟨S, 2, none⟩ u2).drew) v2 n2) ∧ (NatAt (((((((W.setCell ⟨R, 0, none⟩ (.bool s)).setCell ⟨R, 1, none⟩ v1).setCell ⟨R, 2, none⟩ v2).setCell ⟨S, 0, none⟩ (.bool t)).setCell ⟨S, 1, none⟩ u1).setCell ⟨S, 2, none⟩ u2).drew) u1 n3 ∧ NatAt (((((((W.setCell ⟨R, 0, none⟩ (.bool s)).setCell ⟨R, 1, none⟩ v1).setCell ⟨R, 2, none⟩ v2).setCell ⟨S, 0, none⟩ (.bool t)).setCell ⟨S, 1, none⟩ u1).setCell ⟨S, 2, none⟩ u2).drew) u2 n4) ∧ Below w.heap.size w (((((((W.setCell ⟨R, 0, none⟩ (.bool s)).setCell ⟨R, 1, none⟩ v1).setCell ⟨R, 2, none⟩ v2).setCell ⟨S, 0, none⟩ (.bool t)).setCell ⟨S, 1, none⟩ u1).setCell ⟨S, 2, none⟩ u2).drew)) ∧
  (((((((W.setCell ⟨R, 0, none⟩ (.bool s)).setCell ⟨R, 1, none⟩ v1).setCell ⟨R, 2, none⟩ v2).setCell ⟨S, 0, none⟩ (.bool t)).setCell ⟨S, 1, none⟩ u1).setCell ⟨S, 2, none⟩ u2).drew).cell? ⟨R, 0, none⟩ = some (.bool s) ∧ (((((((W.setCell ⟨R, 0, none⟩ (.bool s)).setCell ⟨R, 1, none⟩ v1).setCell ⟨R, 2, none⟩ v2).setCell ⟨S, 0, none⟩ (.bool t)).setCell ⟨S, 1, none⟩ u1).setCell ⟨S, 2, none⟩ u2).drew).cell? ⟨R, 1, none⟩ = some v1 ∧ (((((((W.setCell ⟨R, 0, none⟩ (.bool s)).setCell ⟨R, 1, none⟩ v1).setCell ⟨R, 2, none⟩ v2).setCell ⟨S, 0, none⟩ (.bool t)).setCell ⟨S, 1, none⟩ u1).setCell ⟨S, 2, none⟩ u2).drew).cell? ⟨R, 2, none⟩ = some v2 ∧ (((((((W.setCell ⟨R, 0, none⟩ (.bool s)).setCell ⟨R, 1, none⟩ v1).setCell ⟨R, 2, none⟩ v2).setCell ⟨S, 0, none⟩ (.bool t)).setCell ⟨S, 1, none⟩ u1).setCell ⟨S, 2, none⟩ u2).drew).cell? ⟨S, 0, none⟩ = some (.bool t) ∧ (((((((W.setCell ⟨R, 0, none⟩ (.bool s)).setCell ⟨R, 1, none⟩ v1).setCell ⟨R, 2, none⟩ v2).setCell ⟨S, 0, none⟩ (.bool t)).setCell ⟨S, 1, none⟩ u1).setCell ⟨S, 2, none⟩ u2).drew).cell? ⟨S, 1, none⟩ = some u1 ∧ (((((((W.setCell ⟨R, 0, none⟩ (.bool s)).setCell ⟨R, 1, none⟩ v1).setCell ⟨R, 2, none⟩ v2).setCell ⟨S, 0, none⟩ (.bool t)).setCell ⟨S, 1, none⟩ u1).setCell ⟨S, 2, none⟩ u2).drew).cell? ⟨S, 2, none⟩ = some u2 := by
 have hS1 := (set3_other W R (.bool s) v1 v2 (Ne.symm hne)).trans hS
 have hR2 := (set3_other (((W.setCell ⟨R, 0, none⟩ (.bool s)).setCell ⟨R, 1, none⟩ v1).setCell ⟨R, 2, none⟩ v2) S (.bool t) u1 u2 hne).trans (set3_at hR (.bool s) v1 v2)
 refine ⟨⟨⟨drew_nat ((h1.set3 hR _ _ _).set3 hS1 _ _ _), drew_nat ((h2.set3 hR _ _ _).set3 hS1 _ _ _)⟩, ⟨drew_nat ((h3.set3 hR _ _ _).set3 hS1 _ _ _), drew_nat ((h4.set3 hR _ _ _).set3 hS1 _ _ _)⟩, ?_⟩, cells6 (drew_block hR2) (drew_block (set3_at hS1 (.bool t) u1 u2))⟩
 exact ((((((hb.setCell (p := ⟨R, 0, none⟩) hgr _).setCell (p := ⟨R, 1, none⟩) hgr _).setCell (p := ⟨R, 2, none⟩) hgr _).setCell (p := ⟨S, 0, none⟩) hgs _).setCell (p := ⟨S, 1, none⟩) hgs _).setCell (p := ⟨S, 2, none⟩) hgs _).drew
theorem both_ok (p q : Rat) (w : World) (hp : fits p = true) (hq : fits q = true) :
  Calls Tryz.prog 216 #[fracV p, fracV q] w (BothRet w p q) := by
 have T1 := hid (fun W => read_s p W hp)
 have T2 := hid (fun W => read_s q W hq)
 clear hp hq
 rw [fracV_is p] at T1
 rw [fracV_is q] at T2
 rw [fracV_is p, fracV_is q]
 obtain ⟨hx, hy, hr, hs, hb⟩ := four_new w (.cells #[.string (numS p), .string (denS p)] 30) (.cells #[.string (numS q), .string (denS q)] 30) (.cells #[.bool false, .slice none 0 0, .slice none 0 0] 173) (.cells #[.bool false, .slice none 0 0, .slice none 0 0] 173)
 obtain ⟨W0, hW0⟩ : ∃ W0, (((w.alloc (.cells #[.string (numS p), .string (denS p)] 30)).alloc (.cells #[.string (numS q), .string (denS q)] 30)).alloc (.cells #[.bool false, .slice none 0 0, .slice none 0 0] 173)).alloc (.cells #[.bool false, .slice none 0 0, .slice none 0 0] 173) = W0 := ⟨_, rfl⟩
 rw [hW0] at hx hy hr hs hb
 have HX := hid hx
 have HY := hid hy
 have HR := hid hr
 have HS := hid hs
 have HL := hid hb
 have HW := hid hW0
 clear hx hy hr hs hb hW0
 go_enter Tryz.func216, Tryz.ntmps216
 go_wp2_with fail
 rw [HW.out]
 refine (T1.out _).mono ?_
 rintro e W1 ⟨A1, L1, C1, A2, L2, C2, rfl, ⟨h1, h2⟩, hb⟩
 have N1 := hid h1
 have N2 := hid h2
 clear h1 h2
 replace HX := hid (keep_block HX.out hb)
 replace HY := hid (keep_block HY.out hb)
 replace HR := hid (keep_block HR.out hb)
 replace HS := hid (keep_block HS.out hb)
 replace HL := hid (HL.out.trans (hb.mono HL.out.size))
 clear hb
 obtain ⟨⟨y0, y1⟩, yf0, yf1⟩ := two_at HY.out
 have hly := heap_lt HY.out
 have HR1 := hid (heap_lt HR.out)
 have HS1 := hid (heap_lt HS.out)
 go_wp2_with fail
 refine (T2.out _).mono ?_
 rintro e W2 ⟨A3, L3, C3, A4, L4, C4, rfl, ⟨h3, h4⟩, hb⟩
 have N3 := hid h3
 have N4 := hid h4
 have HA := hid (new_kept hb)
 replace hb := alloc_below hb
 clear h3 h4 hly y0 y1 yf0 yf1
 replace HX := hid (keep_block HX.out hb)
 replace HY := hid (keep_block HY.out hb)
 replace HR := hid (keep_block HR.out hb)
 replace HS := hid (keep_block HS.out hb)
 replace N1 := hid (N1.out.below hb)
 replace N2 := hid (N2.out.below hb)
 replace HL := hid (HL.out.trans (hb.mono HL.out.size))
 clear hb
 have HA2 := hid (heap_lt HA.out)
 have hb : Below W2.heap.size W2 (W2.alloc (.cells #[.bool (neg q), .slice A3 L3 C3, .slice A4 L4 C4] 173)) := (Below.refl _ _).alloc (Nat.le_refl _) _
 have HB := hid (heap_alloc_new W2 (.cells #[.bool (neg q), .slice A3 L3 C3, .slice A4 L4 C4] 173))
 replace HX := hid (keep_block HX.out hb)
 replace HY := hid (keep_block HY.out hb)
 replace HR := hid (keep_block HR.out hb)
 replace HS := hid (keep_block HS.out hb)
 replace HA := hid (keep_block HA.out hb)
 replace N1 := hid (N1.out.below hb)
 replace N2 := hid (N2.out.below hb)
 replace N3 := hid (N3.out.below hb)
 replace N4 := hid (N4.out.below hb)
 replace HL := hid (HL.out.trans (hb.mono HL.out.size))
 clear hb
 go_wp2_with fail
 obtain ⟨W3, hW3⟩ : ∃ W3, W2.alloc (.cells #[.bool (neg q), .slice A3 L3 C3, .slice A4 L4 C4] 173) = W3 := ⟨_, rfl⟩
 rw [hW3] at HX HY HR HS HA HB N1 N2 N3 N4 HL ⊢
 clear hW3
 obtain ⟨⟨a0, a1, a2⟩, af0, af1, af2⟩ := three_at HA.out
 obtain ⟨⟨b0, b1, b2⟩, bf0, bf1, bf2⟩ := three_at HB.out
 obtain ⟨⟨r0, r1, r2⟩, rf0, rf1, rf2⟩ := three_at HR.out
 obtain ⟨⟨s0, s1, s2⟩, sf0, sf1, sf2⟩ := three_at HS.out
 have na1 : W1.heap.size ≠ w.heap.size + 1 + 1 := by have := HR1.out; omega
 have na2 : W1.heap.size ≠ w.heap.size + 1 + 1 + 1 := by have := HS1.out; omega
 have nb1 : W2.heap.size ≠ w.heap.size + 1 + 1 := by have := HR1.out; have := HA2.out; omega
 have nb2 : W2.heap.size ≠ w.heap.size + 1 + 1 + 1 := by have := HS1.out; have := HA2.out; omega
 have NE := hid (And.intro (And.intro na1 na2) (And.intro nb1 nb2))
 clear na1 na2 nb1 nb2
 go_region_held3 (fun W => W.cell? ⟨W1.heap.size, 0, none⟩ = some (.bool (neg p)) ∧ W.cell? ⟨W1.heap.size, 1, none⟩ = some (.slice A1 L1 C1) ∧ W.cell? ⟨W1.heap.size, 2, none⟩ = some (.slice A2 L2 C2) ∧ W.cell? ⟨W2.heap.size, 0, none⟩ = some (.bool (neg q)) ∧ W.cell? ⟨W2.heap.size, 1, none⟩ = some (.slice A3 L3 C3) ∧ W.cell? ⟨W2.heap.size, 2, none⟩ = some (.slice A4 L4 C4))
  (first | (with_reducible exact cells6 (drew_block HA.out) (drew_block HB.out)) | (with_reducible exact cells6 (drew_block ((set3_other _ _ _ _ _ NE.out.1.1).trans HA.out)) (drew_block ((set3_other _ _ _ _ _ NE.out.2.1).trans HB.out))) | (with_reducible exact cells6 (drew_block ((set3_other _ _ _ _ _ NE.out.1.2).trans ((set3_other _ _ _ _ _ NE.out.1.1).trans HA.out))) (drew_block ((set3_other _ _ _ _ _ NE.out.2.2).trans ((set3_other _ _ _ _ _ NE.out.2.1).trans HB.out)))) | fail)
  ((first | fail))
 go_wp2
 obtain ⟨⟨n1, n2, nb⟩, e⟩ := both_end (s := neg p) (t := neg q) (v1 := .slice A1 L1 C1) (v2 := .slice A2 L2 C2) (u1 := .slice A3 L3 C3) (u2 := .slice A4 L4 C4) (by omega) HR.out HS.out HL.out (by omega) (by omega) N1.out N2.out N3.out N4.out
 obtain ⟨e0, e1, e2, e3, e4, e5⟩ := e
 refine bodyPost_ret (v := .tuple #[.agg #[.bool (neg p), .slice A1 L1 C1, .slice A2 L2 C2], .agg #[.bool (neg q), .slice A3 L3 C3, .slice A4 L4 C4], .int .i64 0]) (by simp [results, Tryz.results216, go_sem, e0, e1, e2, e3, e4, e5]) rfl ⟨_, _, _, _, _, _, _, _, _, _, _, _, rfl, n1, n2, nb⟩
end Num
end Go.Proofs.YtjcdeeahjkfmoaaGreatDoor
