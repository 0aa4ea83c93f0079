/- Contracts of the program's functions, joined from smaller texts. Conditions stand at each theorem. -/
import Derived.Test.YtjcdeeahjkfmoaaGreatDoorDegB
import Derived.Test.YtjcdeeahjkfmoaaGreatDoorDeiA
import Derived.Test.YtjcdeeahjkfmoaaGreatDoorDeeA
import Derived.Deep.DeepCutAuto
import Derived.Test.YtjcdeeahjkfmoaaGreatDoorDeeB
set_option linter.unusedVariables false
set_option linter.unusedSimpArgs false
set_option maxRecDepth 100000
set_option maxHeartbeats 4000000
namespace Go.Proofs.YtjcdeeahjkfmoaaGreatDoor
namespace Num.Mt
open Go.RowKit Go.Lib Num
theorem vals_ne' {W : World} {g o b L C n : Nat} {A : Option Addr} {vs : List Val} (h : ValsAt W g o vs) (h0 : 0 < vs.length) (ha : ArgsAt W b A L C n) : g ≠ b := by
 rintro rfl
 obtain ⟨h1, h2, _⟩ := h.at 0 h0
 unfold ArgsAt at ha
 rw [Lib.cell_of_heap ha] at h1 h2
 match o, h1, h2 with
 | 0, h1, _ => simp at h1
 | 1, _, h2 => simp at h2
 | o + 2, h1, _ => simp at h1
theorem vals_kept' {W W' : World} {g o b : Nat} {vs : List Val} (h : ValsAt W g o vs) (hg : W.grownBy W' (some b)) (hne : g ≠ b) : ValsAt W' g o vs := by
 intro j u hj
 exact kept_cell (h j u hj) hg (by rw [addr_add]; exact hne)
theorem argOk_kept {W W' : World} {a : Arg} {b L C n : Nat} {A : Option Addr} (h : ArgOk W a) (hg : W.grownBy W' (some b)) (ha : ArgsAt W b A L C n) : ArgOk W' a := by
 refine ⟨h.short, h.shorts, fun h5 => ⟨fun h0 => ?_, (h.row h5).2⟩⟩
 obtain ⟨g, o, e, hl, hv⟩ := (h.row h5).1 h0
 exact ⟨g, o, e, hl, vals_kept' hv hg (vals_ne' hv (by omega) ha)⟩
theorem within_ok (n lo hi : Int) (w : World) (h1 : lo ≤ n) (h2 : n ≤ hi) : Calls Tryz.prog 176 #[.int .i64 n, .int .i64 lo, .int .i64 hi] w fun e w' => e = .returned (.tuple #[]) ∧ w' = w := by
 have d1 : decide (n < lo) = false := decide_eq_false (by omega)
 have d2 : decide (hi < n) = false := decide_eq_false (by omega)
 go_enter Tryz.func176, Tryz.ntmps176
 go_wp2_with fail
 go_end0
 exact ⟨rfl, rfl⟩
theorem arg_size {W : World} {a : Arg} (hok : ArgOk W a) (hv : ValOk a.v a.vs) (h30 : a.items.length ≤ 30) : ∃ N n : Nat, (sizeOf a.v).1 = (N : Int) ∧ (sizeOf a.v).2 = (n : Int) ∧ 1 ≤ N ∧ 1 ≤ n ∧ N * n = a.items.length ∧ N ≤ 30 ∧ n ≤ 30 := by
 by_cases h5 : a.v.k = 5
 ·have hs := hv.size h5
  have hL := (hok.row h5).2
  have e1 : sizeOf a.v = (a.v.r, a.v.s) := by unfold sizeOf; rw [if_pos h5]
  have e3 : a.items = a.vs := by unfold Arg.items itemsOf; rw [if_pos h5]
  obtain ⟨N, hN⟩ : ∃ n : Nat, a.v.r = (n : Int) := ⟨a.v.r.toNat, by omega⟩
  obtain ⟨n, hn⟩ : ∃ n : Nat, a.v.s = (n : Int) := ⟨a.v.s.toNat, by omega⟩
  have h := hs.2.2.2.2
  rw [hN, hn, ← Int.natCast_mul] at h
  have h' : N * n = a.items.length := by rw [e3, hL]; exact Int.ofNat_inj.1 h
  have h1 : 1 ≤ N := by omega
  have h2 : 1 ≤ n := by omega
  refine ⟨N, n, by rw [e1]; exact hN, by rw [e1]; exact hn, h1, h2, h', ?_, ?_⟩
  ·exact Nat.le_trans (Nat.le_mul_of_pos_right N h2) (by omega)
  ·exact Nat.le_trans (Nat.le_mul_of_pos_left n h1) (by omega)
 ·have e1 : sizeOf a.v = (1, 1) := by unfold sizeOf; rw [if_neg h5]
  have e3 : a.items.length = 1 := by unfold Arg.items itemsOf; rw [if_neg h5]; rfl
  exact ⟨1, 1, by rw [e1]; rfl, by rw [e1]; rfl, by decide, by decide, by rw [e3], by decide, by decide⟩
def SqRet (W : World) (b : Nat) (a : Arg) : Ending → World → Prop := fun e w' =>
 ((codeOf a.items ≠ 0 ∧ e = stopped (codeOf a.items)) ∨ (codeOf a.items = 0 ∧ ¬ (allNum a.items = true ∧ (sizeOf a.v).1 = (sizeOf a.v).2) ∧ e = stopped 2) ∨
  (codeOf a.items = 0 ∧ allNum a.items = true ∧ ∃ (n bm : Nat) (gm : Nat → Nat), (sizeOf a.v).1 = (n : Int) ∧ (sizeOf a.v).2 = (n : Int) ∧ 1 ≤ n ∧ n * n = a.items.length ∧ e = .returned (.slice (some ⟨bm, 0, none⟩) n n) ∧ MxAt w' bm n n gm (matQ (qsOf a.items) n) ∧ W.heap.size ≤ bm ∧ ∀ r, r < n → W.heap.size ≤ gm r)) ∧ W.grownBy w' (some b)
theorem psquare_any (a : Arg) (b g C : Nat) (W : World) (hok : ArgOk W a) (hv : ValOk a.v a.vs) (h30 : a.items.length ≤ 30) (ha : ArgsAt W b (some ⟨g, 0, none⟩) 1 C 0) (hrow : ValsAt W g 0 [a.v]) (hne : g ≠ b) :
  Calls Tryz.prog 189 #[.pointer (some ⟨b, 0, none⟩)] W (SqRet W b a) := by
 obtain ⟨N, n, hsz1, hsz2, hN, hn, hL, hN9, hn9⟩ := arg_size hok hv h30
 have hb0 : b < W.heap.size := heap_lt ha
 have hsi := single_items hv
 have TF := hid (pfaults_one a g C W hok hsi (by omega) hrow)
 unfold CodeRet at TF
 have HOK := hid hok
 have TR := hid (fun W' (hok' : ArgOk W' a) => pread_any a N n W' hok' hsi hsz1 hsz2 hN hn hL (by omega))
 unfold ReadRet at TR
 have hrs : ((sizeOf a.v).1 = (sizeOf a.v).2) ↔ N = n := by rw [hsz1, hsz2]; omega
 have HRS := hid hrs
 have HS1 := hid hsz1
 have HS2 := hid hsz2
 have HLL := hid hL
 have H30 := hid h30
 obtain ⟨cd, hcd⟩ : ∃ z, codeOf a.items = z := ⟨_, rfl⟩
 rw [hcd] at TF
 have HCD := hid hcd
 obtain ⟨v, vs⟩ := a
 obtain ⟨vk, vn, vd, vt, vo, vc, vr, vz, vA, vL, vC⟩ := v
 have e0 : Val.agg (Arg.mk ⟨vk, vn, vd, vt, vo, vc, vr, vz, vA, vL, vC⟩ vs).v = .agg #[.int .i64 vk, .string vn, .string vd, .string vt, .bool vo, .int .i64 vc, .int .i64 vr, .int .i64 vz, .slice vA vL vC] := rfl
 rw [e0] at TR
 have TV := hid (fun W' hA hc => value_any b g 0 1 C 0 vk vn vd vt vo vc vr vz vA vL vC W' hA (by decide) (by decide) hne hc)
 have HA := hid ha
 have HRW := hid hrow
 have HB0 := hid hb0
 obtain ⟨⟨x0, x1⟩, _⟩ := two_at ha
 clear ha hrow hb0 hok hv hsi hsz1 hsz2 hL hrs e0 h30 hcd
 go_enter Tryz.func189, Tryz.ntmps189
 go_wp2_with fail
 refine TF.out.mono ?_
 rintro e w1 ⟨hor, hb⟩
 rcases hor with ⟨rfl, vq, rfl⟩ | ⟨h0, rfl⟩
 ·replace HA := hid (keep_block HA.out hb)
  replace HRW := hid (HRW.out.below hb)
  replace HOK := hid (HOK.out.below hb)
  have HG := hid (kept_below (b := b) hb)
  clear hb x0 x1 TF
  obtain ⟨⟨x0, x1⟩, _⟩ := two_at HA.out
  go_wp2_with fail
  refine (TV.out _ HA.out (HRW.out.at 0 (by simp))).mono ?_
  rintro e w2 ⟨rfl, ha, hg⟩
  have HOK2 := hid (argOk_kept HOK.out hg HA.out)
  replace HG := hid (kept_trans HG.out hg)
  have HGW := hid HG.out.size
  clear ha hg HA HRW x0 x1
  go_wp2_with fail
  refine (TR.out _ HOK2.out).mono ?_
  rintro e w3 ⟨hrr, hb⟩
  replace HG := hid (kept_trans HG.out (kept_below hb))
  rcases hrr with ⟨hal, bm, gm, rfl, hm, hbm, hgm⟩ | ⟨hal, rfl⟩
  ·have HAL := hid hal
   have HM := hid hm
   have hs := HG.out.size
   have hs2 := hb.size
   have HBM := hid (show W.heap.size ≤ bm by have := (show w2.heap.size < bm from hbm); have := HG.out.size; have h9 : W.heap.size ≤ w2.heap.size := HGW.out; omega)
   have HGM := hid (show ∀ r, r < N → W.heap.size ≤ gm r from fun r hr => by have := hgm r hr; have := HBM.out; omega)
   clear hm hbm hgm hb hs hs2 hal
   obtain ⟨C1, y0⟩ := HM.out.hd.at (show 0 < N by omega)
   by_cases hNn : N = n
   ·subst hNn
    have e1 : ((N : Int) != (N : Int)) = false := by simp
    have h5' : N ≤ 5 := by
     rcases Nat.lt_or_ge 5 N with h | h
     ·exfalso
      have := Nat.mul_le_mul h h
      have := H30.out
      have := HLL.out
      omega
     ·exact h
    have TW := hid (fun W' => within_ok (N : Int) 1 12 W' (by omega) (by omega))
    have hi1 : (0 : Int) < (N : Int) := by omega
    clear h5'
    go_wp2_with fail
    refine (TW.out _).mono ?_
    rintro e w4 ⟨rfl, hw⟩
    rw [hw]
    clear hw
    go_wp2
    refine bodyPost_ret (v := .slice (some ⟨bm, 0, none⟩) N N) (by simp [results, Tryz.results189, go_sem]) rfl ⟨.inr (.inr ⟨HCD.out, HAL.out, N, bm, gm, HS1.out, HS2.out, hN, HLL.out, rfl, HM.out, HBM.out, HGM.out⟩), HG.out⟩
   ·have e1 : ((N : Int) != (n : Int)) = true := by rw [bne_iff_ne]; omega
    have e2 : ((N : Int) == (n : Int)) = false := by rw [beq_eq_false_iff_ne]; omega
    have hi1 : (0 : Int) < (N : Int) := by omega
    have HNE := hid hNn
    clear hNn
    go_wp2_with fail
    refine (stop_code 2 _ (by decide)).mono ?_
    rintro e w6 ⟨rfl, rfl⟩
    unfold stopped
    go_wp2
    exact ⟨rfl, .inr (.inl ⟨HCD.out, fun h => HNE.out (HRS.out.1 h.2), rfl⟩), HG.out⟩
  ·have HAL := hid hal
   clear hb hal
   unfold stopped
   go_wp2
   exact ⟨rfl, .inr (.inl ⟨HCD.out, (by rintro ⟨h1, _⟩; rw [HAL.out] at h1; cases h1), rfl⟩), HG.out⟩
 ·have H0 := hid h0
  have HG := hid (kept_below (b := b) hb)
  clear hb h0 x0 x1
  unfold stopped
  go_wp2
  exact ⟨rfl, .inl ⟨by rw [HCD.out]; exact H0.out, by rw [HCD.out]; rfl⟩, HG.out⟩
def MdRet (W : World) (b : Nat) (a : Arg) : Ending → World → Prop := fun e w' =>
 ((codeOf a.items ≠ 0 ∧ e = stopped (codeOf a.items)) ∨ (codeOf a.items = 0 ∧ ¬ (allNum a.items = true ∧ (sizeOf a.v).1 = (sizeOf a.v).2) ∧ e = stopped 2) ∨
  (codeOf a.items = 0 ∧ allNum a.items = true ∧ ∃ n : Nat, (sizeOf a.v).1 = (n : Int) ∧ (sizeOf a.v).2 = (n : Int) ∧ 1 ≤ n ∧ n ≤ 5 ∧ n * n = a.items.length ∧
   ((¬ Over n (matQ (qsOf a.items) n) ∧ fits (detR n (matQ (qsOf a.items) n)) = true ∧ e = .returned (fracV (detR n (matQ (qsOf a.items) n)))) ∨
   (e = stopped 5 ∧ Over n (matQ (qsOf a.items) n))))) ∧ W.grownBy w' (some b)
theorem fit_items {a : Arg} (hv : ValOk a.v a.vs) (hn : allNum a.items = true) {n : Nat} (hL : n * n = a.items.length) : FitM n (matQ (qsOf a.items) n) := by
 intro r c hr hc
 have hlt : r * n + c < a.items.length := by
  have := Nat.mul_le_mul_right n (show r + 1 ≤ n by omega)
  rw [Nat.succ_mul] at this
  omega
 show fits ((qsOf a.items).getD (r * n + c) 0) = true
 rw [qsOf_at hlt]
 have hx := List.getElem_mem hlt
 have hk := List.all_eq_true.1 hn _ hx
 exact (valQ_spec (single_items hv _ hx) (by simpa using hk)).1
theorem pdet_any (a : Arg) (b g C : Nat) (W : World) (hok : ArgOk W a) (hv : ValOk a.v a.vs) (h30 : a.items.length ≤ 30) (ha : ArgsAt W b (some ⟨g, 0, none⟩) 1 C 0) (hrow : ValsAt W g 0 [a.v]) (hne : g ≠ b) (hE : Env W) (hP : Past b) :
  Calls Tryz.prog 187 #[.pointer (some ⟨b, 0, none⟩)] W (MdRet W b a) := by
 have hb0 : Below W.heap.size W (W.alloc (.cells #[.string ⟨#[]⟩, .string ⟨#[]⟩] 30)) := (Below.refl _ _).alloc (Nat.le_refl _) _
 have HB0 := hid (heap_lt ha)
 have HR := hid (heap_alloc_new W (.cells #[.string ⟨#[]⟩, .string ⟨#[]⟩] 30))
 have HE0 := hid hE
 have HP := hid hP
 have HV := hid hv
 have H30 := hid h30
 have TS := hid (psquare_any a b g C (W.alloc (.cells #[.string ⟨#[]⟩, .string ⟨#[]⟩] 30)) (hok.below hb0) hv h30 (keep_block ha hb0) (hrow.below hb0) hne)
 unfold SqRet at TS
 have HG := hid (kept_below (b := b) hb0)
 clear hb0 ha hok hv hrow hE hP h30
 go_enter Tryz.func187, Tryz.ntmps187
 go_wp2_with fail
 refine TS.out.mono ?_
 rintro e w1 ⟨hor, hg⟩
 replace HR := hid (kept_block HR.out hg (by have := HB0.out; omega))
 replace HG := hid (kept_trans HG.out hg)
 clear hg TS
 rcases hor with ⟨h0, rfl⟩ | ⟨h0, hn, rfl⟩ | ⟨h0, hal, n, bm, gm, hs1, hs2, hn1, hL, rfl, hm, hbm, hgm⟩
 ·have H0 := hid h0
  clear h0
  unfold stopped
  go_wp2
  exact ⟨rfl, .inl ⟨H0.out, rfl⟩, HG.out⟩
 ·have H0 := hid h0
  have HN := hid hn
  clear h0 hn
  unfold stopped
  go_wp2
  exact ⟨rfl, .inr (.inl ⟨H0.out, HN.out, rfl⟩), HG.out⟩
 ·have hs : (W.alloc (.cells #[.string ⟨#[]⟩, .string ⟨#[]⟩] 30)).heap.size = W.heap.size + 1 := by simp
  have h5 : n ≤ 5 := by
   rcases Nat.lt_or_ge 5 n with h | h
   ·exfalso
    have := Nat.mul_le_mul h h
    have := H30.out
    omega
   ·exact h
  have TE := hid (relim_any n (matQ (qsOf a.items) n) (W.heap.size + 1) bm n gm w1 hn1 h5 hm (by omega) (fun r hr => by have := hgm r hr; omega) (fit_items HV.out hal hL) (HE0.out.kept HG.out HP.out) (HE0.out.past (Nat.le_succ _)))
  unfold ElR at TE
  have H0 := hid h0
  have HAL := hid hal
  have HS1 := hid hs1
  have HS2 := hid hs2
  have HN1 := hid hn1
  have HN5 := hid h5
  have HLL := hid hL
  clear hm hbm hgm hs h0 hal hs1 hs2 hn1 h5 hL
  go_wp2_with fail
  refine TE.out.mono ?_
  rintro e w2 ⟨hret, hb⟩
  replace HR := hid ((hb.block W.heap.size (Nat.lt_succ_self _)).trans HR.out)
  replace HG := hid (below_only HG.out (hb.mono (Nat.le_succ _)))
  clear hb TE
  rcases hret with ⟨hno, hf, V, rfl⟩ | ⟨rfl, hbad⟩
  ·have HF := hid (And.intro hno hf)
   obtain ⟨q, hqd⟩ : ∃ q, detR n (matQ (qsOf a.items) n) = q := ⟨_, rfl⟩
   have HQD := hid hqd
   rw [hqd]
   clear hno hf hqd
   have hb3 : Below w2.heap.size w2 (w2.alloc (.cells #[.string (numS q), .string (denS q)] 30)) := (Below.refl _ _).alloc (Nat.le_refl _) _
   have HQ := hid (heap_alloc_new w2 (.cells #[.string (numS q), .string (denS q)] 30))
   replace HR := hid (keep_block HR.out hb3)
   replace HG := hid (kept_trans HG.out (kept_below (b := b) hb3))
   obtain ⟨⟨x0, x1⟩, f0, f1⟩ := two_at HR.out
   obtain ⟨⟨y0, y1⟩, _⟩ := two_at HQ.out
   have hset := set2_at HR.out (.string (numS q)) (.string (denS q))
   obtain ⟨⟨r0, r1⟩, _⟩ := two_at hset
   have HL := hid (below_only HG.out (put2_below (Nat.le_refl W.heap.size) (w2.alloc (.cells #[.string (numS q), .string (denS q)] 30)) (.string (numS q)) (.string (denS q))))
   clear hset hb3
   go_wp2
   refine bodyPost_ret (v := .agg #[.string (numS q), .string (denS q)]) (by simp [results, Tryz.results187, go_sem, r0, r1]) rfl ⟨.inr (.inr ⟨H0.out, HAL.out, n, HS1.out, HS2.out, HN1.out, HN5.out, HLL.out, .inl ⟨HF.out.1, HF.out.2, by rw [HQD.out]; rfl⟩⟩), HL.out⟩
  ·have HBAD := hid hbad
   clear hbad
   unfold stopped
   go_wp2
   exact ⟨rfl, .inr (.inr ⟨H0.out, HAL.out, n, HS1.out, HS2.out, HN1.out, HN5.out, HLL.out, .inr ⟨rfl, HBAD.out⟩⟩), HG.out⟩
end Num.Mt
namespace Num
open Go.RowKit Go.Lib
theorem pzeros_none (A : Option Addr) (C : Nat) (w : World) : Calls Tryz.prog 259 #[.agg #[.int .i64 0, .string ⟨#[]⟩, .string ⟨#[]⟩, .string ⟨#[]⟩, .bool false, .int .i64 0, .int .i64 0, .int .i64 0, .slice A 0 C]] w fun e w' => e = .returned (.int .i64 0) ∧ Below w.heap.size w w' := by
 have hb : Below w.heap.size w (w.alloc (.cells #[.int .i64 0, .string ⟨#[]⟩, .string ⟨#[]⟩, .string ⟨#[]⟩, .bool false, .int .i64 0, .int .i64 0, .int .i64 0, .slice A 0 C] 32)) := (Below.refl _ _).alloc (Nat.le_refl _) _
 go_enter Tryz.func259, Tryz.ntmps259
 go_wp2
 go_ret
 exact ⟨rfl, hb⟩
theorem pcheck_none (A : Option Addr) (C : Nat) (w : World) (hE : EnvR w) : Calls Tryz.prog 198 #[.agg #[.int .i64 0, .string ⟨#[]⟩, .string ⟨#[]⟩, .string ⟨#[]⟩, .bool false, .int .i64 0, .int .i64 0, .int .i64 0, .slice A 0 C]] w fun e w' => e = .returned (.int .i64 0) ∧ Below w.heap.size w w' := by
 have HX := hid (heap_alloc_new w (.cells #[.int .i64 0, .string ⟨#[]⟩, .string ⟨#[]⟩, .string ⟨#[]⟩, .bool false, .int .i64 0, .int .i64 0, .int .i64 0, .slice A 0 C] 32))
 have HL := hid (show Below w.heap.size w (w.alloc (.cells #[.int .i64 0, .string ⟨#[]⟩, .string ⟨#[]⟩, .string ⟨#[]⟩, .bool false, .int .i64 0, .int .i64 0, .int .i64 0, .slice A 0 C] 32)) from (Below.refl _ _).alloc (Nat.le_refl _) _)
 have HE := hid (hE.below HL.out)
 clear hE
 go_enter Tryz.func198, Tryz.ntmps198
 go_wp2_with fail
 refine (pzeros_none A C _).mono ?_
 rintro e W1 ⟨rfl, hb⟩
 replace HX := hid (keep_block HX.out hb)
 replace HE := hid (HE.out.below hb)
 replace HL := hid (HL.out.trans (hb.mono HL.out.size))
 clear hb
 obtain ⟨⟨x0, x1, x2, x3, x4, x5, x6, x7, x8⟩, _⟩ := nine_at HX.out
 go_wp2
 go_ret
 exact ⟨rfl, HL.out⟩
theorem pzeros_num (q : Rat) (A : Option Addr) (C : Nat) (w : World) : Calls Tryz.prog 259 #[.agg #[.int .i64 1, .string (numS q), .string (denS q), .string ⟨#[]⟩, .bool false, .int .i64 0, .int .i64 0, .int .i64 0, .slice A 0 C]] w fun e w' => e = .returned (.int .i64 0) ∧ Below w.heap.size w w' := by
 have hb : Below w.heap.size w (w.alloc (.cells #[.int .i64 1, .string (numS q), .string (denS q), .string ⟨#[]⟩, .bool false, .int .i64 0, .int .i64 0, .int .i64 0, .slice A 0 C] 32)) := (Below.refl _ _).alloc (Nat.le_refl _) _
 go_enter Tryz.func259, Tryz.ntmps259
 go_wp2
 go_ret
 exact ⟨rfl, hb⟩
theorem pcheck_num (q : Rat) (A : Option Addr) (C : Nat) (w : World) (hq : fits q = true) (hE : EnvR w) : Calls Tryz.prog 198 #[.agg #[.int .i64 1, .string (numS q), .string (denS q), .string ⟨#[]⟩, .bool false, .int .i64 0, .int .i64 0, .int .i64 0, .slice A 0 C]] w fun e w' => e = .returned (.int .i64 0) ∧ Below w.heap.size w w' := by
 have TC := hid (fun W => check_ok q W hq)
 rw [fracV_is q] at TC
 clear hq
 have HX := hid (heap_alloc_new w (.cells #[.int .i64 1, .string (numS q), .string (denS q), .string ⟨#[]⟩, .bool false, .int .i64 0, .int .i64 0, .int .i64 0, .slice A 0 C] 32))
 have HL := hid (show Below w.heap.size w (w.alloc (.cells #[.int .i64 1, .string (numS q), .string (denS q), .string ⟨#[]⟩, .bool false, .int .i64 0, .int .i64 0, .int .i64 0, .slice A 0 C] 32)) from (Below.refl _ _).alloc (Nat.le_refl _) _)
 have HE := hid (hE.below HL.out)
 clear hE
 go_enter Tryz.func198, Tryz.ntmps198
 go_wp2_with fail
 refine (pzeros_num q A C _).mono ?_
 rintro e W1 ⟨rfl, hb⟩
 replace HX := hid (keep_block HX.out hb)
 replace HE := hid (HE.out.below hb)
 replace HL := hid (HL.out.trans (hb.mono HL.out.size))
 clear hb
 obtain ⟨⟨x0, x1, x2, x3, x4, x5, x6, x7, x8⟩, _⟩ := nine_at HX.out
 go_wp2_with fail
 refine (TC.out _).mono ?_
 rintro e W2 ⟨rfl, hb⟩
 replace HL := hid (HL.out.trans (hb.mono HL.out.size))
 clear hb
 go_wp2
 go_ret
 exact ⟨rfl, HL.out⟩
theorem pzeros_text (t : ByteArray) (A : Option Addr) (C : Nat) (w : World) : Calls Tryz.prog 259 #[.agg #[.int .i64 2, .string ⟨#[]⟩, .string ⟨#[]⟩, .string t, .bool false, .int .i64 0, .int .i64 0, .int .i64 0, .slice A 0 C]] w fun e w' => e = .returned (.int .i64 0) ∧ Below w.heap.size w w' := by
 have hb : Below w.heap.size w (w.alloc (.cells #[.int .i64 2, .string ⟨#[]⟩, .string ⟨#[]⟩, .string t, .bool false, .int .i64 0, .int .i64 0, .int .i64 0, .slice A 0 C] 32)) := (Below.refl _ _).alloc (Nat.le_refl _) _
 go_enter Tryz.func259, Tryz.ntmps259
 go_wp2
 go_ret
 exact ⟨rfl, hb⟩
theorem pcheck_text (t : ByteArray) (A : Option Addr) (C : Nat) (w : World) (ht : TextGood t) (hE : EnvR w) : Calls Tryz.prog 198 #[.agg #[.int .i64 2, .string ⟨#[]⟩, .string ⟨#[]⟩, .string t, .bool false, .int .i64 0, .int .i64 0, .int .i64 0, .slice A 0 C]] w fun e w' => e = .returned (.int .i64 0) ∧ Below w.heap.size w w' := by
 have HT := hid ht
 clear ht
 have HX := hid (heap_alloc_new w (.cells #[.int .i64 2, .string ⟨#[]⟩, .string ⟨#[]⟩, .string t, .bool false, .int .i64 0, .int .i64 0, .int .i64 0, .slice A 0 C] 32))
 have HL := hid (show Below w.heap.size w (w.alloc (.cells #[.int .i64 2, .string ⟨#[]⟩, .string ⟨#[]⟩, .string t, .bool false, .int .i64 0, .int .i64 0, .int .i64 0, .slice A 0 C] 32)) from (Below.refl _ _).alloc (Nat.le_refl _) _)
 have HE := hid (hE.below HL.out)
 clear hE
 go_enter Tryz.func198, Tryz.ntmps198
 go_wp2_with fail
 refine (pzeros_text t A C _).mono ?_
 rintro e W1 ⟨rfl, hb⟩
 replace HX := hid (keep_block HX.out hb)
 replace HE := hid (HE.out.below hb)
 replace HL := hid (HL.out.trans (hb.mono HL.out.size))
 clear hb
 obtain ⟨⟨x0, x1, x2, x3, x4, x5, x6, x7, x8⟩, _⟩ := nine_at HX.out
 go_wp2_with fail
 refine (text_good t _ HT.out HE.out.tabs HE.out.room.2).mono ?_
 rintro e W2 ⟨rfl, hb⟩
 replace HL := hid (HL.out.trans (hb.mono HL.out.size))
 clear hb
 go_wp2
 go_ret
 exact ⟨rfl, HL.out⟩
theorem pzeros_bool (on : Bool) (A : Option Addr) (C : Nat) (w : World) : Calls Tryz.prog 259 #[.agg #[.int .i64 3, .string ⟨#[]⟩, .string ⟨#[]⟩, .string ⟨#[]⟩, .bool on, .int .i64 0, .int .i64 0, .int .i64 0, .slice A 0 C]] w fun e w' => e = .returned (.int .i64 0) ∧ Below w.heap.size w w' := by
 have hb : Below w.heap.size w (w.alloc (.cells #[.int .i64 3, .string ⟨#[]⟩, .string ⟨#[]⟩, .string ⟨#[]⟩, .bool on, .int .i64 0, .int .i64 0, .int .i64 0, .slice A 0 C] 32)) := (Below.refl _ _).alloc (Nat.le_refl _) _
 go_enter Tryz.func259, Tryz.ntmps259
 go_wp2
 go_ret
 exact ⟨rfl, hb⟩
theorem pcheck_bool (on : Bool) (A : Option Addr) (C : Nat) (w : World) (hE : EnvR w) : Calls Tryz.prog 198 #[.agg #[.int .i64 3, .string ⟨#[]⟩, .string ⟨#[]⟩, .string ⟨#[]⟩, .bool on, .int .i64 0, .int .i64 0, .int .i64 0, .slice A 0 C]] w fun e w' => e = .returned (.int .i64 0) ∧ Below w.heap.size w w' := by
 have HX := hid (heap_alloc_new w (.cells #[.int .i64 3, .string ⟨#[]⟩, .string ⟨#[]⟩, .string ⟨#[]⟩, .bool on, .int .i64 0, .int .i64 0, .int .i64 0, .slice A 0 C] 32))
 have HL := hid (show Below w.heap.size w (w.alloc (.cells #[.int .i64 3, .string ⟨#[]⟩, .string ⟨#[]⟩, .string ⟨#[]⟩, .bool on, .int .i64 0, .int .i64 0, .int .i64 0, .slice A 0 C] 32)) from (Below.refl _ _).alloc (Nat.le_refl _) _)
 have HE := hid (hE.below HL.out)
 clear hE
 go_enter Tryz.func198, Tryz.ntmps198
 go_wp2_with fail
 refine (pzeros_bool on A C _).mono ?_
 rintro e W1 ⟨rfl, hb⟩
 replace HX := hid (keep_block HX.out hb)
 replace HE := hid (HE.out.below hb)
 replace HL := hid (HL.out.trans (hb.mono HL.out.size))
 clear hb
 obtain ⟨⟨x0, x1, x2, x3, x4, x5, x6, x7, x8⟩, _⟩ := nine_at HX.out
 go_wp2
 go_ret
 exact ⟨rfl, HL.out⟩
theorem pzeros_fault (c : Int) (A : Option Addr) (C : Nat) (w : World) : Calls Tryz.prog 259 #[.agg #[.int .i64 4, .string ⟨#[]⟩, .string ⟨#[]⟩, .string ⟨#[]⟩, .bool false, .int .i64 c, .int .i64 0, .int .i64 0, .slice A 0 C]] w fun e w' => e = .returned (.int .i64 0) ∧ Below w.heap.size w w' := by
 have hb : Below w.heap.size w (w.alloc (.cells #[.int .i64 4, .string ⟨#[]⟩, .string ⟨#[]⟩, .string ⟨#[]⟩, .bool false, .int .i64 c, .int .i64 0, .int .i64 0, .slice A 0 C] 32)) := (Below.refl _ _).alloc (Nat.le_refl _) _
 go_enter Tryz.func259, Tryz.ntmps259
 go_wp2
 go_ret
 exact ⟨rfl, hb⟩
theorem pcheck_fault (c : Int) (A : Option Addr) (C : Nat) (w : World) (h1 : 1 ≤ c) (h2 : c ≤ 8) (hE : EnvR w) : Calls Tryz.prog 198 #[.agg #[.int .i64 4, .string ⟨#[]⟩, .string ⟨#[]⟩, .string ⟨#[]⟩, .bool false, .int .i64 c, .int .i64 0, .int .i64 0, .slice A 0 C]] w fun e w' => e = .returned (.int .i64 0) ∧ Below w.heap.size w w' := by
 have HX := hid (heap_alloc_new w (.cells #[.int .i64 4, .string ⟨#[]⟩, .string ⟨#[]⟩, .string ⟨#[]⟩, .bool false, .int .i64 c, .int .i64 0, .int .i64 0, .slice A 0 C] 32))
 have HL := hid (show Below w.heap.size w (w.alloc (.cells #[.int .i64 4, .string ⟨#[]⟩, .string ⟨#[]⟩, .string ⟨#[]⟩, .bool false, .int .i64 c, .int .i64 0, .int .i64 0, .slice A 0 C] 32)) from (Below.refl _ _).alloc (Nat.le_refl _) _)
 have HE := hid (hE.below HL.out)
 clear hE
 go_enter Tryz.func198, Tryz.ntmps198
 go_wp2_with fail
 refine (pzeros_fault c A C _).mono ?_
 rintro e W1 ⟨rfl, hb⟩
 replace HX := hid (keep_block HX.out hb)
 replace HE := hid (HE.out.below hb)
 replace HL := hid (HL.out.trans (hb.mono HL.out.size))
 clear hb
 obtain ⟨⟨x0, x1, x2, x3, x4, x5, x6, x7, x8⟩, _⟩ := nine_at HX.out
 go_wp2_with fail
 refine (faultText_any c h1 h2 _ HE.out.env).mono ?_
 rintro e W2 ⟨t, rfl, ht, hw⟩
 have hw2 := hw.symm
 subst hw2
 go_wp2
 go_ret
 exact ⟨rfl, HL.out⟩
theorem pcheck_single (x : Val) (w : World) (h : SingleOk x) (hE : EnvR w) : Calls Tryz.prog 198 #[x.agg] w fun e w' => e = .returned (.int .i64 0) ∧ Below w.heap.size w w' := by
 have h0 := h.form.k0
 have h5 := h.form.k5
 have h1 := h.one
 have hnum := h.form.num; have htext := h.form.text; have hon := h.form.on; have hcode := h.form.code
 obtain ⟨hr, hs, hl⟩ := h.form.items.resolve_left h1
 have hq := h.num; have ht := h.text; have hc := h.code
 clear h
 obtain ⟨k, n, d, t, on, c, r, s, A, L, C⟩ := x
 simp only at h0 h5 h1 hnum htext hon hcode hr hs hl hq ht hc
 subst hr; subst hs; subst hl
 rcases (show k = 0 ∨ k = 1 ∨ k = 2 ∨ k = 3 ∨ k = 4 by omega) with hk | hk | hk | hk | hk <;> subst hk
 ·obtain ⟨rfl, rfl⟩ := hnum.resolve_left (by decide)
  obtain rfl := htext.resolve_left (by decide)
  obtain rfl := hon.resolve_left (by decide)
  obtain rfl := hcode.resolve_left (by decide)
  exact pcheck_none A C w hE
 ·obtain ⟨q, hf, rfl, rfl⟩ := hq rfl
  obtain rfl := htext.resolve_left (by decide)
  obtain rfl := hon.resolve_left (by decide)
  obtain rfl := hcode.resolve_left (by decide)
  exact pcheck_num q A C w hf hE
 ·obtain ⟨rfl, rfl⟩ := hnum.resolve_left (by decide)
  obtain rfl := hon.resolve_left (by decide)
  obtain rfl := hcode.resolve_left (by decide)
  exact pcheck_text t A C w (ht rfl) hE
 ·obtain ⟨rfl, rfl⟩ := hnum.resolve_left (by decide)
  obtain rfl := htext.resolve_left (by decide)
  obtain rfl := hcode.resolve_left (by decide)
  exact pcheck_bool on A C w hE
 ·obtain ⟨rfl, rfl⟩ := hnum.resolve_left (by decide)
  obtain rfl := htext.resolve_left (by decide)
  obtain rfl := hon.resolve_left (by decide)
  exact pcheck_fault c A C w (hc rfl).1 (hc rfl).2 hE
end Num
namespace Num
open Go.RowKit Go.Lib
theorem parray_ok (vs : List Val) (r s : Int) (g o L C : Nat) (w : World) (hr : 1 ≤ r) (hr9 : r ≤ 100000) (hs : 1 ≤ s) (hs9 : s ≤ 100000) (hrs : r * s = (L : Int)) (hL : vs.length = L) (h9 : L ≤ 100000) (hx : ∀ x ∈ vs, SingleOk x) (hv : ValsAt w g o vs) (hE : EnvR w) :
  Calls Tryz.prog 262 #[.agg #[.int .i64 5, .string ⟨#[]⟩, .string ⟨#[]⟩, .string ⟨#[]⟩, .bool false, .int .i64 0, .int .i64 r, .int .i64 s, .slice (some ⟨g, o, none⟩) L C]] w fun e w' => e = .returned (.int .i64 0) ∧ Below w.heap.size w w' := by
 have hb : Below w.heap.size w (w.alloc (.cells #[.int .i64 5, .string ⟨#[]⟩, .string ⟨#[]⟩, .string ⟨#[]⟩, .bool false, .int .i64 0, .int .i64 r, .int .i64 s, .slice (some ⟨g, o, none⟩) L C] 32)) := (Below.refl _ _).alloc (Nat.le_refl _) _
 have HB0 := hid hb
 have HV := hid hv; have HE := hid hE; have HX := hid hx; have HLL := hid hL
 have d1 : decide (r < 1) = false := decide_eq_false (by omega)
 have d2 : decide (100000 < r) = false := decide_eq_false (by omega)
 have d3 : decide (s < 1) = false := decide_eq_false (by omega)
 have d4 : decide (100000 < s) = false := decide_eq_false (by omega)
 have d5 : decide (100000 < (L : Int)) = false := decide_eq_false (by omega)
 have hwr : IntKind.i64.wrap (L : Int) = (L : Int) := IntWalk.i64_in _ (by omega)
 clear hb hv hE hx hL
 go_enter Tryz.func262, Tryz.ntmps262
 go_wp2_with fail
 go_loopg [42] L (fun gh v42 wx => ∃ k : Nat, v42 = .int .i64 (k : Int) ∧ k ≤ L ∧ gh = L - k ∧ Below w.heap.size w wx)
 case atStart => exact ⟨0, rfl, Nat.zero_le _, rfl, HB0.out⟩
 case round =>
  obtain ⟨j, rfl, hj, rfl, hbx⟩ := hrel
  have HBX := hid hbx
  clear hbx hrs hwr
  by_cases hjl : j < L
  ·have hd : decide ((j : Int) < (L : Int)) = true := decide_eq_true (by omega)
   have hd2 : decide (j < L) = true := decide_eq_true hjl
   have hji : j < vs.length := by rw [HLL.out]; exact hjl
   have hcells := (HV.out.below HBX.out).at j hji
   have TC := hid (fun W (gg : EnvR W) => pcheck_single vs[j] W (HX.out _ (List.getElem_mem hji)) gg)
   have h1 := (HX.out _ (List.getElem_mem hji)).one
   obtain ⟨x, hx⟩ : ∃ x, vs[j] = x := ⟨_, rfl⟩
   rw [hx] at hcells TC h1
   clear hx
   obtain ⟨zk, zn, zd, zt, zo, zc, zr, zs, zA, zL, zC⟩ := x
   have h1 : zk ≠ 5 := h1
   have q5 : (zk == 5) = false := by rw [beq_eq_false_iff_ne]; exact h1
   have hcells : CellsAt wr g (o + j * 9) (.int .i64 zk) (.string zn) (.string zd) (.string zt) (.bool zo) (.int .i64 zc) (.int .i64 zr) (.int .i64 zs) (.slice zA zL zC) := hcells
   obtain ⟨c0, c1, c2, c3, c4, c5, c6, c7, c8⟩ := hcells
   have e0 : Val.agg ⟨zk, zn, zd, zt, zo, zc, zr, zs, zA, zL, zC⟩ = .agg #[.int .i64 zk, .string zn, .string zd, .string zt, .bool zo, .int .i64 zc, .int .i64 zr, .int .i64 zs, .slice zA zL zC] := rfl
   rw [e0] at TC
   have hi0 : (0 : Int) ≤ (j : Int) := by omega
   have hi1 : (j : Int) < (L : Int) := by omega
   have HB2 := hid (HBX.out.trans (((Below.refl wr.heap.size wr).alloc (Nat.le_refl _) (.cells #[.int .i64 zk, .string zn, .string zd, .string zt, .bool zo, .int .i64 zc, .int .i64 zr, .int .i64 zs, .slice zA zL zC] 32)).mono HBX.out.size))
   clear h1 e0
   go_wp2_with fail
   refine (TC.out _ (HE.out.below HB2.out)).mono ?_
   rintro e w2 ⟨rfl, hb⟩
   have HB3 := hid (HB2.out.trans (hb.mono HB2.out.size))
   clear hb c0 c1 c2 c3 c4 c5 c6 c7 c8
   go_wp2
   go_roundg (L - (j + 1))
   case measure => omega
   case rel => exact ⟨j + 1, by go_num, by omega, by omega, HB3.out⟩
  ·have hd : decide ((j : Int) < (L : Int)) = false := decide_eq_false (by omega)
   have hd2 : decide (j < L) = false := decide_eq_false hjl
   clear hjl
   go_wp2
   go_ret
   exact ⟨rfl, HBX.out⟩
theorem pcheck_arr (vs : List Val) (r s : Int) (g o L C : Nat) (w : World) (hr : 1 ≤ r) (hr9 : r ≤ 100000) (hs : 1 ≤ s) (hs9 : s ≤ 100000) (hrs : r * s = (L : Int)) (hL : vs.length = L) (h9 : L ≤ 100000) (hx : ∀ x ∈ vs, SingleOk x) (hv : ValsAt w g o vs) (hE : EnvR w) :
  Calls Tryz.prog 198 #[.agg #[.int .i64 5, .string ⟨#[]⟩, .string ⟨#[]⟩, .string ⟨#[]⟩, .bool false, .int .i64 0, .int .i64 r, .int .i64 s, .slice (some ⟨g, o, none⟩) L C]] w fun e w' => e = .returned (.int .i64 0) ∧ Below w.heap.size w w' := by
 have TA := hid (fun W (hvv : ValsAt W g o vs) gg => parray_ok vs r s g o L C W hr hr9 hs hs9 hrs hL h9 hx hvv gg)
 have TZ := hid (fun W => zeros_arr r s (some ⟨g, o, none⟩) L C W)
 have HX := hid (heap_alloc_new w (.cells #[.int .i64 5, .string ⟨#[]⟩, .string ⟨#[]⟩, .string ⟨#[]⟩, .bool false, .int .i64 0, .int .i64 r, .int .i64 s, .slice (some ⟨g, o, none⟩) L C] 32))
 have HL := hid (show Below w.heap.size w (w.alloc (.cells #[.int .i64 5, .string ⟨#[]⟩, .string ⟨#[]⟩, .string ⟨#[]⟩, .bool false, .int .i64 0, .int .i64 r, .int .i64 s, .slice (some ⟨g, o, none⟩) L C] 32)) from (Below.refl _ _).alloc (Nat.le_refl _) _)
 have HE := hid (hE.below HL.out)
 have HV := hid (hv.below HL.out)
 clear hE hv hr hr9 hs hs9 hrs h9 hL hx
 go_enter Tryz.func198, Tryz.ntmps198
 go_wp2_with fail
 refine (TZ.out _).mono ?_
 rintro e W1 ⟨rfl, hb⟩
 replace HX := hid (keep_block HX.out hb)
 replace HE := hid (HE.out.below hb)
 replace HV := hid (HV.out.below hb)
 replace HL := hid (HL.out.trans (hb.mono HL.out.size))
 clear hb
 obtain ⟨⟨x0, x1, x2, x3, x4, x5, x6, x7, x8⟩, _⟩ := nine_at HX.out
 go_wp2_with fail
 refine (TA.out _ HV.out HE.out).mono ?_
 rintro e W2 ⟨rfl, hb⟩
 replace HL := hid (HL.out.trans (hb.mono HL.out.size))
 clear hb
 go_wp2
 go_ret
 exact ⟨rfl, HL.out⟩
theorem pcheck_any (v : Val) (vs : List Val) (w : World) (h : ValOk v vs) (hv : v.k = 5 → ItemsAt w v vs) (h9 : v.k = 5 → v.L ≤ 100000) (hE : EnvR w) :
  Calls Tryz.prog 198 #[v.agg] w fun e w' => e = .returned (.int .i64 0) ∧ Below w.heap.size w w' := by
 by_cases h5 : v.k = 5
 ·obtain ⟨z1, z2, z3, z4, z5⟩ := h.size h5
  have hm1 : 1 ≤ v.r * v.s := Int.le_trans (by omega : (1 : Int) ≤ 1 * 1) (Int.mul_le_mul z1 z3 (by omega) (by omega))
  obtain ⟨g, o, hA, hl, hvals⟩ := hv h5 (by omega)
  have hn := h.form.num.resolve_left (by omega)
  have ht := h.form.text.resolve_left (by omega)
  have ho := h.form.on.resolve_left (by omega)
  have hc := h.form.code.resolve_left (by omega)
  have hit := h.items h5
  have h9L := h9 h5
  obtain ⟨k, n, d, t, on, c, r, s, A, L, C⟩ := v
  simp only at h5 hn ht ho hc hA hl z1 z2 z3 z4 z5 h9L
  obtain ⟨rfl, rfl⟩ := hn
  subst h5; subst ht; subst ho; subst hc; subst hA
  exact pcheck_arr vs r s g o L C w z1 z2 z3 z4 z5 hl h9L hit hvals hE
 ·exact pcheck_single v w (h.single h5) hE
end Num
namespace Num
open Go.RowKit Go.Lib
theorem put3_low {B G : Nat} (h : B ≤ G) (W : World) (x y z : Value) : Below B W (((W.setCell ⟨G, 0, none⟩ x).setCell ⟨G, 1, none⟩ y).setCell ⟨G, 2, none⟩ z) :=
 (((Below.refl _ _).setCell (p := ⟨G, 0, none⟩) h x).setCell (p := ⟨G, 1, none⟩) h y).setCell (p := ⟨G, 2, none⟩) h z
theorem find_row (i : Nat) (r : Row) (hi : i < allRows.length) (hr : allRows[i] = r) (hfr : ∀ j (hj : j < i), (allRows[i].name == (allRows[j]'(by omega)).name) = false) (b : Nat) (w : World) (hT : TableAt w b allRows) :
  Calls Tryz.prog 25 #[.map (some b), .string r.name] w fun e w' => e = .returned (.tuple #[.agg #[.int .i64 r.least, .int .i64 r.most, .string r.kinds], .bool true]) ∧ Below w.heap.size w w' := by
 have hb : Below w.heap.size w (w.alloc (.cells #[.int .i64 0, .int .i64 0, .string ⟨#[]⟩] 44)) := (Below.refl _ _).alloc (Nat.le_refl _) _
 have HR := hid (heap_alloc_new w (.cells #[.int .i64 0, .int .i64 0, .string ⟨#[]⟩] 44))
 obtain ⟨v, hrf, hrun⟩ := (hT.below hb).look i hi hfr Tryz.underlying53 Tryz.underlying9
 rw [hr] at hrf hrun
 obtain ⟨e0, rfl, _⟩ := rowFn_at hrf
 have HL := hid hb
 obtain ⟨name, least, most, kinds, num, F⟩ := r
 simp only at hrun ⊢
 clear hT hr hfr hi hb hrf
 have hst : ∀ (a : Addr) (fn : Fn) (f c : Array Value) (m : Mode) (w : World), (store a (.func fn f c) m).run Tryz.prog w = stored Tryz.prog w a (.func fn f c) m := fun _ _ _ _ _ _ => run_store _ _ _ _ _ rfl
 go_enter Tryz.func25, Tryz.ntmps25
 go_wp2_with fail
 have hb1 : Below w.heap.size w (w.alloc (.cells #[.int .i64 least, .int .i64 most, .string kinds] 44)) := (Below.refl _ _).alloc (Nat.le_refl _) _
 have hb2 := hb1.alloc hb1.size (.cells #[.int .i64 least, .int .i64 most, .string kinds, .func (.func 154) #[] #[.pointer (some ⟨e0, 0, none⟩)]] 99)
 have hF := keep_block (heap_alloc_new w (.cells #[.int .i64 least, .int .i64 most, .string kinds] 44)) ((Below.refl (w.alloc (.cells #[.int .i64 least, .int .i64 most, .string kinds] 44)).heap.size _).alloc (Nat.le_refl _) (.cells #[.int .i64 least, .int .i64 most, .string kinds, .func (.func 154) #[] #[.pointer (some ⟨e0, 0, none⟩)]] 99))
 obtain ⟨⟨r0, r1, r2⟩, _⟩ := three_at hF
 refine bodyPost_ret (v := .tuple #[.agg #[.int .i64 least, .int .i64 most, .string kinds], .bool true]) (by simp [results, Tryz.results25, go_sem, r0, r1, r2]) rfl ⟨rfl, hb2⟩
theorem params_row (i : Nat) (r : Row) (hi : i < allRows.length) (hr : allRows[i] = r) (hfr : ∀ j (hj : j < i), (allRows[i].name == (allRows[j]'(by omega)).name) = false) (w : World) :
  Calls Tryz.prog 11 #[.string r.name] w fun e w' => e = .returned (.tuple #[.agg #[.int .i64 r.least, .int .i64 r.most, .string r.kinds], .bool true]) ∧ Below w.heap.size w w' := by
 have hb : Below w.heap.size w (w.alloc (.cells #[.int .i64 0, .int .i64 0, .string ⟨#[]⟩] 44)) := (Below.refl _ _).alloc (Nat.le_refl _) _
 have HR := hid (heap_alloc_new w (.cells #[.int .i64 0, .int .i64 0, .string ⟨#[]⟩] 44))
 have HL := hid hb
 have TF := hid (fun b W hT => find_row i r hi hr hfr b W hT)
 obtain ⟨name, least, most, kinds, num, F⟩ := r
 simp only at TF ⊢
 clear hr hfr hi hb
 go_enter Tryz.func11, Tryz.ntmps11
 go_wp2_with fail
 refine (table_any _).mono ?_
 rintro e W1 ⟨b, rfl, ht, hb⟩
 have HT := hid ht
 clear ht
 replace HR := hid (keep_block HR.out hb)
 replace HL := hid (HL.out.trans (hb.mono HL.out.size))
 clear hb
 go_wp2_with fail
 refine (TF.out _ _ HT.out).mono ?_
 rintro e W2 ⟨rfl, hb⟩
 replace HR := hid (keep_block HR.out hb)
 replace HL := hid (HL.out.trans (hb.mono HL.out.size))
 clear hb
 obtain ⟨⟨r0, r1, r2⟩, g0, g1, g2⟩ := three_at HR.out
 have hF := set3_at HR.out (.int .i64 least) (.int .i64 most) (.string kinds)
 obtain ⟨⟨z0, z1, z2⟩, _⟩ := three_at hF
 have HL2 := hid (HL.out.trans (put3_low (Nat.le_refl w.heap.size) W2 (.int .i64 least) (.int .i64 most) (.string kinds)))
 clear hF
 go_wp2
 refine bodyPost_ret (v := .tuple #[.agg #[.int .i64 least, .int .i64 most, .string kinds], .bool true]) (by simp [results, Tryz.results11, go_sem, z0, z1, z2]) rfl ⟨rfl, HL2.out⟩
def MdVal (a : Arg) (rv : Val) : Prop :=
 (codeOf a.items ≠ 0 ∧ rv = faultVal' (codeOf a.items)) ∨ (codeOf a.items = 0 ∧ ¬ (allNum a.items = true ∧ (sizeOf a.v).1 = (sizeOf a.v).2) ∧ rv = faultVal' 2) ∨
 (codeOf a.items = 0 ∧ allNum a.items = true ∧ (sizeOf a.v).1 = (sizeOf a.v).2 ∧ ∃ n : Nat, (sizeOf a.v).1 = (n : Int) ∧ 1 ≤ n ∧ n ≤ 5 ∧ n * n = a.items.length ∧
  ((¬ Over n (matQ (Mt.qsOf a.items) n) ∧ fits (detR n (matQ (Mt.qsOf a.items) n)) = true ∧ rv = numVal' (detR n (matQ (Mt.qsOf a.items) n))) ∨ (Over n (matQ (Mt.qsOf a.items) n) ∧ rv = faultVal' 5)))
theorem codeOf_in : ∀ {l : List Val}, (∀ x ∈ l, SingleOk x) → codeOf l ≠ 0 → 1 ≤ codeOf l ∧ codeOf l ≤ 8
 | [], _, h => absurd rfl h
 | x :: t, hs, h => by
  have e : codeOf (x :: t) = if x.k = 4 then x.c else codeOf t := rfl
  rw [e] at h ⊢
  by_cases h4 : x.k = 4
  ·rw [if_pos h4]; exact (hs x (by simp)).code h4
  ·rw [if_neg h4] at h ⊢
   exact codeOf_in (fun y hy => hs y (by simp [hy])) h
theorem mdrow (a : Arg) (b g C' : Nat) (w : World) (hok : ArgOk w a) (hv : ValOk a.v a.vs) (hfew : a.items.length ≤ 30) (hrow : ValsAt w g 0 [a.v]) (hE : EnvR w) (hT : TableAt w b allRows) :
  ∃ rv, MdVal a rv ∧ Calls Tryz.prog 27 #[.map (some b), .string ⟨#[77, 68, 69, 84, 69, 82, 77]⟩, .slice (some ⟨g, 0, none⟩) 1 C'] w fun e w' => e = .returned (.tuple #[rv.agg, .int .i64 0]) ∧ Below w.heap.size w w' := by
 have hchk : ∀ v ∈ [a.v], ∀ W, Below w.heap.size w W → Calls Tryz.prog 198 #[v.agg] W fun e w' => e = .returned (.int .i64 0) ∧ Below W.heap.size W w' := by
  intro v hvm W hb
  obtain rfl : v = a.v := by simpa using hvm
  refine pcheck_any a.v a.vs W hv (fun h5 => ((hok.row h5).1).below hb) (fun h5 => ?_) (hE.below hb)
  have h1 := (hok.row h5).2
  have h2 : a.items = a.vs := by unfold Arg.items itemsOf; rw [if_pos h5]
  rw [h2] at hfew
  omega
 have hst : ∀ c : Int, 1 ≤ c → c ≤ 8 → (∀ W b g' C, Below w.heap.size w W → Env W → Past b → ArgsAt W b (some ⟨g', 0, none⟩) 1 C 0 → ValsAt W g' 0 [a.v] → g' ≠ b → Calls Tryz.prog 187 #[.pointer (some ⟨b, 0, none⟩)] W fun e w' => e = stopped c ∧ W.grownBy w' (some b)) →
   Calls Tryz.prog 27 #[.map (some b), .string ⟨#[77, 68, 69, 84, 69, 82, 77]⟩, .slice (some ⟨g, 0, none⟩) 1 C'] w fun e w' => e = .returned (.tuple #[(faultVal' c).agg, .int .i64 0]) ∧ Below w.heap.size w w' := fun c h1 h2 hF =>
  run_a_stop 34 ⟨⟨#[77, 68, 69, 84, 69, 82, 77]⟩, 1, 1, ⟨#[97]⟩, true, 187⟩ (by decide) rfl rfl (fr_of 34 (by decide) (by kernel_rfl)) [a.v] b g 0 C' c w (Nat.zero_lt_one) (show 1 ≤ 300 by decide) (show (1 : Int) ≤ 1 from by decide) (show (1 : Int) ≤ 1 from by decide) hrow hE.env hT h1 h2 hchk
   (fun W e g' cap hb hE' hfn hva => entry1_stop _ g' cap e [a.v] c W rfl hfn (enters_of Tryz.func187 (by kernel_rfl) rfl) hE' hva (fun W' b' hb' hE'' hP hlt ha hva' hne => hF W' b' g' cap (hb.trans (hb'.mono hb.size)) hE'' hP ha hva' hne) Nat.zero_lt_one)
 have hmd : ∀ W b g' C, Below w.heap.size w W → Env W → Past b → ArgsAt W b (some ⟨g', 0, none⟩) 1 C 0 → ValsAt W g' 0 [a.v] → g' ≠ b → Calls Tryz.prog 187 #[.pointer (some ⟨b, 0, none⟩)] W (Mt.MdRet W b a) := fun W b g' C hb hE' hP ha hva hne =>
  Mt.pdet_any a b g' C W (hok.below hb) hv hfew ha hva hne hE' hP
 have hsi := single_items hv
 by_cases h0 : codeOf a.items = 0
 ·by_cases hsq : allNum a.items = true ∧ (sizeOf a.v).1 = (sizeOf a.v).2
  ·obtain ⟨N, n, e1, e2, hN1, hn1, hL, hN9, hn9⟩ := Mt.arg_size hok hv hfew
   have hnn : N = n := by have := hsq.2; omega
   subst hnn
   have h5 : N ≤ 5 := by
    rcases Nat.lt_or_ge 5 N with h | h
    ·exfalso
     have := Nat.mul_le_mul h h
     omega
    ·exact h
   by_cases hov : Over N (matQ (Mt.qsOf a.items) N)
   ·refine ⟨faultVal' 5, .inr (.inr ⟨h0, hsq.1, hsq.2, N, e1, hN1, h5, hL, .inr ⟨hov, rfl⟩⟩), hst 5 (by decide) (by decide) (fun W b g' C hb hE' hP ha hva hne => (hmd W b g' C hb hE' hP ha hva hne).mono ?_)⟩
    rintro e w' ⟨hor, hg⟩
    refine ⟨?_, hg⟩
    rcases hor with ⟨h, _⟩ | ⟨_, h, _⟩ | ⟨_, _, n', e1', _, _, _, _, h⟩
    ·exact absurd h0 h
    ·exact absurd hsq h
    ·obtain rfl : N = n' := by omega
     rcases h with ⟨h, _⟩ | ⟨h, _⟩
     ·exact absurd hov h
     ·exact h
   ·by_cases hfd : fits (detR N (matQ (Mt.qsOf a.items) N)) = true
    ·refine ⟨numVal' (detR N (matQ (Mt.qsOf a.items) N)), .inr (.inr ⟨h0, hsq.1, hsq.2, N, e1, hN1, h5, hL, .inl ⟨hov, hfd, rfl⟩⟩), ?_⟩
     refine run_a_val 34 ⟨⟨#[77, 68, 69, 84, 69, 82, 77]⟩, 1, 1, ⟨#[97]⟩, true, 187⟩ (by decide) rfl rfl (fr_of 34 (by decide) (by kernel_rfl)) [a.v] b g 0 C' (numVal' (detR N (matQ (Mt.qsOf a.items) N))) w (Nat.zero_lt_one) (show 1 ≤ 300 by decide) (show (1 : Int) ≤ 1 from by decide) (show (1 : Int) ≤ 1 from by decide) hrow hE.env hT ⟨rfl, rfl, rfl, rfl, rfl⟩ (fun W hg => check_num _ W hfd hg) hchk
      (fun W e g' cap hb hE' hfn hva => entry1_val _ g' cap e [a.v] _ W rfl hfn (enters_of Tryz.func187 (by kernel_rfl) rfl) hE' hva hfd (fun W' b' hb' hE'' hP hlt ha hva' hne => (hmd W' b' g' cap (hb.trans (hb'.mono hb.size)) hE'' hP ha hva' hne).mono ?_) Nat.zero_lt_one)
     rintro e w' ⟨hor, hg⟩
     refine ⟨?_, hg⟩
     rcases hor with ⟨h, _⟩ | ⟨_, h, _⟩ | ⟨_, _, n', e1', _, _, _, _, h⟩
     ·exact absurd h0 h
     ·exact absurd hsq h
     ·obtain rfl : N = n' := by omega
      rcases h with ⟨_, _, h⟩ | ⟨_, h⟩
      ·exact h
      ·exact absurd h hov
    ·exact absurd (det_fits h5 (fits_int 1 (by decide)) fits_zero hov) hfd
  ·refine ⟨faultVal' 2, .inr (.inl ⟨h0, hsq, rfl⟩), hst 2 (by decide) (by decide) (fun W b g' C hb hE' hP ha hva hne => (hmd W b g' C hb hE' hP ha hva hne).mono ?_)⟩
   rintro e w' ⟨hor, hg⟩
   refine ⟨?_, hg⟩
   rcases hor with ⟨h, _⟩ | ⟨_, _, h⟩ | ⟨_, h1, n', e1', e2', _⟩
   ·exact absurd h0 h
   ·exact h
   ·exact absurd ⟨h1, e1'.trans e2'.symm⟩ hsq
 ·obtain ⟨c1, c2⟩ := codeOf_in hsi h0
  refine ⟨faultVal' (codeOf a.items), .inl ⟨h0, rfl⟩, hst _ c1 c2 (fun W b g' C hb hE' hP ha hva hne => (hmd W b g' C hb hE' hP ha hva hne).mono ?_)⟩
  rintro e w' ⟨hor, hg⟩
  refine ⟨?_, hg⟩
  rcases hor with ⟨_, h⟩ | ⟨h, _⟩ | ⟨h, _⟩
  ·exact h
  ·exact absurd h h0
  ·exact absurd h h0
end Num
namespace Num
open Go.RowKit Go.Lib
def kindS (kinds : ByteArray) (i : Nat) : Bool := (kinds.data.toList.getD (min i (kinds.size - 1)) 0).toNat == 115
def PrepRet (w : World) (kinds : ByteArray) (args : List Arg) (N : Nat) : Ending → World → Prop := fun e w' =>
 ∃ sl b, e = .returned (.tuple #[sl, .bool b]) ∧ Below w.heap.size w w' ∧ (b = true → ∃ outs : List Arg, outs.length = N ∧ (∀ i (h : i < outs.length), PrepOk (kindS kinds i) (argAt args i) outs[i]) ∧ w'.ownsRow (w.heap.size + 1) 32 9 sl N (flat (outs.map Arg.v)))
theorem PrepRet.no {w w' : World} {kinds : ByteArray} {args : List Arg} {N : Nat} {sl : Value} (hb : Below w.heap.size w w') : PrepRet w kinds args N (.returned (.tuple #[sl, .bool false])) w' := ⟨sl, false, rfl, hb, fun h => Bool.noConfusion h⟩
theorem intVal_is (m : Nat) (h : m ≤ 1000) : numOr (m : Rat) = .agg #[.int .i64 1, .string (numS (m : Rat)), .string (denS (m : Rat)), .string ⟨#[]⟩, .bool false, .int .i64 0, .int .i64 0, .int .i64 0, .slice none 0 0] := by
 unfold numOr
 rw [if_pos (fits_small m h)]; rfl
theorem prepared_any (least most : Int) (kinds : ByteArray) (args : List Arg) (A : Option Addr) (n C N : Nat) (w : World)
  (hn : args.length = n) (hn9 : n ≤ 1000000000) (hA : 0 < n → ∃ g o, A = some ⟨g, o, none⟩ ∧ ValsAt w g o (args.map Arg.v)) (hok : ∀ a ∈ args, ArgOk w a) (hE : EnvR w)
  (hk : 0 < kinds.size) (hk9 : kinds.size ≤ 1000) (hl0 : 0 ≤ least) (hl9 : least ≤ 900) (hm0 : 0 ≤ most) (hm9 : most ≤ 1000000) (hN : (N : Int) = max least (min (min (n : Int) most) 6)) :
  Calls Tryz.prog 23 #[.agg #[.int .i64 least, .int .i64 most, .string kinds], .slice A n C] w (PrepRet w kinds args N) := by
 have hb0 : Below w.heap.size w (w.alloc (.cells #[.int .i64 least, .int .i64 most, .string kinds] 44)) := (Below.refl _ _).alloc (Nat.le_refl _) _
 have HI0 := hid (show PreI w (.int .i64 least) (.int .i64 most) (.string kinds) (.slice none 0 0) [] (w.alloc (.cells #[.int .i64 least, .int .i64 most, .string kinds] 44)) from ⟨heap_alloc_new w _, hb0, World.ownsRow_nil _ _ _ _⟩)
 go_enter Tryz.func23, Tryz.ntmps23
 go_upto_region 2 with fail
 go_cut [18, 19] (fun v18 v19 wx => v18 = .int .i64 (N : Int) ∧ v19 = .int .i64 ((0 : Nat) : Int) ∧ PreI w (.int .i64 least) (.int .i64 most) (.string kinds) (.slice none 0 0) [] wx)
 case first =>
  go_wp2
  all_goals (go_meet; case rel => exact ⟨by congr 1; omega, rfl, HI0.out⟩)
 case rest =>
  obtain ⟨rfl, rfl, hI⟩ := hcut
  have HI := hid hI
  have hN9 : N ≤ 900 := by omega
  have HOK := hid hok; have HE := hid hE; have HA := hid hA
  have HNN := hid hn
  clear hI HI0 hN hok hE hA hn hb0
  go_wp2_with fail
  go_loopg [6, 19] N (fun gh v6 v19 wx => ∃ (i : Nat) (outs : List Arg), v19 = .int .i64 (i : Int) ∧ i ≤ N ∧ gh = N - i ∧ outs.length = i ∧ PreI w (.int .i64 least) (.int .i64 most) (.string kinds) v6 outs wx ∧ ∀ j (h : j < outs.length), PrepOk (kindS kinds j) (argAt args j) outs[j])
  case atStart => exact ⟨0, [], rfl, Nat.zero_le _, rfl, rfl, HI.out, fun j h => absurd h (Nat.not_lt_zero j)⟩
  case round =>
   clear HI
   obtain ⟨i, outs, rfl, hi, rfl, hlen, hI, hall⟩ := hrel
   have HI := hid hI
   have HALL := hid hall
   have HLEN := hid hlen
   clear hI hall hlen
   by_cases hlt : i < N
   ·have hdd : decide ((i : Int) < (N : Int)) = true := decide_eq_true (by omega)
    have hdn : decide (i < N) = true := decide_eq_true hlt
    have T1 := hid (fun W => rint_any (i + 1) W (by omega))
    rw [intVal_is (i + 1) (by omega)] at T1
    have hcast : (((i + 1 : Nat)) : Int) = (i : Int) + 1 := by omega
    rw [hcast] at T1
    have HARG := hid (argAt_ok HOK.out i (by omega))
    have HIA : Hid (¬ i < n → argAt args i = intArg (i + 1)) := fun h => argAt_out (by rw [HNN.out]; exact h)
    obtain ⟨zn, hzn⟩ : ∃ z, numS ((i + 1 : Nat) : Rat) = z := ⟨_, rfl⟩
    obtain ⟨zd, hzd⟩ : ∃ z, denS ((i + 1 : Nat) : Rat) = z := ⟨_, rfl⟩
    rw [hzn, hzd] at T1
    have HZ := hid hzn; have HZ2 := hid hzd
    clear hcast hzn hzd
    go_wp2_with fail
    refine (T1.out _).mono ?_
    rintro e w1 ⟨rfl, hb⟩
    have HI1 := hid (HI.out.step hb)
    clear hb
    obtain ⟨bv, hbv⟩ : ∃ z, w1.heap.size = z := ⟨_, rfl⟩
    have HVB := hid (heap_alloc_new w1 (.cells #[.int .i64 1, .string zn, .string zd, .string ⟨#[]⟩, .bool false, .int .i64 0, .int .i64 0, .int .i64 0, .slice none 0 0] 32))
    have HLW := hid ((Below.refl w1.heap.size w1).alloc (Nat.le_refl _) (.cells #[.int .i64 1, .string zn, .string zd, .string ⟨#[]⟩, .bool false, .int .i64 0, .int .i64 0, .int .i64 0, .slice none 0 0] 32))
    have HGV := hid (show w.heap.size + 1 ≤ bv from by rw [← hbv]; exact HI1.out.size)
    obtain ⟨w2, hw2⟩ : ∃ z, w1.alloc (.cells #[.int .i64 1, .string zn, .string zd, .string ⟨#[]⟩, .bool false, .int .i64 0, .int .i64 0, .int .i64 0, .slice none 0 0] 32) = z := ⟨_, rfl⟩
    rw [hw2] at HVB HLW
    rw [hbv] at HVB HLW
    have HW2 := hid hw2; have HBV := hid hbv
    clear hw2 hbv
    go_upto_region 6 with fail
    rw [HW2.out, HBV.out]
    go_cut [28] (fun v28 wx => v28 = .bool (decide (i < n)) ∧ wx = w2)
    case first =>
     by_cases hin : i < n
     ·have h1 : decide ((i : Int) < (n : Int)) = true := decide_eq_true (by omega)
      have h2 : decide (i < n) = true := decide_eq_true hin
      go_wp2
      go_meet
      case rel => exact ⟨by rw [h2], rfl⟩
     ·have h1 : decide ((i : Int) < (n : Int)) = false := decide_eq_false (by omega)
      have h2 : decide (i < n) = false := decide_eq_false hin
      go_wp2
      go_meet
      case rel => exact ⟨by rw [h2], rfl⟩
    case rest =>
     obtain ⟨hv28, hwc⟩ := hcut
     subst hv28
     subst hwc
     obtain ⟨a0, ha0⟩ : ∃ z, argAt args i = z := ⟨_, rfl⟩
     rw [ha0] at HARG HIA
     have HAA := hid ha0
     clear ha0
     obtain ⟨⟨k, xn, xd, xt, on, c, r, s, xA, xL, xC⟩, avs⟩ := a0
     go_upto_if 28 with fail
     go_cut [] (fun wx => wx.heap[bv]? = some (.cells #[.int .i64 k, .string xn, .string xd, .string xt, .bool on, .int .i64 c, .int .i64 r, .int .i64 s, .slice xA xL xC] 32 (0, 0)) ∧ Below bv w1 wx)
     case first =>
      by_cases hin : i < n
      ·have h2 : decide (i < n) = true := decide_eq_true hin
       obtain ⟨g, o, hAe, hvals⟩ := HA.out (by omega)
       subst hAe
       have hli : i < args.length := by rw [HNN.out]; exact hin
       have hcells := (hvals.below (HI1.out.low.trans (HLW.out.mono (show w.heap.size ≤ bv by have := HGV.out; omega)))).at i (by rw [List.length_map]; exact hli)
       have hge : (args.map Arg.v)[i]'(by rw [List.length_map]; exact hli) = ⟨k, xn, xd, xt, on, c, r, s, xA, xL, xC⟩ := by
        rw [List.getElem_map, ← argAt_in hli, HAA.out]
       rw [hge] at hcells
       have hcells : CellsAt _ g (o + i * 9) (.int .i64 k) (.string xn) (.string xd) (.string xt) (.bool on) (.int .i64 c) (.int .i64 r) (.int .i64 s) (.slice xA xL xC) := hcells
       obtain ⟨c0, c1, c2, c3, c4, c5, c6, c7, c8⟩ := hcells
       have hi0 : (0 : Int) ≤ (i : Int) := by omega
       have hi1 : (i : Int) < (n : Int) := by omega
       obtain ⟨_, rf0, rf1, rf2, rf3, rf4, rf5, rf6, rf7, rf8⟩ := nine_at HVB.out
       clear hge hvals hin
       rw [h2]
       clear h2
       go_wp2
       go_meet
       case rel => exact ⟨set9_at HVB.out (.int .i64 k) (.string xn) (.string xd) (.string xt) (.bool on) (.int .i64 c) (.int .i64 r) (.int .i64 s) (.slice xA xL xC), (((((((((HLW.out.setCell (p := ⟨bv, 0, none⟩) (Nat.le_refl _) (.int .i64 k)).setCell (p := ⟨bv, 1, none⟩) (Nat.le_refl _) (.string xn)).setCell (p := ⟨bv, 2, none⟩) (Nat.le_refl _) (.string xd)).setCell (p := ⟨bv, 3, none⟩) (Nat.le_refl _) (.string xt)).setCell (p := ⟨bv, 4, none⟩) (Nat.le_refl _) (.bool on)).setCell (p := ⟨bv, 5, none⟩) (Nat.le_refl _) (.int .i64 c)).setCell (p := ⟨bv, 6, none⟩) (Nat.le_refl _) (.int .i64 r)).setCell (p := ⟨bv, 7, none⟩) (Nat.le_refl _) (.int .i64 s)).setCell (p := ⟨bv, 8, none⟩) (Nat.le_refl _) (.slice xA xL xC))⟩
      ·have h2 : decide (i < n) = false := decide_eq_false hin
       have ha : (⟨⟨k, xn, xd, xt, on, c, r, s, xA, xL, xC⟩, avs⟩ : Arg) = intArg (i + 1) := HIA.out hin
       have HAV : Hid (wc.heap[bv]? = some (.cells #[.int .i64 k, .string xn, .string xd, .string xt, .bool on, .int .i64 c, .int .i64 r, .int .i64 s, .slice xA xL xC] 32 (0, 0))) := by
        show _ = _
        have e1 := congrArg (fun z : Arg => z.v.cells.toArray) ha
        have e2 : (#[.int .i64 k, .string xn, .string xd, .string xt, .bool on, .int .i64 c, .int .i64 r, .int .i64 s, .slice xA xL xC] : Array Value) = #[.int .i64 1, .string zn, .string zd, .string ⟨#[]⟩, .bool false, .int .i64 0, .int .i64 0, .int .i64 0, .slice none 0 0] := by
         rw [← HZ.out, ← HZ2.out]; exact e1
        rw [e2]; exact HVB.out
       clear ha hin
       rw [h2]
       clear h2
       go_wp2
       go_meet
       case rel => exact ⟨HAV.out, HLW.out⟩
     case rest =>
      obtain ⟨hvb, hlw⟩ := hcut
      have HV := hid hvb
      have HL2 := hid (show Below w1.heap.size w1 wc from by rw [HBV.out]; exact hlw)
      have HI2 := hid (HI1.out.step HL2.out)
      clear hvb hlw HVB HLW HIA
      have T2 := hid (fun W (hb : Below w.heap.size w W) => rval_any ⟨k, xn, xd, xt, on, c, r, s, xA, xL, xC⟩ avs W HARG.out.short HARG.out.shorts (HE.out.below hb) (fun h5 => ((HARG.out.below hb).row h5).1))
      have e0 : Val.agg ⟨k, xn, xd, xt, on, c, r, s, xA, xL, xC⟩ = .agg #[.int .i64 k, .string xn, .string xd, .string xt, .bool on, .int .i64 c, .int .i64 r, .int .i64 s, .slice xA xL xC] := rfl
      rw [e0] at T2
      clear e0
      obtain ⟨⟨v0, v1, v2, v3, v4, v5, v6, v7, v8⟩, vf0, vf1, vf2, vf3, vf4, vf5, vf6, vf7, vf8⟩ := nine_at HV.out
      go_wp2_with fail
      refine (T2.out _ HI2.out.low).mono ?_
      rintro e w3 ⟨ec, rfl, hb, hok⟩
      have HK := hid hok
      have HV3 := hid (keep_block HV.out hb)
      have HI3 := hid (HI2.out.step hb)
      have HLB3 := hid (show Below bv w1 w3 from by rw [← HBV.out]; exact HL2.out.trans (hb.mono HL2.out.size))
      clear hb hok v0 v1 v2 v3 v4 v5 v6 v7 v8 vf0 vf1 vf2 vf3 vf4 vf5 vf6 vf7 vf8 HV HI2
      by_cases hec : ec = 0
      ·subst hec
       have HVO := hid (HK.out rfl)
       clear HK
       obtain ⟨⟨p0, p1, p2⟩, pf0, pf1, pf2⟩ := three_at HI3.out.res
       go_upto_region 10 with fail
       go_cut [45] (fun v45 wx => v45 = .bool (kindS kinds i) ∧ wx = w3)
       case first =>
        obtain ⟨m, hm⟩ : ∃ m, min i (kinds.size - 1) = m := ⟨_, rfl⟩
        have hml : m < kinds.size := by omega
        have hms : IntKind.i64.wrap ((kinds.size : Int) - 1) = (kinds.size : Int) - 1 := IntWalk.i64_in _ (by omega)
        have hm2 : min (i : Int) ((kinds.size : Int) - 1) = (m : Int) := by omega
        have hm0 : (0 : Int) ≤ (m : Int) := by omega
        have hm1 : (m : Int) < (kinds.size : Int) := by omega
        obtain ⟨x0, hx⟩ : ∃ x0, (kinds[m]'hml).toNat = x0 := ⟨_, rfl⟩
        have hm0' : x0 < 256 := by rw [← hx]; exact UInt8.toNat_lt _
        have HKS : Hid (kindS kinds i = (x0 == 115)) := by
         show _ = _
         have hd : kinds.data.toList.getD m 0 = kinds[m]'hml := by
          rw [List.getD_eq_getElem?_getD, List.getElem?_eq_getElem (by rw [Array.length_toList]; exact hml)]; rfl
         unfold kindS
         rw [hm, hd, hx]
        clear hm
        by_cases h115 : x0 = 115
        ·subst h115
         have q : kindS kinds i = true := by rw [HKS.out]; rfl
         clear HKS
         go_wp2
         go_meet
         case rel => exact ⟨by rw [q], rfl⟩
        ·have q1 : ((x0 : Int) == 115) = false := by rw [beq_eq_false_iff_ne]; omega
         have q2 : (x0 == 115) = false := by rw [beq_eq_false_iff_ne]; exact h115
         have q : kindS kinds i = false := by rw [HKS.out]; exact q2
         clear HKS
         go_wp2
         go_meet
         case rel => exact ⟨by rw [q], rfl⟩
       case rest =>
        obtain ⟨hv45, hwc⟩ := hcut
        subst hv45
        subst hwc
        have HPL := hid (prep_items_le (kindS kinds i) HARG.out HVO.out)
        have HBO := hid (prepOf_ok (kindS kinds i) HARG.out HVO.out)
        have HIP := hid (items_pos HARG.out HVO.out)
        obtain ⟨b0, hb0⟩ : ∃ z, prepOf (kindS kinds i) ⟨⟨k, xn, xd, xt, on, c, r, s, xA, xL, xC⟩, avs⟩ = z := ⟨_, rfl⟩
        rw [hb0] at HBO HPL
        have HBB := hid hb0
        clear hb0 p0 p1 p2 pf0 pf1 pf2
        obtain ⟨⟨yk, yn, yd, yt, yo, yc, yr, ys, yA, yL, yC⟩, bvs⟩ := b0
        have HL3 := hid (show Below bv w1 wc from HLB3.out)
        go_upto_if 45 with fail
        go_cut [] (fun wx => wx.heap[bv]? = some (.cells #[.int .i64 yk, .string yn, .string yd, .string yt, .bool yo, .int .i64 yc, .int .i64 yr, .int .i64 ys, .slice yA yL yC] 32 (0, 0)) ∧ Below bv w1 wx)
        case first =>
         obtain ⟨ks, hks⟩ : ∃ z, kindS kinds i = z := ⟨_, rfl⟩
         rw [hks] at HBB ⊢
         clear hks
         cases ks with
         | false =>
          have HY : Hid (wc.heap[bv]? = some (.cells #[.int .i64 yk, .string yn, .string yd, .string yt, .bool yo, .int .i64 yc, .int .i64 yr, .int .i64 ys, .slice yA yL yC] 32 (0, 0))) := by
           show _ = _
           have e1 := congrArg (fun z : Arg => z.v.cells.toArray) (show (⟨⟨k, xn, xd, xt, on, c, r, s, xA, xL, xC⟩, avs⟩ : Arg) = ⟨⟨yk, yn, yd, yt, yo, yc, yr, ys, yA, yL, yC⟩, bvs⟩ from HBB.out)
           have e2 : (#[.int .i64 yk, .string yn, .string yd, .string yt, .bool yo, .int .i64 yc, .int .i64 yr, .int .i64 ys, .slice yA yL yC] : Array Value) = #[.int .i64 k, .string xn, .string xd, .string xt, .bool on, .int .i64 c, .int .i64 r, .int .i64 s, .slice xA xL xC] := e1.symm
           rw [e2]; exact HV3.out
          go_wp2
          go_meet
          case rel => exact ⟨HY.out, HL3.out⟩
         | true =>
          have T3 := hid (fun W (hb : Below w.heap.size w W) => ritems_any ⟨k, xn, xd, xt, on, c, r, s, xA, xL, xC⟩ avs W (fun h5 => ((HARG.out.below hb).row h5).1) (fun h5 => (HARG.out.row h5).2))
          have e0 : Val.agg ⟨k, xn, xd, xt, on, c, r, s, xA, xL, xC⟩ = .agg #[.int .i64 k, .string xn, .string xd, .string xt, .bool on, .int .i64 c, .int .i64 r, .int .i64 s, .slice xA xL xC] := rfl
          rw [e0] at T3
          clear e0
          obtain ⟨⟨v0, v1, v2, v3, v4, v5, v6, v7, v8⟩, vf0, vf1, vf2, vf3, vf4, vf5, vf6, vf7, vf8⟩ := nine_at HV3.out
          go_wp2_with fail
          refine (T3.out _ HI3.out.low).mono ?_
          rintro e w4 ⟨iA, iC, rfl, hb, hit⟩
          have HV4 := hid (keep_block HV3.out hb)
          have HL4 := hid (HL3.out.trans (hb.mono (Nat.le_of_lt (heap_lt HV3.out))))
          obtain ⟨g, o, hge, hvs⟩ := hit HIP.out
          subst hge
          have hcells := hvs.at 0 HIP.out
          have hfi := first_item (a := ⟨⟨k, xn, xd, xt, on, c, r, s, xA, xL, xC⟩, avs⟩) HIP.out
          have hfi2 : (itemsOf ⟨k, xn, xd, xt, on, c, r, s, xA, xL, xC⟩ avs)[0]'HIP.out = ⟨yk, yn, yd, yt, yo, yc, yr, ys, yA, yL, yC⟩ := by
           have h1 : (itemsOf ⟨k, xn, xd, xt, on, c, r, s, xA, xL, xC⟩ avs)[0]'HIP.out = (prepOf true ⟨⟨k, xn, xd, xt, on, c, r, s, xA, xL, xC⟩, avs⟩).v := hfi.symm
           rw [h1, HBB.out]
          rw [hfi2] at hcells
          have hcells : CellsAt w4 g (o + 0 * 9) (.int .i64 yk) (.string yn) (.string yd) (.string yt) (.bool yo) (.int .i64 yc) (.int .i64 yr) (.int .i64 ys) (.slice yA yL yC) := hcells
          rw [Nat.zero_mul, Nat.add_zero] at hcells
          obtain ⟨c0, c1, c2, c3, c4, c5, c6, c7, c8⟩ := hcells
          obtain ⟨il, hil⟩ : ∃ z, (itemsOf ⟨k, xn, xd, xt, on, c, r, s, xA, xL, xC⟩ avs).length = z := ⟨_, rfl⟩
          have hil0 : 0 < il := by rw [← hil]; exact HIP.out
          have hil1 : (0 : Int) < (il : Int) := by omega
          rw [hil]
          clear hb hit hvs hfi hfi2 hil v0 v1 v2 v3 v4 v5 v6 v7 v8 vf0 vf1 vf2 vf3 vf4 vf5 vf6 vf7 vf8
          obtain ⟨_, rf0, rf1, rf2, rf3, rf4, rf5, rf6, rf7, rf8⟩ := nine_at HV4.out
          go_wp2
          go_meet
          case rel => exact ⟨set9_at HV4.out (.int .i64 yk) (.string yn) (.string yd) (.string yt) (.bool yo) (.int .i64 yc) (.int .i64 yr) (.int .i64 ys) (.slice yA yL yC), (((((((((HL4.out.setCell (p := ⟨bv, 0, none⟩) (Nat.le_refl _) (.int .i64 yk)).setCell (p := ⟨bv, 1, none⟩) (Nat.le_refl _) (.string yn)).setCell (p := ⟨bv, 2, none⟩) (Nat.le_refl _) (.string yd)).setCell (p := ⟨bv, 3, none⟩) (Nat.le_refl _) (.string yt)).setCell (p := ⟨bv, 4, none⟩) (Nat.le_refl _) (.bool yo)).setCell (p := ⟨bv, 5, none⟩) (Nat.le_refl _) (.int .i64 yc)).setCell (p := ⟨bv, 6, none⟩) (Nat.le_refl _) (.int .i64 yr)).setCell (p := ⟨bv, 7, none⟩) (Nat.le_refl _) (.int .i64 ys)).setCell (p := ⟨bv, 8, none⟩) (Nat.le_refl _) (.slice yA yL yC))⟩
        case rest =>
         obtain ⟨hvb, hlw⟩ := hcut
         have HV5 := hid hvb
         have HL5 := hid hlw
         have HI5 := hid (HI1.out.step (by rw [HBV.out]; exact hlw))
         clear hvb hlw HV3 HI3 HL2 HLB3 HL3 HIP T1 T2
         obtain ⟨its, hits⟩ : ∃ z, itemsOf ⟨yk, yn, yd, yt, yo, yc, yr, ys, yA, yL, yC⟩ bvs = z := ⟨_, rfl⟩
         have T4 := hid (fun W (hb : Below w.heap.size w W) => ritems_any ⟨yk, yn, yd, yt, yo, yc, yr, ys, yA, yL, yC⟩ bvs W (fun h5 => ((HBO.out.below hb).row h5).1) (fun h5 => (HBO.out.row h5).2))
         unfold ItemsRet at T4
         have HPL2 : Hid (its.length ≤ 10000000000) := by show _ ≤ _; rw [← hits]; exact HPL.out
         rw [hits] at T4
         have HITS := hid hits
         obtain ⟨il, hil⟩ : ∃ z, its.length = z := ⟨_, rfl⟩
         rw [hil] at T4
         have hil9 : il ≤ 10000000000 := by rw [← hil]; exact HPL2.out
         have HIL := hid hil
         have e0 : Val.agg ⟨yk, yn, yd, yt, yo, yc, yr, ys, yA, yL, yC⟩ = .agg #[.int .i64 yk, .string yn, .string yd, .string yt, .bool yo, .int .i64 yc, .int .i64 yr, .int .i64 ys, .slice yA yL yC] := rfl
         rw [e0] at T4
         clear e0 hil hits HPL HPL2
         obtain ⟨⟨v0, v1, v2, v3, v4, v5, v6, v7, v8⟩, vf0, vf1, vf2, vf3, vf4, vf5, vf6, vf7, vf8⟩ := nine_at HV5.out
         go_wp2_with fail
         refine (T4.out _ HI5.out.low).mono ?_
         rintro e w6 ⟨iA, iC, rfl, hb, hit⟩
         have HV6 := hid (keep_block HV5.out hb)
         have HI6 := hid (HI5.out.step hb)
         have HIT := hid hit
         clear hb hit v0 v1 v2 v3 v4 v5 v6 v7 v8 vf0 vf1 vf2 vf3 vf4 vf5 vf6 vf7 vf8 HV5 HI5 HL5
         go_wp2_with fail
         go_loopg [53] il (fun gh v53 wx => ∃ j : Nat, v53 = .int .i64 (j : Int) ∧ j ≤ il ∧ gh = il - j ∧ Below w6.heap.size w6 wx ∧ ∀ m (h : m < its.length), m < j → smallV its[m])
         case atStart => exact ⟨0, rfl, Nat.zero_le _, rfl, Below.refl _ _, fun m _ h => absurd h (Nat.not_lt_zero m)⟩
         case round =>
          obtain ⟨j, rfl, hj, rfl, hbx, hsm⟩ := hrel
          have HBX := hid hbx
          have HSM := hid hsm
          clear hbx hsm
          by_cases hjl : j < il
          ·have hd1 : decide ((j : Int) < (il : Int)) = true := decide_eq_true (by omega)
           have hd2 : decide (j < il) = true := decide_eq_true hjl
           have hji : j < its.length := by rw [HIL.out]; exact hjl
           obtain ⟨g, o, hge, hvs⟩ := HIT.out (by omega)
           subst hge
           have hcells := (hvs.below HBX.out).at j hji
           obtain ⟨x, hx⟩ : ∃ x, its[j] = x := ⟨_, rfl⟩
           have HXX := hid hx
           rw [hx] at hcells
           clear hx hvs
           obtain ⟨zk, zn', zd', zt, zo, zc, zr, zs, zA, zL, zC⟩ := x
           have hcells : CellsAt wr g (o + j * 9) (.int .i64 zk) (.string zn') (.string zd') (.string zt) (.bool zo) (.int .i64 zc) (.int .i64 zr) (.int .i64 zs) (.slice zA zL zC) := hcells
           obtain ⟨c0, c1, c2, c3, c4, c5, c6, c7, c8⟩ := hcells
           have hi0 : (0 : Int) ≤ (j : Int) := by omega
           have hi1 : (j : Int) < (il : Int) := by omega
           have HB2 := hid (HBX.out.trans (((Below.refl wr.heap.size wr).alloc (Nat.le_refl _) (.cells #[.int .i64 zk, .string zn', .string zd', .string zt, .bool zo, .int .i64 zc, .int .i64 zr, .int .i64 zs, .slice zA zL zC] 32)).mono HBX.out.size))
           by_cases s1 : zn'.size ≤ 30
           ·have q1 : decide ((30 : Int) < (zn'.size : Int)) = false := decide_eq_false (by omega)
            have q1n : decide (30 < zn'.size) = false := decide_eq_false (by omega)
            by_cases s2 : zd'.size ≤ 30
            ·have q2 : decide ((30 : Int) < (zd'.size : Int)) = false := decide_eq_false (by omega)
             have q2n : decide (30 < zd'.size) = false := decide_eq_false (by omega)
             by_cases s3 : zt.size ≤ 60
             ·have q3 : decide ((60 : Int) < (zt.size : Int)) = false := decide_eq_false (by omega)
              have q3n : decide (60 < zt.size) = false := decide_eq_false (by omega)
              have HS3 : Hid (∀ m (h : m < its.length), m < j + 1 → smallV its[m]) := by
               intro m hm hmj
               by_cases hmj2 : m < j
               ·exact HSM.out m hm hmj2
               ·have hmj : m = j := by omega
                subst hmj
                rw [HXX.out]; exact ⟨s1, s2, s3⟩
              clear s1 s2 s3
              go_wp2
              go_roundg (il - (j + 1))
              case measure => omega
              case rel => exact ⟨j + 1, by go_num, by omega, rfl, HB2.out, HS3.out⟩
             ·have q3 : decide ((60 : Int) < (zt.size : Int)) = true := decide_eq_true (by omega)
              have q3n : decide (60 < zt.size) = true := decide_eq_true (by omega)
              clear s1 s2 s3
              go_wp2
              go_ret2
              exact PrepRet.no (HI6.out.low.trans (HB2.out.mono HI6.out.low.size))
            ·have q2 : decide ((30 : Int) < (zd'.size : Int)) = true := decide_eq_true (by omega)
             have q2n : decide (30 < zd'.size) = true := decide_eq_true (by omega)
             clear s1 s2
             go_wp2
             go_ret2
             exact PrepRet.no (HI6.out.low.trans (HB2.out.mono HI6.out.low.size))
           ·have q1 : decide ((30 : Int) < (zn'.size : Int)) = true := decide_eq_true (by omega)
            have q1n : decide (30 < zn'.size) = true := decide_eq_true (by omega)
            clear s1
            go_wp2
            go_ret2
            exact PrepRet.no (HI6.out.low.trans (HB2.out.mono HI6.out.low.size))
          ·have hd1 : decide ((j : Int) < (il : Int)) = false := decide_eq_false (by omega)
           have hd2 : decide (j < il) = false := decide_eq_false hjl
           have hje : j = il := by omega
           subst hje
           have HSA : Hid (∀ x ∈ its, smallV x) := by
            intro x hx
            obtain ⟨m, hm, rfl⟩ := List.getElem_of_mem hx
            exact HSM.out m hm (by rw [← HIL.out]; exact hm)
           have HV7 := hid (keep_block HV6.out HBX.out)
           have HI7 := hid (HI6.out.step HBX.out)
           clear hjl HSM HV6 HI6 HBX
           obtain ⟨⟨v0, v1, v2, v3, v4, v5, v6, v7, v8⟩, vf0, vf1, vf2, vf3, vf4, vf5, vf6, vf7, vf8⟩ := nine_at HV7.out
           go_wp2_with fail
           refine (T4.out _ HI7.out.low).mono ?_
           rintro e w8 ⟨iA2, iC2, rfl, hb, _⟩
           have HV8 := hid (keep_block HV7.out hb)
           have HI8 := hid (HI7.out.step hb)
           clear hb v0 v1 v2 v3 v4 v5 v6 v7 v8 vf0 vf1 vf2 vf3 vf4 vf5 vf6 vf7 vf8 HV7 HI7 HIT
           by_cases hfew : j ≤ 30
           ·have q1 : decide ((30 : Int) < (j : Int)) = false := decide_eq_false (by omega)
            have q1n : decide (30 < j) = false := decide_eq_false (by omega)
            have HPO : Hid (PrepOk (kindS kinds i) (argAt args i) ⟨⟨yk, yn, yd, yt, yo, yc, yr, ys, yA, yL, yC⟩, bvs⟩) := by
             refine ⟨?_, ?_, ?_, ?_⟩
             ·rw [HAA.out]; exact HVO.out
             ·rw [HAA.out]; exact HBB.out.symm
             ·intro x hx
              have hx : x ∈ itemsOf ⟨yk, yn, yd, yt, yo, yc, yr, ys, yA, yL, yC⟩ bvs := hx
              rw [HITS.out] at hx; exact HSA.out x hx
             ·show (itemsOf ⟨yk, yn, yd, yt, yo, yc, yr, ys, yA, yL, yC⟩ bvs).length ≤ 30
              rw [HITS.out, HIL.out]; exact hfew
            obtain ⟨i0, hi0', hz0, hz1, hz2⟩ := info_val
            have HI9 := hid (HI8.out.step ((Below.refl w8.heap.size w8).alloc (Nat.le_refl _) (.cells #[.int .i64 yk, .string yn, .string yd, .string yt, .bool yo, .int .i64 yc, .int .i64 yr, .int .i64 ys, .slice yA yL yC] 32)))
            have hown := HI9.out.own
            obtain ⟨av, cv, hu⟩ := owns_form hown
            subst hu
            have HOW := hid hown
            have hol : outs.length ≤ 900 := by have := HLEN.out; omega
            have hml : outs.length + 1 ≤ maxLen := by unfold maxLen; have := HLEN.out; omega
            have hnews := World.news_of_block (cs := #[.int .i64 yk, .string yn, .string yd, .string yt, .bool yo, .int .i64 yc, .int .i64 yr, .int .i64 ys, .slice yA yL yC]) (t := 32) (fr := (0, 0)) (heap_alloc_new w8 (.cells #[.int .i64 yk, .string yn, .string yd, .string yt, .bool yo, .int .i64 yc, .int .i64 yr, .int .i64 ys, .slice yA yL yC] 32))
            have HNW := hid hnews
            have HBS := hid (show w.heap.size + 1 ≤ (w8.alloc (.cells #[.int .i64 yk, .string yn, .string yd, .string yt, .bool yo, .int .i64 yc, .int .i64 yr, .int .i64 ys, .slice yA yL yC] 32)).heap.size from HI9.out.size)
            clear hown hnews hfew
            obtain ⟨⟨v0, v1, v2, v3, v4, v5, v6, v7, v8⟩, _⟩ := nine_at HV8.out
            go_wp2_with (at_builtin; refine wpList_append_own _ rfl _ _ 22 rfl (w.heap.size + 1) 32 i0 _ 9 112 Tryz.underlying22 hi0' hz0 hz1 hz2 rfl (by decide) (.slice av outs.length cv) outs.length (flat (outs.map Arg.v)) rfl HOW.out ⟨w8.heap.size, 0, none⟩ 1 1 [.int .i64 yk, .string yn, .string yd, .string yt, .bool yo, .int .i64 yc, .int .i64 yr, .int .i64 ys, .slice yA yL yC] rfl rfl HNW.out (by simp [Value.oneCell']) hml (by omega) HBS.out ?_)
            intro v5 w5 hown5 hgrow5 _
            have HI10 := hid (HI9.out.push (b := ⟨⟨yk, yn, yd, yt, yo, yc, yr, ys, yA, yL, yC⟩, bvs⟩) hown5 hgrow5)
            have HALL2 : Hid (∀ m (h : m < (outs ++ [(⟨⟨yk, yn, yd, yt, yo, yc, yr, ys, yA, yL, yC⟩, bvs⟩ : Arg)]).length), PrepOk (kindS kinds m) (argAt args m) (outs ++ [(⟨⟨yk, yn, yd, yt, yo, yc, yr, ys, yA, yL, yC⟩, bvs⟩ : Arg)])[m]) := by
             intro m hm
             by_cases hmo : m < outs.length
             ·rw [List.getElem_append_left hmo]; exact HALL.out m hmo
             ·have hmi : m = i := by rw [List.length_append] at hm; have hm : m < outs.length + 1 := hm; have := HLEN.out; omega
              subst hmi
              rw [List.getElem_append_right (by omega)]
              simp only [HLEN.out, Nat.sub_self, List.getElem_cons_zero]
              exact HPO.out
            clear hown5 hgrow5 v0 v1 v2 v3 v4 v6 v7 v8
            go_wp2
            go_roundg (N - (i + 1))
            case measure => omega
            case rel => exact ⟨i + 1, outs ++ [⟨⟨yk, yn, yd, yt, yo, yc, yr, ys, yA, yL, yC⟩, bvs⟩], by go_num, by omega, rfl, by rw [List.length_append, HLEN.out]; rfl, HI10.out, HALL2.out⟩
           ·have q1 : decide ((30 : Int) < (j : Int)) = true := decide_eq_true (by omega)
            have q1n : decide (30 < j) = true := decide_eq_true (by omega)
            clear hfew
            go_wp2
            go_ret2
            exact PrepRet.no HI8.out.low
      ·have hec2 : (ec == 0) = false := by rw [beq_eq_false_iff_ne]; exact hec
       have hec3 : (ec != 0) = true := by rw [bne_iff_ne]; exact hec
       clear hec
       go_wp2
       go_ret2
       exact PrepRet.no HI3.out.low
   ·have hdd : decide ((i : Int) < (N : Int)) = false := decide_eq_false (by omega)
    have hdn : decide (i < N) = false := decide_eq_false hlt
    have hiN : i = N := by omega
    subst hiN
    have HF := hid (show ∃ outs : List Arg, outs.length = i ∧ (∀ j (h : j < outs.length), PrepOk (kindS kinds j) (argAt args j) outs[j]) ∧ wr.ownsRow (w.heap.size + 1) 32 9 u6 i (flat (outs.map Arg.v)) from ⟨outs, HLEN.out, HALL.out, by have := HI.out.own; rw [HLEN.out] at this; exact this⟩)
    clear hlt
    go_wp2
    go_ret2
    exact ⟨_, true, rfl, HI.out.low, fun _ => HF.out⟩
end Num
namespace Num
open Go.RowKit Go.Lib
theorem same_refl (k : Int) (n d t : ByteArray) (on : Bool) (c r s : Int) (A A' : Option Addr) (C C' : Nat) (w : World) :
  Calls Tryz.prog 17 #[.agg #[.int .i64 k, .string n, .string d, .string t, .bool on, .int .i64 c, .int .i64 r, .int .i64 s, .slice A 0 C], .agg #[.int .i64 k, .string n, .string d, .string t, .bool on, .int .i64 c, .int .i64 r, .int .i64 s, .slice A' 0 C']] w fun e w' => e = .returned (.bool true) ∧ Below w.heap.size w w' := by
 have hb := (two_new w (.cells #[.int .i64 k, .string n, .string d, .string t, .bool on, .int .i64 c, .int .i64 r, .int .i64 s, .slice A 0 C] 32) (.cells #[.int .i64 k, .string n, .string d, .string t, .bool on, .int .i64 c, .int .i64 r, .int .i64 s, .slice A' 0 C'] 32)).2.2
 have HB := hid hb
 clear hb
 have hon : (on != on) = false := by cases on <;> rfl
 go_enter Tryz.func17, Tryz.ntmps17
 go_wp2_with fail
 refine wp_loop_rounds 1 ?_
 rw [rounds_succ]
 go_wp2
 go_ret
 exact ⟨rfl, HB.out⟩
theorem same_kind (k k' : Int) (n d t n' d' t' : ByteArray) (on on' : Bool) (c r s c' r' s' : Int) (A A' : Option Addr) (L C L' C' : Nat) (w : World) (hk : k ≠ k') :
  Calls Tryz.prog 17 #[.agg #[.int .i64 k, .string n, .string d, .string t, .bool on, .int .i64 c, .int .i64 r, .int .i64 s, .slice A L C], .agg #[.int .i64 k', .string n', .string d', .string t', .bool on', .int .i64 c', .int .i64 r', .int .i64 s', .slice A' L' C']] w fun e w' => e = .returned (.bool false) ∧ Below w.heap.size w w' := by
 have hb := (two_new w (.cells #[.int .i64 k, .string n, .string d, .string t, .bool on, .int .i64 c, .int .i64 r, .int .i64 s, .slice A L C] 32) (.cells #[.int .i64 k', .string n', .string d', .string t', .bool on', .int .i64 c', .int .i64 r', .int .i64 s', .slice A' L' C'] 32)).2.2
 have HB := hid hb
 clear hb
 have q1 : (k == k') = false := by rw [beq_eq_false_iff_ne]; exact hk
 have q2 : (k != k') = true := by rw [bne_iff_ne]; exact hk
 clear hk
 go_enter Tryz.func17, Tryz.ntmps17
 go_wp2
 go_ret
 exact ⟨rfl, HB.out⟩
end Num
namespace Num
open Go.RowKit Go.Lib
theorem tmod_lo (a b : Int) (h1 : 1 ≤ b) : -b < a.tmod b := by
 rw [Int.tmod_eq_emod]
 have h := Int.emod_nonneg a (show b ≠ 0 by omega)
 have h2 := Int.emod_lt_of_pos a (show 0 < b by omega)
 split
 ·omega
 ·rename_i hn
  have hne : a % b ≠ 0 := fun e => hn (.inr (Int.dvd_of_emod_eq_zero e))
  omega
theorem tmod_ok (a b : Int) (h1 : 1 ≤ b) : (a.tmod b + b).tmod b = a % b := by
 have hb : -b < a.tmod b ∧ a.tmod b < b := by
  have h3 := Int.tmod_lt_of_pos a (show 0 < b by omega)
  exact ⟨tmod_lo a b h1, h3⟩
 rw [Int.tmod_eq_emod_of_nonneg (by omega), Int.add_emod_right]
 rw [Int.tmod_eq_emod]
 split
 ·rw [show ((0 : Nat) : Int) = 0 from rfl, Int.sub_zero, Int.emod_emod_of_dvd _ (Int.dvd_refl b)]
 ·have hab : (b.natAbs : Int) = b := by omega
  rw [hab, Int.sub_emod, Int.emod_emod_of_dvd _ (Int.dvd_refl b), Int.emod_self, Int.sub_zero, Int.emod_emod_of_dvd _ (Int.dvd_refl b)]
theorem lmod_any (a b : Int) (w : World) (h1 : 1 ≤ b) (h2 : b ≤ 1000000) :
  Calls Tryz.prog 15 #[.int .i64 a, .int .i64 b] w fun e w' => e = .returned (.int .i64 (a % b)) ∧ w' = w := by
 have hb : -b < a.tmod b ∧ a.tmod b < b := ⟨tmod_lo a b h1, Int.tmod_lt_of_pos a (show 0 < b by omega)⟩
 have hw : IntKind.i64.wrap (a.tmod b) = a.tmod b := IntWalk.i64_in _ (by omega)
 have hw2 : IntKind.i64.wrap (a.tmod b + b) = a.tmod b + b := IntWalk.i64_in _ (by omega)
 have hr := tmod_ok a b h1
 have hb2 : 0 ≤ a % b ∧ a % b < b := ⟨Int.emod_nonneg _ (by omega), Int.emod_lt_of_pos _ (by omega)⟩
 have hw3 : IntKind.i64.wrap (a % b) = a % b := IntWalk.i64_in _ (by omega)
 have hb0 : (b == 0) = false := by rw [beq_eq_false_iff_ne]; omega
 have hb00 : ¬ b = 0 := by omega
 go_enter Tryz.func15, Tryz.ntmps15
 go_wp2
 go_ret
 exact ⟨by first | rfl | (rw [hr]), rfl⟩
end Num
end Go.Proofs.YtjcdeeahjkfmoaaGreatDoor
