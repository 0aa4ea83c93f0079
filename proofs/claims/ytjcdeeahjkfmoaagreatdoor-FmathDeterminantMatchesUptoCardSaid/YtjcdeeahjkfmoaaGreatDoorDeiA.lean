/- Contracts of the program's functions, joined from smaller texts. Conditions stand at each theorem. -/
import Derived.Test.YtjcdeeahjkfmoaaGreatDoorDegB
import Derived.Test.YtjcdeeahjkfmoaaGreatDoorDehA
import Derived.Deep.DeepCutAuto
import Derived.BigRegion
set_option linter.unusedVariables false
set_option linter.unusedSimpArgs false
set_option maxRecDepth 100000
set_option maxHeartbeats 40000000
namespace Go.Proofs.YtjcdeeahjkfmoaaGreatDoor.Num.Mt
open Go.RowKit Go.Lib Num
def ElR (n : Nat) (M : Mx) (e : Ending) : Prop :=
 (¬ Over n M ∧ fits (detR n M) = true ∧ ∃ V : Value, e = .returned (.tuple #[.agg #[.string (numS (detR n M)), .string (denS (detR n M))], V])) ∨
 (e = stopped 5 ∧ Over n M)
def FitM (n : Nat) (m : Mx) : Prop := ∀ r c, r < n → c < n → fits (m r c) = true
theorem FitM.swap {n i k : Nat} {m : Mx} (h : FitM n m) (hi : i < n) (hk : k < n) : FitM n (swapM m i k) := by
 intro r c hr hc
 unfold swapM
 by_cases e : r = i
 ·rw [if_pos e]; exact h k c hk hc
 ·rw [if_neg e]
  by_cases e : r = k
  ·rw [if_pos e]; exact h i c hi hc
  ·rw [if_neg e]; exact h r c hr hc
theorem fits_neg' {q : Rat} (h : fits q = true) : fits (-q) = true := by
 unfold fits up at h ⊢
 rw [Rat.neg_num, Int.natAbs_neg, Rat.neg_den]; exact h
theorem cmp_ne' {q : Rat} (h : q ≠ 0) : cmpR q 0 ≠ 0 := by
 unfold cmpR
 rw [if_neg h]
 split <;> decide
theorem el_d {n i : Nat} {M m : Mx} {d : Rat} (h : Ep n M i m d) (hn : n ≤ 5) (hi : n ≤ i) (hle : i ≤ n) : d = detR n M := by
 obtain rfl : i = n := by omega
 obtain ⟨s, hs⟩ := h.el.st hn
 exact hs.done hn
theorem row_done' {n i j : Nat} {m mj : Mx} {f : Rat} {FM : Nat → Rat} (hij : i < j) (hf : m j i / m i i = f) (hm : rowsM false i m m j = mj)
  (h1 : ∀ c, m j c - f * m i c = FM c) : ∀ r c, r < n → c < n → rowsM false i m m (j + 1) r c = colsM mj j FM n r c := by
 intro r c hr hc
 rw [rowsM_row false i m m ⟨by omega, .inr hij⟩, hm, hf]
 unfold rowM colsM
 by_cases e : r = j
 ·rw [if_pos e, if_pos ⟨e, hc⟩, ← hm, rowsM_of (by omega), rowsM_of (by omega)]
  exact h1 c
 ·rw [if_neg e, if_neg (fun h => e h.1)]
theorem fit_row {n j : Nat} {mj m' : Mx} {FM : Nat → Rat} (h : FitM n mj) (hf : ∀ c, c < n → fits (FM c) = true) (he : ∀ r c, r < n → c < n → m' r c = colsM mj j FM n r c) : FitM n m' := by
 intro r c hr hc
 rw [he r c hr hc]
 unfold colsM
 by_cases e : r = j ∧ c < n
 ·rw [if_pos e]; exact hf c hc
 ·rw [if_neg e]; exact h r c hr hc
theorem rows_skip' {i j : Nat} {m : Mx} (h : j = i ∨ j < i ∨ m j i = 0) : rowsM false i m m (j + 1) = rowsM false i m m j := by
 rcases h with h | h1 | h
 ·exact rowsM_skip _ _ _ _ (by omega)
 ·exact rowsM_skip _ _ _ _ (fun h => h.2.elim (fun h => by cases h) (fun h => by omega))
 ·exact rowsM_none _ _ _ _ h
attribute [local irreducible] wpOp
set_option linter.unusedVariables false in
def relKs14 (d p dp : Rat) (n bm C D i gi Ci : Nat) : List RK :=
 [.pure (.agg #[.string (numS d), .string (denS d)]),
  .pure (.slice (some ⟨bm, 0, none⟩) n C),
  .pure (.int .i64 (i : Int)),
  .pure (.pointer (some ⟨bm, i, none⟩)),
  .pure (.slice (some ⟨gi, 0, none⟩) n Ci),
  .pure (.int .i64 (i : Int)),
  .pure (.pointer (some ⟨gi, i * 2, none⟩)),
  .pure (.agg #[.string (numS p), .string (denS p)]),
  .pure (.agg #[.string (numS dp), .string (denS dp)]),
  .put 0]
set_option linter.unusedVariables false in
def relbKs14 (d p dp : Rat) (n bm C D i gi Ci : Nat) : List RK :=
 [.pure (.agg #[.string (numS d), .string (denS d)]),
  .pure (.slice (some ⟨bm, 0, none⟩) n C),
  .pure (.int .i64 (i : Int)),
  .pure (.pointer (some ⟨bm, i, none⟩)),
  .pure (.slice (some ⟨gi, 0, none⟩) n Ci),
  .pure (.int .i64 (i : Int)),
  .pure (.pointer (some ⟨gi, i * 2, none⟩)),
  .pure (.agg #[.string (numS p), .string (denS p)]),
  .any (fun _ _ => False),
  .put 0]
set_option linter.unusedVariables false in
def relKs19 (q p f : Rat) (n bm C i j gi gj Ci Cj : Nat) : List RK :=
 [.pure (.slice (some ⟨bm, 0, none⟩) n C),
  .pure (.int .i64 (j : Int)),
  .pure (.pointer (some ⟨bm, j, none⟩)),
  .pure (.slice (some ⟨gj, 0, none⟩) n Cj),
  .pure (.int .i64 (i : Int)),
  .pure (.pointer (some ⟨gj, i * 2, none⟩)),
  .pure (.agg #[.string (numS q), .string (denS q)]),
  .pure (.slice (some ⟨bm, 0, none⟩) n C),
  .pure (.int .i64 (i : Int)),
  .pure (.pointer (some ⟨bm, i, none⟩)),
  .pure (.slice (some ⟨gi, 0, none⟩) n Ci),
  .pure (.int .i64 (i : Int)),
  .pure (.pointer (some ⟨gi, i * 2, none⟩)),
  .pure (.agg #[.string (numS p), .string (denS p)]),
  .pure (.agg #[.string (numS f), .string (denS f)]),
  .box none #[.string ⟨#[]⟩, .string ⟨#[]⟩] #[.string (numS f), .string (denS f)] 30 16,
  .put 15]
set_option linter.unusedVariables false in
def relbKs19 (q p : Rat) (n bm C i j gi gj Ci Cj : Nat) : List RK :=
 [.pure (.slice (some ⟨bm, 0, none⟩) n C),
  .pure (.int .i64 (j : Int)),
  .pure (.pointer (some ⟨bm, j, none⟩)),
  .pure (.slice (some ⟨gj, 0, none⟩) n Cj),
  .pure (.int .i64 (i : Int)),
  .pure (.pointer (some ⟨gj, i * 2, none⟩)),
  .pure (.agg #[.string (numS q), .string (denS q)]),
  .pure (.slice (some ⟨bm, 0, none⟩) n C),
  .pure (.int .i64 (i : Int)),
  .pure (.pointer (some ⟨bm, i, none⟩)),
  .pure (.slice (some ⟨gi, 0, none⟩) n Ci),
  .pure (.int .i64 (i : Int)),
  .pure (.pointer (some ⟨gi, i * 2, none⟩)),
  .pure (.agg #[.string (numS p), .string (denS p)]),
  .any (fun _ _ => False),
  .box none #[.string ⟨#[]⟩, .string ⟨#[]⟩] #[undef] 30 16,
  .put 15]
set_option linter.unusedVariables false in
def relKs23 (f x y fy z : Rat) (n bm C i j c gi gj Ci Cj b12 : Nat) : List RK :=
 [.pure (.slice (some ⟨bm, 0, none⟩) n C),
  .pure (.int .i64 (j : Int)),
  .pure (.pointer (some ⟨bm, j, none⟩)),
  .pure (.slice (some ⟨gj, 0, none⟩) n Cj),
  .pure (.int .i64 (c : Int)),
  .pure (.slice (some ⟨bm, 0, none⟩) n C),
  .pure (.int .i64 (j : Int)),
  .pure (.pointer (some ⟨bm, j, none⟩)),
  .pure (.slice (some ⟨gj, 0, none⟩) n Cj),
  .pure (.int .i64 (c : Int)),
  .pure (.pointer (some ⟨gj, c * 2, none⟩)),
  .pure (.agg #[.string (numS x), .string (denS x)]),
  .pure (.agg #[.string (numS f), .string (denS f)]),
  .pure (.slice (some ⟨bm, 0, none⟩) n C),
  .pure (.int .i64 (i : Int)),
  .pure (.pointer (some ⟨bm, i, none⟩)),
  .pure (.slice (some ⟨gi, 0, none⟩) n Ci),
  .pure (.int .i64 (c : Int)),
  .pure (.pointer (some ⟨gi, c * 2, none⟩)),
  .pure (.agg #[.string (numS y), .string (denS y)]),
  .pure (.agg #[.string (numS fy), .string (denS fy)]),
  .pure (.agg #[.string (numS z), .string (denS z)]),
  .put 0,
  .put 0]
set_option linter.unusedVariables false in
def relbKs23 (f x y fy z : Rat) (n bm C i j c gi gj Ci Cj b12 : Nat) : List RK :=
 [.pure (.slice (some ⟨bm, 0, none⟩) n C),
  .pure (.int .i64 (j : Int)),
  .pure (.pointer (some ⟨bm, j, none⟩)),
  .pure (.slice (some ⟨gj, 0, none⟩) n Cj),
  .pure (.int .i64 (c : Int)),
  .pure (.slice (some ⟨bm, 0, none⟩) n C),
  .pure (.int .i64 (j : Int)),
  .pure (.pointer (some ⟨bm, j, none⟩)),
  .pure (.slice (some ⟨gj, 0, none⟩) n Cj),
  .pure (.int .i64 (c : Int)),
  .pure (.pointer (some ⟨gj, c * 2, none⟩)),
  .pure (.agg #[.string (numS x), .string (denS x)]),
  .pure (.agg #[.string (numS f), .string (denS f)]),
  .pure (.slice (some ⟨bm, 0, none⟩) n C),
  .pure (.int .i64 (i : Int)),
  .pure (.pointer (some ⟨bm, i, none⟩)),
  .pure (.slice (some ⟨gi, 0, none⟩) n Ci),
  .pure (.int .i64 (c : Int)),
  .pure (.pointer (some ⟨gi, c * 2, none⟩)),
  .pure (.agg #[.string (numS y), .string (denS y)]),
  .pure (.agg #[.string (numS fy), .string (denS fy)]),
  .any (fun _ _ => False),
  .put 0,
  .put 0]
set_option linter.unusedVariables false in
def relcKs23 (f x y fy z : Rat) (n bm C i j c gi gj Ci Cj b12 : Nat) : List RK :=
 [.pure (.slice (some ⟨bm, 0, none⟩) n C),
  .pure (.int .i64 (j : Int)),
  .pure (.pointer (some ⟨bm, j, none⟩)),
  .pure (.slice (some ⟨gj, 0, none⟩) n Cj),
  .pure (.int .i64 (c : Int)),
  .pure (.slice (some ⟨bm, 0, none⟩) n C),
  .pure (.int .i64 (j : Int)),
  .pure (.pointer (some ⟨bm, j, none⟩)),
  .pure (.slice (some ⟨gj, 0, none⟩) n Cj),
  .pure (.int .i64 (c : Int)),
  .pure (.pointer (some ⟨gj, c * 2, none⟩)),
  .pure (.agg #[.string (numS x), .string (denS x)]),
  .pure (.agg #[.string (numS f), .string (denS f)]),
  .pure (.slice (some ⟨bm, 0, none⟩) n C),
  .pure (.int .i64 (i : Int)),
  .pure (.pointer (some ⟨bm, i, none⟩)),
  .pure (.slice (some ⟨gi, 0, none⟩) n Ci),
  .pure (.int .i64 (c : Int)),
  .pure (.pointer (some ⟨gi, c * 2, none⟩)),
  .pure (.agg #[.string (numS y), .string (denS y)]),
  .any (fun _ _ => False),
  .pure (undef),
  .put 0,
  .put 0]
set_option linter.unusedSimpArgs false in
set_option linter.unusedVariables false in
theorem relim_any (n : Nat) (M : Mx) (base bm C : Nat) (gm : Nat → Nat) (W : World) (h1 : 1 ≤ n) (h5 : n ≤ 5) (hM : MxAt W bm n n gm M) (hb : base ≤ bm) (hg : ∀ r, r < n → base ≤ gm r) (hF : FitM n M) (hE : Env W) (hP : Past base) :
  Calls Tryz.prog 188 #[.slice (some ⟨bm, 0, none⟩) n C, .bool false] W fun e w' => ElR n M e ∧ Below base W w' := by
 have HE0 := hid hE
 have HP := hid hP
 have HF := hid hF
 have hbs : base ≤ W.heap.size := Nat.le_trans hb (Nat.le_of_lt hM.hd.lt)
 have T0 := (fun W (h : Env W) => of_any 0 W (by decide) (by decide) h.tab)
 have T1 := (fun W (h : Env W) => of_any 1 W (by decide) (by decide) h.tab)
 obtain ⟨q0, hq0⟩ : ∃ q : Rat, ((0 : Int) : Rat) = q := ⟨_, rfl⟩
 obtain ⟨q1, hq1⟩ : ∃ q : Rat, ((1 : Int) : Rat) = q := ⟨_, rfl⟩
 rw [hq0, fracV_is q0] at T0
 rw [hq1, fracV_is q1] at T1
 replace T0 := hid T0
 replace T1 := hid T1
 have HQ0 := hid (show q0 = 0 from hq0.symm)
 have HQ1 := hid (show q1 = 1 from hq1.symm)
 have TU := hid (fun W' ge => unit_any n W' h1 (by omega) ge)
 have hb0 : Below W.heap.size W (W.alloc (.cells #[.string ⟨#[]⟩, .string ⟨#[]⟩] 30)) := (Below.refl _ _).alloc (Nat.le_refl _) _
 have HR := hid (heap_alloc_new W (.cells #[.string ⟨#[]⟩, .string ⟨#[]⟩] 30))
 have HM := hid hM
 have HG0 := hid hb0
 have HGE := hid (And.intro hb hg)
 have HBS := hid hbs
 obtain ⟨R, hR⟩ : ∃ R, W.heap.size = R := ⟨_, rfl⟩
 obtain ⟨W0, hW0⟩ : ∃ Z, W.alloc (.cells #[.string ⟨#[]⟩, .string ⟨#[]⟩] 30) = Z := ⟨_, rfl⟩
 rw [hW0] at HR HG0
 rw [hR] at HR
 have EW0 := hid hW0
 have ER := hid hR
 clear hq0 hq1 hE hP hb0 hM hb hg hbs hF hR hW0
 go_enter Tryz.func188, Tryz.ntmps188
 go_wp2_with fail
 rw [EW0.out, ER.out]
 refine (TU.out _ (HE0.out.below HG0.out)).mono ?_
 rintro e w1 ⟨bo, go, rfl, hmo, hbo, hgo, hb⟩
 have HR1 := hid (keep_block HR.out hb)
 have HG1 := hid (HG0.out.trans (hb.mono HG0.out.size))
 have HMO := hid hmo
 have HGO := hid hgo
 have HBO := hid (show R < bo by have := heap_lt HR.out; omega)
 clear hb hmo hbo hgo HR HG0
 go_wp2_with fail
 refine (T1.out _ (HE0.out.below HG1.out)).mono ?_
 rintro e w2 ⟨rfl, hb⟩
 have HI := hid (show ElI W base bm bo R w2.heap.size n gm go M unitM q1 (w2.alloc (.cells #[.string (numS q1), .string (denS q1)] 30)) from by
  have hb2 : Below w2.heap.size w2 (w2.alloc (.cells #[.string (numS q1), .string (denS q1)] 30)) := (Below.refl _ _).alloc (Nat.le_refl _) _
  have hl := (HG1.out.trans (hb.mono HG1.out.size)).trans (hb2.mono (HG1.out.trans (hb.mono HG1.out.size)).size)
  have hs := HG1.out.size
  have hs2 := hb.size
  have hl1 := HMO.out.hd.lt
  refine ⟨HM.out.below hl, (HMO.out.below hb).below hb2, keep_block (keep_block HR1.out hb) hb2, heap_alloc_new w2 _, ⟨by rw [← ER.out]; exact HM.out.hd.lt, fun r hr => by rw [← ER.out]; exact (HM.out.rows r hr).lt⟩, ⟨HBO.out, by omega, fun r hr => ?_⟩, ⟨HGE.out.1, by rw [← ER.out]; exact HBS.out, HGE.out.2⟩, hl.mono HBS.out⟩
  have h3 := HGO.out r hr
  have h4 := (HMO.out.rows r hr).lt
  have h5 := HBO.out
  omega)
 clear hb HR1 HG1 HMO HGO HM HGE TU HBS
 go_wp2_with fail
 obtain ⟨D, hD⟩ : ∃ D, w2.heap.size = D := ⟨_, rfl⟩
 rw [hD] at HI ⊢
 clear hD EW0
 have HF1 := hid (show fits (1 : Rat) = true from fits_int 1 (by decide))
 go_loopg [9, 10, 11, 12, 13, 22] n (fun gh v9 v10 v11 v12 v13 v22 wx => ∃ (i : Nat) (gm go : Nat → Nat) (m out : Mx) (d : Rat), v22 = .int .i64 (i : Int) ∧ i ≤ n ∧ gh = n - i ∧ ElI W base bm bo R D n gm go m out d wx ∧ Ep n M i m d ∧ FitM n m ∧ fits d = true ∧ Fine n M i)
 case atStart => exact ⟨0, gm, go, M, unitM, q1, rfl, Nat.zero_le _, rfl, HI.out, by rw [HQ1.out]; exact .start, HF.out, by rw [HQ1.out]; exact HF1.out, Fine.start n M⟩
 case round =>
  clear HI HF
  obtain ⟨i, gm, go, m, out, d, rfl, hi, hgi, hI, hS, hFm, hFd, hFi⟩ := hrel
  have HFI := hid hFi
  have HI := hid hI
  have HS := hid hS
  have HF := hid hFm
  have HFD := hid hFd
  clear hI hS hFm hFd hFi
  by_cases hlt : i < n
  ·skip
   have hde : decide ((i : Int) < (n : Int)) = true := decide_eq_true (by omega)
   have hde2 : decide (i < n) = true := decide_eq_true hlt
   have hi0 : (0 : Int) ≤ (i : Int) := by omega
   have hi1 : (i : Int) < (n : Int) := by omega
   have hwk : IntKind.i64.wrap ((i : Int) + 1) = (i : Int) + 1 := IntWalk.i64_in _ (by omega)
   go_upto_block 2 with fail
   go_cut [10, 22] (fun v10 v22 wx => v22 = .int .i64 (i : Int) ∧ ∃ k : Nat, v10 = .int .i64 (k : Int) ∧ i ≤ k ∧ k ≤ n ∧ (∀ r, i ≤ r → r < k → m r i = 0) ∧ (k < n → m k i ≠ 0) ∧ ElI W base bm bo R D n gm go m out d wx)
   case first =>
    as_aux_lemma =>
     go_wp2_with fail
     go_loopg [10] (n - i) (fun gh v10 wx => ∃ k : Nat, v10 = .int .i64 (k : Int) ∧ i ≤ k ∧ k ≤ n ∧ gh = n - k ∧ (∀ r, i ≤ r → r < k → m r i = 0) ∧ ElI W base bm bo R D n gm go m out d wx)
     case atStart => exact ⟨i, rfl, Nat.le_refl _, hi, rfl, fun r h0 h1 => absurd h1 (by omega), HI.out⟩
     case round =>
      clear HI
      obtain ⟨k, rfl, hik, hk, hgk, hz, hI⟩ := hrel
      have HI := hid hI
      have HZ := hid hz
      clear hI hz
      by_cases hkt : k < n
      ·have hke : decide ((k : Int) < (n : Int)) = true := decide_eq_true (by omega)
       have hke2 : decide (k < n) = true := decide_eq_true hkt
       have hk0 : (0 : Int) ≤ (k : Int) := by omega
       have hk1 : (k : Int) < (n : Int) := by omega
       have hkw : IntKind.i64.wrap ((k : Int) + 1) = (k : Int) + 1 := IntWalk.i64_in _ (by omega)
       obtain ⟨C1, y0⟩ := HI.out.m.hd.at hkt
       obtain ⟨c0, c1⟩ := (HI.out.m.rows k hkt).item hlt
       have hfq := HF.out k i hkt hlt
       obtain ⟨q, hq⟩ : ∃ q, m k i = q := ⟨_, rfl⟩
       obtain ⟨G, hG⟩ : ∃ G, gm k = G := ⟨_, rfl⟩
       rw [hq] at c0 c1 hfq
       rw [hG] at y0 c0 c1
       have TS := hid (fun W' ge => fm_sign q W' hfq ge)
       rw [fracV_is q] at TS
       have HE := hid (HI.out.env HE0.out HP.out)
       have HQM := hid hq
       clear hq hG hfq
       go_wp2_with fail
       refine (TS.out _ HE.out).mono ?_
       rintro e w3 ⟨rfl, hb⟩
       replace HI := hid (HI.out.step hb)
       clear hb y0 c0 c1 HE
       by_cases hqz : q = 0
       ·have hc : cmpR q 0 = 0 := if_pos hqz
        rw [hc]
        have HZ2 := hid (show ∀ r, i ≤ r → r < k + 1 → m r i = 0 from fun r h0 h1 => by
         by_cases e : r = k
         ·subst e; rw [HQM.out]; exact hqz
         ·exact HZ.out r h0 (by omega))
        clear hqz hc
        go_wp2
        go_roundg (n - (k + 1))
        case measure => omega
        case rel => exact ⟨k + 1, by go_num, by omega, by omega, by omega, HZ2.out, HI.out⟩
       ·have hc : (cmpR q 0 == 0) = false := by simp only [beq_eq_false_iff_ne, ne_eq]; exact cmp_ne' hqz
        have hc2 : decide (cmpR q 0 = 0) = false := decide_eq_false (cmp_ne' hqz)
        have hc3 : (cmpR q 0 = 0) = False := eq_false (cmp_ne' hqz)
        have HQZ := hid hqz
        clear hqz
        go_wp2
        go_meet
        case rel => exact ⟨rfl, k, rfl, hik, hk, HZ.out, fun _ => by rw [HQM.out]; exact HQZ.out, HI.out⟩
      ·have hke : decide ((k : Int) < (n : Int)) = false := decide_eq_false (by omega)
       have hke2 : decide (k < n) = false := decide_eq_false hkt
       have HKN := hid (show k = n by omega)
       clear hkt
       go_wp2
       go_meet
       case rel => exact ⟨rfl, k, rfl, hik, hk, HZ.out, fun h => absurd h (by have := HKN.out; omega), HI.out⟩
   case rest =>
    obtain ⟨rfl, k, rfl, hik, hk, hz, hnz, hI⟩ := hcut
    have HZ := hid hz
    have HNZ := hid hnz
    replace HI := hid hI
    clear hz hnz hI
    by_cases hkn : k < n
    ·skip
     have hke : ((k : Int) == (n : Int)) = false := by simp only [beq_eq_false_iff_ne, ne_eq]; omega
     have hke2 : decide ((k : Int) = (n : Int)) = false := decide_eq_false (by omega)
     have hke3 : decide (k = n) = false := decide_eq_false (by omega)
     have hke4 : (k == n) = false := by simp only [beq_eq_false_iff_ne, ne_eq]; omega
     have HMK := hid (HNZ.out hkn)
     clear HNZ
     go_upto_if 48 with fail
     clear hke hke2 hke3 hke4
     go_cut [9, 10, 22] (fun v9 v10 v22 wx => v9 = .int .i64 (i : Int) ∧ v22 = .int .i64 (i : Int) ∧ ∃ (gm go : Nat → Nat) (m out : Mx) (d : Rat), ElI W base bm bo R D n gm go m out d wx ∧ PvSt n M i m d ∧ FitM n m ∧ fits d = true ∧ m i i ≠ 0)
     case first =>
      as_aux_lemma =>
       by_cases hki : k = i
       ·subst hki
        have hx : ((k : Int) != (k : Int)) = false := by simp
        have hx2 : (k != k) = false := by simp
        rw [hx]
        go_wp2
        go_meet
        case rel => exact ⟨rfl, rfl, gm, go, m, out, d, HI.out, .same HS.out hlt HMK.out, HF.out, HFD.out, HMK.out⟩
       ·have hx : ((k : Int) != (i : Int)) = true := by simp; omega
        rw [hx]
        have hik' : i < k := by omega
        have hi0 : (0 : Int) ≤ (i : Int) := by omega
        have hi1 : (i : Int) < (n : Int) := by omega
        have hk0 : (0 : Int) ≤ (k : Int) := by omega
        have hk1 : (k : Int) < (n : Int) := by omega
        obtain ⟨C1, y1⟩ := HI.out.m.hd.at hlt
        obtain ⟨C2, y2⟩ := HI.out.m.hd.at hkn
        obtain ⟨C3, y3⟩ := HI.out.o.hd.at hlt
        obtain ⟨C4, y4⟩ := HI.out.o.hd.at hkn
        have HW := hid (HI.out.swap hlt hkn C2 C1 C4 C3)
        have HNB := hid (show bo ≠ bm from by have := HI.out.lm.1; have := HI.out.lo.1; omega)
        have HYM := hid y2
        have HYO := hid y3
        have HYP := hid y4
        have HID := hid (HI.out.step ((Below.refl wc.heap.size wc).drew))
        have z1 := HI.out.m.hd.free i
        have z2 := HI.out.m.hd.free k
        have z3 := HI.out.o.hd.free i
        have z4 := HI.out.o.hd.free k
        obtain ⟨xi, hxi⟩ : ∃ x, gm i = x := ⟨_, rfl⟩
        obtain ⟨xk, hxk⟩ : ∃ x, gm k = x := ⟨_, rfl⟩
        obtain ⟨oi, hoi⟩ : ∃ x, go i = x := ⟨_, rfl⟩
        obtain ⟨ok', hok'⟩ : ∃ x, go k = x := ⟨_, rfl⟩
        rw [hxi] at y1 HW
        rw [hxk] at y2 HW HYM
        rw [hoi] at y3 HW HYO
        rw [hok'] at y4 HW HYP
        clear hxi hxk hoi hok'
        have n1 : (k = i) = False := eq_false (by omega)
        have n2 : (i = k) = False := eq_false (by omega)
        have n3 : (bo = bm) = False := eq_false HNB.out
        have n4 : (bm = bo) = False := eq_false (fun h => HNB.out h.symm)
        clear hki hx
        go_upto_region 12 with fail
        have HI2 := hid (show ElI W base bm bo R D n (swapF gm i k) (swapF go i k) (swapM m i k) (swapM out i k) d (((((wc.setCell ⟨bm, i, none⟩ (.slice (some ⟨xk, 0, none⟩) n C2)).setCell ⟨bm, k, none⟩ (.slice (some ⟨xi, 0, none⟩) n C1)).setCell ⟨bo, i, none⟩ (.slice (some ⟨ok', 0, none⟩) n C4)).setCell ⟨bo, k, none⟩ (.slice (some ⟨oi, 0, none⟩) n C3)).drew) from HW.out.step ((Below.refl _ _).drew))
        go_region
        obtain ⟨w5, hw5⟩ : ∃ Z, ((((wc.setCell ⟨bm, i, none⟩ (.slice (some ⟨xk, 0, none⟩) n C2)).setCell ⟨bm, k, none⟩ (.slice (some ⟨xi, 0, none⟩) n C1)).setCell ⟨bo, i, none⟩ (.slice (some ⟨ok', 0, none⟩) n C4)).setCell ⟨bo, k, none⟩ (.slice (some ⟨oi, 0, none⟩) n C3)).drew = Z := ⟨_, rfl⟩
        rw [hw5] at HI2 ⊢
        have hfd := HFD.out
        obtain ⟨nd, hnd⟩ : ∃ x, -d = x := ⟨_, rfl⟩
        have TN := (fun W' ge => fm_neg d W' hfd ge)
        rw [hnd, fracV_is d, fracV_is nd] at TN
        have TNG := hid TN
        have HND := hid hnd
        have HIK := hid hik'
        have HE := hid (HI2.out.env HE0.out HP.out)
        clear TN hw5 y1 y2 y3 y4 z1 z2 z3 z4 n1 n2 n3 n4 HW HI HID HNB HYM HYO HYP hfd hnd hik'
        obtain ⟨⟨x0, x1⟩, _⟩ := two_at HI2.out.det
        go_wp2_with fail
        refine (TNG.out _ HE.out).mono ?_
        rintro e w6 ⟨rfl, hb⟩
        have HI3 := hid (HI2.out.step hb)
        clear hb HI2 x0 x1 HE
        obtain ⟨⟨x0, x1⟩, f0, f1⟩ := two_at HI3.out.det
        have HI4 := hid (HI3.out.setd nd)
        go_wp2
        go_meet
        case rel => exact ⟨rfl, rfl, swapF gm i k, swapF go i k, swapM m i k, swapM out i k, -d, by rw [HND.out]; exact HI4.out, PvSt.swap HS.out HIK.out ⟨by have := HIK.out; omega, hkn, HZ.out, HMK.out⟩, HF.out.swap hlt hkn, fits_neg' HFD.out, by rw [show swapM m i k i = m k from if_pos rfl]; exact HMK.out⟩
     case rest =>
      obtain ⟨rfl, rfl, gm, go, m, out, d, hI, hS, hFm, hFd, hii⟩ := hcut
      replace HI := hid hI
      have HS := hid hS
      replace HF := hid hFm
      replace HFD := hid hFd
      have HII := hid hii
      clear hI hS hFm hFd hii HMK HZ
      have hfd := HFD.out
      have hfp := HF.out i i hlt hlt
      obtain ⟨c0, c1⟩ := (HI.out.m.rows i hlt).item hlt
      obtain ⟨Ci, ygi⟩ := HI.out.m.hd.at hlt
      obtain ⟨gi, egi⟩ : ∃ x, gm i = x := ⟨_, rfl⟩
      rw [egi] at ygi
      have HYgi := hid ygi
      have HEgi := hid egi
      clear ygi egi
      rw [HEgi.out] at c0 c1
      obtain ⟨p, hp⟩ : ∃ x, m i i = x := ⟨_, rfl⟩
      obtain ⟨dp, hdp⟩ : ∃ x, d * p = x := ⟨_, rfl⟩
      have HPP := hid hp
      have HDP := hid hdp
      rw [hp] at hfp c0 c1
      have HC0 := hid c0
      have HC1 := hid c1
      have H8 := hid HI.out.det
      have HFP := hid hfp
      clear c0 c1 hp hdp hfd hfp
      go_upto_region 14 with fail
      go_cut [22] (fun v22 wx => v22 = .int .i64 (i : Int) ∧ fits dp = true ∧ ElI W base bm bo R D n gm go m out dp wx)
      case first =>
       cases hfr : fits dp with
       | true =>
        as_aux_lemma =>
         have TM := (fun W' ge => fm_mul d p W' HFD.out HFP.out (by rw [HDP.out]; exact hfr) ge)
         rw [HDP.out, fracV_is d, fracV_is p, fracV_is dp] at TM
         replace TM := hid TM
         have HFR := hid hfr
         clear hfr
         go_wp2_with fail
         have hok : okB 10 (relKs14 d p dp n bm C D i gi Ci) = true := by kernel_rfl
         have hna := noAny_of (ks := (relKs14 d p dp n bm C D i gi Ci)) (by kernel_rfl)
         have hla := lasts_of hna
         refine wp_region_facts_abs (row := none) (w := wc) 9 1 10 [9] (relKs14 d p dp n bm C D i gi Ci) [some 79, some 80, some 81, some 82, some 83, some 84, some 85, some 86, some 87, none] [(8, .pointer (some ⟨D, 0, none⟩)), (0, .slice (some ⟨bm, 0, none⟩) n C), (9, .int .i64 (i : Int))] 220 (by kernel_rfl) (by kernel_rfl) (by kernel_rfl) rfl rfl (by decide) rfl (by kernel_rfl) rfl (Nat.le_of_eq rfl) rfl ?ho [u79, u80, u81, u82, u83, u84, u85, u86, u87, undef] ?h00 (Fs.start rfl rfl) ?hs ?hd
         case ho =>
          intro k x hk
          match k, hk with
          | 0, hk => have hk := Option.some.inj hk; subst hk; rfl
          | 1, hk => have hk := Option.some.inj hk; subst hk; rfl
          | 2, hk => have hk := Option.some.inj hk; subst hk; rfl
          | _ + 3, hk => exact absurd hk (by simp)
         case h00 => simp only [putO, layL]
         case hs =>
          rintro A listed vs Wr hF hR i hi hun hpre
          obtain ⟨s0, s1, s2, s3, s4, s5, s6, s7, s8, s9, hvs⟩ := exl_of 10 vs (fun l => vs = l) hF.len rfl
          subst hvs
          have hge := Nat.zero_le i
          rcases Nat.lt_or_ge i 4 with hi | hge
          ·rcases Nat.lt_or_ge i 2 with hi | hge
           ·rcases Nat.lt_or_ge i 1 with hi | hge
            ·obtain rfl := eqi hi hge
             have ro8 : A.tmps[8]? = some (.pointer (some ⟨D, 0, none⟩)) := hR.out 0 _ rfl
             have hcc := (two_at (keep_block H8.out (below_none hF.low))).1
             have cH80 := hcc.1
             have cH81 := hcc.2
             clear hcc
             refine step_of ⟨some 79, _, _, _, _, _⟩ rfl (fun K' hK => ?_)
             go_simp
             exact hK.out _ _ ⟨_, hF.pure hok hla hpre rfl (Below.refl _ _), rfl⟩
            obtain rfl := eqi hi hge
            have ro0 : A.tmps[0]? = some (.slice (some ⟨bm, 0, none⟩) n C) := hR.out 1 _ rfl
            refine step_of ⟨some 80, _, _, _, _, _⟩ rfl (fun K' hK => ?_)
            go_simp
            exact hK.out _ _ ⟨_, hF.pure hok hla hpre rfl (Below.refl _ _), rfl⟩
           rcases Nat.lt_or_ge i 3 with hi | hge
           ·obtain rfl := eqi hi hge
            have ro9 : A.tmps[9]? = some (.int .i64 (i : Int)) := hR.out 2 _ rfl
            refine step_of ⟨some 81, _, _, _, _, _⟩ rfl (fun K' hK => ?_)
            go_simp
            exact hK.out _ _ ⟨_, hF.pure hok hla hpre rfl (Below.refl _ _), rfl⟩
           obtain rfl := eqi hi hge
           have p1 := hpre 1 (by kernel_rfl)
           have e1 : s1 = .slice (some ⟨bm, 0, none⟩) n C := hF.get 1 _ rfl (.inr p1)
           subst e1
           have r1 : A.tmps[80]? = some (.slice (some ⟨bm, 0, none⟩) n C) := hR.own 1 _ _ rfl rfl
           have p2 := hpre 2 (by kernel_rfl)
           have e2 : s2 = .int .i64 (i : Int) := hF.get 2 _ rfl (.inr p2)
           subst e2
           have r2 : A.tmps[81]? = some (.int .i64 (i : Int)) := hR.own 2 _ _ rfl rfl
           refine step_of ⟨some 82, _, _, _, _, _⟩ rfl (fun K' hK => ?_)
           go_simp
           exact hK.out _ _ ⟨_, hF.pure hok hla hpre rfl (Below.refl _ _), rfl⟩
          rcases Nat.lt_or_ge i 6 with hi | hge
          ·rcases Nat.lt_or_ge i 5 with hi | hge
           ·obtain rfl := eqi hi hge
            have p3 := hpre 3 (by kernel_rfl)
            have e3 : s3 = .pointer (some ⟨bm, i, none⟩) := hF.get 3 _ rfl (.inr p3)
            subst e3
            have r3 : A.tmps[82]? = some (.pointer (some ⟨bm, i, none⟩)) := hR.own 3 _ _ rfl rfl
            have y0 := cell_below HYgi.out (below_none hF.low)
            refine step_of ⟨some 83, _, _, _, _, _⟩ rfl (fun K' hK => ?_)
            go_simp
            exact hK.out _ _ ⟨_, hF.pure hok hla hpre rfl (Below.refl _ _), rfl⟩
           obtain rfl := eqi hi hge
           have ro9 : A.tmps[9]? = some (.int .i64 (i : Int)) := hR.out 2 _ rfl
           refine step_of ⟨some 84, _, _, _, _, _⟩ rfl (fun K' hK => ?_)
           go_simp
           exact hK.out _ _ ⟨_, hF.pure hok hla hpre rfl (Below.refl _ _), rfl⟩
          rcases Nat.lt_or_ge i 7 with hi | hge
          ·obtain rfl := eqi hi hge
           have p4 := hpre 4 (by kernel_rfl)
           have e4 : s4 = .slice (some ⟨gi, 0, none⟩) n Ci := hF.get 4 _ rfl (.inr p4)
           subst e4
           have r4 : A.tmps[83]? = some (.slice (some ⟨gi, 0, none⟩) n Ci) := hR.own 4 _ _ rfl rfl
           have p5 := hpre 5 (by kernel_rfl)
           have e5 : s5 = .int .i64 (i : Int) := hF.get 5 _ rfl (.inr p5)
           subst e5
           have r5 : A.tmps[84]? = some (.int .i64 (i : Int)) := hR.own 5 _ _ rfl rfl
           refine step_of ⟨some 85, _, _, _, _, _⟩ rfl (fun K' hK => ?_)
           go_simp
           exact hK.out _ _ ⟨_, hF.pure hok hla hpre rfl (Below.refl _ _), rfl⟩
          rcases Nat.lt_or_ge i 8 with hi | hge
          ·obtain rfl := eqi hi hge
           have p6 := hpre 6 (by kernel_rfl)
           have e6 : s6 = .pointer (some ⟨gi, i * 2, none⟩) := hF.get 6 _ rfl (.inr p6)
           subst e6
           have r6 : A.tmps[85]? = some (.pointer (some ⟨gi, i * 2, none⟩)) := hR.own 6 _ _ rfl rfl
           have c0 := cell_below HC0.out (below_none hF.low)
           have c1 := cell_below HC1.out (below_none hF.low)
           refine step_of ⟨some 86, _, _, _, _, _⟩ rfl (fun K' hK => ?_)
           go_simp
           exact hK.out _ _ ⟨_, hF.pure hok hla hpre rfl (Below.refl _ _), rfl⟩
          obtain rfl := eqi hi hge
          have p0 := hpre 0 (by kernel_rfl)
          have e0 : s0 = .agg #[.string (numS d), .string (denS d)] := hF.get 0 _ rfl (.inr p0)
          subst e0
          have r0 : A.tmps[79]? = some (.agg #[.string (numS d), .string (denS d)]) := hR.own 0 _ _ rfl rfl
          have p7 := hpre 7 (by kernel_rfl)
          have e7 : s7 = .agg #[.string (numS p), .string (denS p)] := hF.get 7 _ rfl (.inr p7)
          subst e7
          have r7 : A.tmps[86]? = some (.agg #[.string (numS p), .string (denS p)]) := hR.own 7 _ _ rfl rfl
          refine step_of ⟨some 87, _, _, _, _, _⟩ rfl (fun K' hK => ?_)
          go_simp
          go_at_call 147
          (with_reducible refine (TM.out _ ((HI.out.step (below_none hF.low)).env HE0.out HP.out)).mono ?_)
          rintro e Wq ⟨rfl, hq⟩
          exact hK.out _ _ ⟨_, hF.pure hok hla hpre rfl hq, rfl⟩
         case hd =>
          rintro listed vs WA hF hall
          obtain ⟨s0, s1, s2, s3, s4, s5, s6, s7, s8, s9, hvs⟩ := exl_of 10 vs (fun l => vs = l) hF.len rfl
          subst hvs
          have e8 : s8 = .agg #[.string (numS dp), .string (denS dp)] := hF.get 8 _ rfl (.inr (hall 8 (by decide)))
          subst e8
          have hq := below_none hF.low
          replace H8 := hid (keep_block H8.out hq)
          replace HI := hid (HI.out.step hq)
          clear hq
          clear hF hall hok hla hna
          simp only [putO, layL]
          obtain ⟨⟨y0, y1⟩, z0, z1⟩ := two_at HI.out.det
          refine rest_one 9 ⟨none, _, _, _, _, _⟩ rfl (by kernel_rfl) rfl (fun K' hK => ?_)
          go_simp
          refine hK.out _ _ ?_
          refine rest_end ?_
          clear y0 y1 z0 z1 H8 HC0 HC1
          have HI2 := hid (HI.out.setd dp)
          clear HI
          go_wp2_with fail
          go_meet
          case rel => exact ⟨rfl, HFR.out, HI2.out⟩
       | false =>
        as_aux_lemma =>
         have TM := (fun W' ge => fm_mul_over d p W' HFD.out HFP.out (by rw [HDP.out]; exact hfr) ge)
         rw [fracV_is d, fracV_is p] at TM
         replace TM := hid TM
         have HBAD := hid (show ¬ ElFit n i m d from fun h => by have h2 := h.d; rw [HPP.out, HDP.out, hfr] at h2; cases h2)
         clear hfr
         go_wp2_with fail
         have hok : okB 10 (relbKs14 d p dp n bm C D i gi Ci) = true := by kernel_rfl
         have hla : ∀ (ix : Nat) (kx : RK), (relbKs14 d p dp n bm C D i gi Ci)[ix]? = some kx → kx.lasts := by
          intro ix kx hk
          match ix, hk with
          | 0, hk => have hk := Option.some.inj hk; subst hk; exact trivial
          | 1, hk => have hk := Option.some.inj hk; subst hk; exact trivial
          | 2, hk => have hk := Option.some.inj hk; subst hk; exact trivial
          | 3, hk => have hk := Option.some.inj hk; subst hk; exact trivial
          | 4, hk => have hk := Option.some.inj hk; subst hk; exact trivial
          | 5, hk => have hk := Option.some.inj hk; subst hk; exact trivial
          | 6, hk => have hk := Option.some.inj hk; subst hk; exact trivial
          | 7, hk => have hk := Option.some.inj hk; subst hk; exact trivial
          | 8, hk => have hk := Option.some.inj hk; subst hk; exact (fun _ _ _ h _ => h)
          | 9, hk => have hk := Option.some.inj hk; subst hk; exact trivial
          | _ + 10, hk => exact absurd hk (by simp [relbKs14])
         refine wp_region_facts_abs_d (row := none) (w := wc) 9 1 10 [9] (relbKs14 d p dp n bm C D i gi Ci) [some 79, some 80, some 81, some 82, some 83, some 84, some 85, some 86, some 87, none] [(8, .pointer (some ⟨D, 0, none⟩)), (0, .slice (some ⟨bm, 0, none⟩) n C), (9, .int .i64 (i : Int))] 220 (by kernel_rfl) (by kernel_rfl) (by kernel_rfl) rfl rfl (by decide) rfl (by kernel_rfl) rfl (Nat.le_of_eq rfl) rfl ?ho [u79, u80, u81, u82, u83, u84, u85, u86, u87, undef] ?h00 (Fs.start rfl rfl) ?hs ?hd
         case ho =>
          intro k x hk
          match k, hk with
          | 0, hk => have hk := Option.some.inj hk; subst hk; rfl
          | 1, hk => have hk := Option.some.inj hk; subst hk; rfl
          | 2, hk => have hk := Option.some.inj hk; subst hk; rfl
          | _ + 3, hk => exact absurd hk (by simp)
         case h00 => simp only [putO, layL]
         case hs =>
          rintro A listed vs Wr hF hR hD i hi hun hpre
          obtain ⟨s0, s1, s2, s3, s4, s5, s6, s7, s8, s9, hvs⟩ := exl_of 10 vs (fun l => vs = l) hF.len rfl
          subst hvs
          have hge := Nat.zero_le i
          replace hD := hid hD
          rcases Nat.lt_or_ge i 4 with hi | hge
          ·rcases Nat.lt_or_ge i 2 with hi | hge
           ·rcases Nat.lt_or_ge i 1 with hi | hge
            ·obtain rfl := eqi hi hge
             have ro8 : A.tmps[8]? = some (.pointer (some ⟨D, 0, none⟩)) := hR.out 0 _ rfl
             have hcc := (two_at (keep_block H8.out (below_none hF.low))).1
             have cH80 := hcc.1
             have cH81 := hcc.2
             clear hcc
             refine step_of ⟨some 79, _, _, _, _, _⟩ rfl (fun K' hK => ?_)
             go_simp
             exact hK.out _ _ ⟨_, hF.pure hok hla hpre rfl (Below.refl _ _), rfl⟩
            obtain rfl := eqi hi hge
            have ro0 : A.tmps[0]? = some (.slice (some ⟨bm, 0, none⟩) n C) := hR.out 1 _ rfl
            refine step_of ⟨some 80, _, _, _, _, _⟩ rfl (fun K' hK => ?_)
            go_simp
            exact hK.out _ _ ⟨_, hF.pure hok hla hpre rfl (Below.refl _ _), rfl⟩
           rcases Nat.lt_or_ge i 3 with hi | hge
           ·obtain rfl := eqi hi hge
            have ro9 : A.tmps[9]? = some (.int .i64 (i : Int)) := hR.out 2 _ rfl
            refine step_of ⟨some 81, _, _, _, _, _⟩ rfl (fun K' hK => ?_)
            go_simp
            exact hK.out _ _ ⟨_, hF.pure hok hla hpre rfl (Below.refl _ _), rfl⟩
           obtain rfl := eqi hi hge
           have p1 := hpre 1 (by kernel_rfl)
           have e1 : s1 = .slice (some ⟨bm, 0, none⟩) n C := hF.get 1 _ rfl (.inr p1)
           subst e1
           have r1 : A.tmps[80]? = some (.slice (some ⟨bm, 0, none⟩) n C) := hR.own 1 _ _ rfl rfl
           have p2 := hpre 2 (by kernel_rfl)
           have e2 : s2 = .int .i64 (i : Int) := hF.get 2 _ rfl (.inr p2)
           subst e2
           have r2 : A.tmps[81]? = some (.int .i64 (i : Int)) := hR.own 2 _ _ rfl rfl
           refine step_of ⟨some 82, _, _, _, _, _⟩ rfl (fun K' hK => ?_)
           go_simp
           exact hK.out _ _ ⟨_, hF.pure hok hla hpre rfl (Below.refl _ _), rfl⟩
          rcases Nat.lt_or_ge i 6 with hi | hge
          ·rcases Nat.lt_or_ge i 5 with hi | hge
           ·obtain rfl := eqi hi hge
            have p3 := hpre 3 (by kernel_rfl)
            have e3 : s3 = .pointer (some ⟨bm, i, none⟩) := hF.get 3 _ rfl (.inr p3)
            subst e3
            have r3 : A.tmps[82]? = some (.pointer (some ⟨bm, i, none⟩)) := hR.own 3 _ _ rfl rfl
            have y0 := cell_below HYgi.out (below_none hF.low)
            refine step_of ⟨some 83, _, _, _, _, _⟩ rfl (fun K' hK => ?_)
            go_simp
            exact hK.out _ _ ⟨_, hF.pure hok hla hpre rfl (Below.refl _ _), rfl⟩
           obtain rfl := eqi hi hge
           have ro9 : A.tmps[9]? = some (.int .i64 (i : Int)) := hR.out 2 _ rfl
           refine step_of ⟨some 84, _, _, _, _, _⟩ rfl (fun K' hK => ?_)
           go_simp
           exact hK.out _ _ ⟨_, hF.pure hok hla hpre rfl (Below.refl _ _), rfl⟩
          rcases Nat.lt_or_ge i 7 with hi | hge
          ·obtain rfl := eqi hi hge
           have p4 := hpre 4 (by kernel_rfl)
           have e4 : s4 = .slice (some ⟨gi, 0, none⟩) n Ci := hF.get 4 _ rfl (.inr p4)
           subst e4
           have r4 : A.tmps[83]? = some (.slice (some ⟨gi, 0, none⟩) n Ci) := hR.own 4 _ _ rfl rfl
           have p5 := hpre 5 (by kernel_rfl)
           have e5 : s5 = .int .i64 (i : Int) := hF.get 5 _ rfl (.inr p5)
           subst e5
           have r5 : A.tmps[84]? = some (.int .i64 (i : Int)) := hR.own 5 _ _ rfl rfl
           refine step_of ⟨some 85, _, _, _, _, _⟩ rfl (fun K' hK => ?_)
           go_simp
           exact hK.out _ _ ⟨_, hF.pure hok hla hpre rfl (Below.refl _ _), rfl⟩
          rcases Nat.lt_or_ge i 8 with hi | hge
          ·obtain rfl := eqi hi hge
           have p6 := hpre 6 (by kernel_rfl)
           have e6 : s6 = .pointer (some ⟨gi, i * 2, none⟩) := hF.get 6 _ rfl (.inr p6)
           subst e6
           have r6 : A.tmps[85]? = some (.pointer (some ⟨gi, i * 2, none⟩)) := hR.own 6 _ _ rfl rfl
           have c0 := cell_below HC0.out (below_none hF.low)
           have c1 := cell_below HC1.out (below_none hF.low)
           refine step_of ⟨some 86, _, _, _, _, _⟩ rfl (fun K' hK => ?_)
           go_simp
           exact hK.out _ _ ⟨_, hF.pure hok hla hpre rfl (Below.refl _ _), rfl⟩
          obtain rfl := eqi hi hge
          have p0 := hpre 0 (by kernel_rfl)
          have e0 : s0 = .agg #[.string (numS d), .string (denS d)] := hF.get 0 _ rfl (.inr p0)
          subst e0
          have r0 : A.tmps[79]? = some (.agg #[.string (numS d), .string (denS d)]) := hR.own 0 _ _ rfl rfl
          have p7 := hpre 7 (by kernel_rfl)
          have e7 : s7 = .agg #[.string (numS p), .string (denS p)] := hF.get 7 _ rfl (.inr p7)
          subst e7
          have r7 : A.tmps[86]? = some (.agg #[.string (numS p), .string (denS p)]) := hR.own 7 _ _ rfl rfl
          refine step_of ⟨some 87, _, _, _, _, _⟩ rfl (fun K' hK => ?_)
          go_simp
          go_at_call 147
          (with_reducible refine (TM.out _ ((HI.out.step (below_none hF.low)).env HE0.out HP.out)).mono ?_)
          rintro e Wq ⟨rfl, hq⟩
          unfold stopped
          go_wp2
          exact ⟨hD.out, .inr ⟨rfl, i, m, d, HS.out, HBAD.out⟩, HI.out.low.trans (((below_none hF.low).trans (hq.mono (below_none hF.low).size)).mono (Nat.le_trans HI.out.ge.2.1 (Nat.le_of_lt (heap_lt HI.out.res))))⟩
         case hd =>
          rintro listed vs WA hF hall
          obtain ⟨s0, s1, s2, s3, s4, s5, s6, s7, s8, s9, hvs⟩ := exl_of 10 vs (fun l => vs = l) hF.len rfl
          subst hvs
          exact (show False from hF.get 8 _ rfl (.inr (hall 8 (by decide)))).elim
      case rest =>
       obtain ⟨rfl, hfr, hI⟩ := hcut
       have HFR := hid hfr
       have HI2 := hid hI
       clear hI hfr HI H8 HC0 HC1
       go_wp2_with fail
       have HJ0 := hid (show ElI W base bm bo R D n gm go (rowsM false i m m 0) out dp _ by rw [rowsM_zero]; exact HI2.out)
       have HFJ0 := hid (show FitM n (rowsM false i m m 0) by rw [rowsM_zero]; exact HF.out)
       clear HI2
       go_loopg [11, 12, 13, 89] n (fun gh v11 v12 v13 v89 wx => ∃ j : Nat, v89 = .int .i64 (j : Int) ∧ j ≤ n ∧ gh = n - j ∧ ElI W base bm bo R D n gm go (rowsM false i m m j) out dp wx ∧ FitM n (rowsM false i m m j) ∧ ∀ r, i < r → r < j → RowFit n i m r)
       case atStart => exact ⟨0, rfl, Nat.zero_le _, rfl, HJ0.out, HFJ0.out, fun r _ h => absurd h (Nat.not_lt_zero _)⟩
       case round =>
        clear HJ0 HFJ0
        obtain ⟨j, rfl, hj, hgj, hI, hFJ, hRF⟩ := hrel
        have HRF := hid hRF
        have HI := hid hI
        have HFJ := hid hFJ
        clear hI hFJ hRF
        by_cases hjt : j < n
        ·skip
         have hje : decide ((j : Int) < (n : Int)) = true := decide_eq_true (by omega)
         have hje2 : decide (j < n) = true := decide_eq_true hjt
         have hj0 : (0 : Int) ≤ (j : Int) := by omega
         have hj1 : (j : Int) < (n : Int) := by omega
         have hjw : IntKind.i64.wrap ((j : Int) + 1) = (j : Int) + 1 := IntWalk.i64_in _ (by omega)
         have hji : rowsM false i m m j j i = m j i := by rw [rowsM_of (by omega)]
         have hii : ∀ c, rowsM false i m m j i c = m i c := fun c => rowsM_of (by omega)
         have hjc : ∀ c, rowsM false i m m j j c = m j c := fun c => rowsM_of (by omega)
         have HJI := hid hji
         have HIIC := hid hii
         have HJC := hid hjc
         clear hji hii hjc
         go_upto_region 18 with fail
         obtain ⟨sk, hsk⟩ : ∃ b : Bool, decide (j = i ∨ j < i ∨ m j i = 0) = b := ⟨_, rfl⟩
         have HSK := hid hsk
         clear hsk
         go_cut [11, 89, 114] (fun v11 v89 v114 wx => v11 = .int .i64 (j : Int) ∧ v89 = .int .i64 (j : Int) ∧ v114 = .bool sk ∧ ElI W base bm bo R D n gm go (rowsM false i m m j) out dp wx)
         case first =>
          as_aux_lemma =>
           by_cases hij : j = i
           ·have e1 : ((j : Int) == (i : Int)) = true := by simp [hij]
            have e2 : decide ((j : Int) = (i : Int)) = true := decide_eq_true (by omega)
            have HT := hid (show true = sk by rw [← HSK.out]; exact (decide_eq_true (.inl hij)).symm)
            clear hij
            go_wp2
            go_meet
            case rel => exact ⟨rfl, rfl, by rw [HT.out], HI.out⟩
           ·have e1 : ((j : Int) == (i : Int)) = false := by simp only [beq_eq_false_iff_ne, ne_eq]; omega
            have e2 : decide ((j : Int) = (i : Int)) = false := decide_eq_false (by omega)
            have e3 : (j == i) = false := by simp only [beq_eq_false_iff_ne, ne_eq]; omega
            have e4 : decide (j = i) = false := decide_eq_false hij
            have HIJ := hid hij
            clear hij
            by_cases hl : j < i
            ·have l1 : decide ((j : Int) < (i : Int)) = true := decide_eq_true (by omega)
             have l2 : decide (j < i) = true := decide_eq_true hl
             have HT := hid (show true = sk by rw [← HSK.out]; exact (decide_eq_true (.inr (.inl hl))).symm)
             clear hl
             go_wp2
             go_meet
             case rel => exact ⟨rfl, rfl, by rw [HT.out], HI.out⟩
            ·have HLJ := hid hl
             obtain ⟨C1, y0⟩ := HI.out.m.hd.at hjt
             obtain ⟨c0, c1⟩ := (HI.out.m.rows j hjt).item hlt
             have hfq := HF.out j i hjt hlt
             rw [HJI.out] at c0 c1
             obtain ⟨q, hq⟩ : ∃ q, m j i = q := ⟨_, rfl⟩
             obtain ⟨G, hG⟩ : ∃ G, gm j = G := ⟨_, rfl⟩
             rw [hq] at c0 c1 hfq
             rw [hG] at y0 c0 c1
             have TS := hid (fun W' ge => fm_sign q W' hfq ge)
             rw [fracV_is q] at TS
             have HE := hid (HI.out.env HE0.out HP.out)
             have HSQ := hid (show (cmpR q 0 == 0) = sk by
              rw [← HSK.out, ← hq]
              by_cases hz : m j i = 0
              ·rw [decide_eq_true (.inr (.inr hz)), show cmpR (m j i) 0 = 0 from if_pos hz]; rfl
              ·rw [decide_eq_false (fun h => h.elim HIJ.out (fun h => h.elim HLJ.out hz))]
               simp only [beq_eq_false_iff_ne, ne_eq]
               exact cmp_ne' hz)
             clear hq hG hfq
             have l1 : decide ((j : Int) < (i : Int)) = false := decide_eq_false (by omega)
             have l2 : decide (j < i) = false := decide_eq_false hl
             clear hl
             go_wp2_with fail
             refine (TS.out _ HE.out).mono ?_
             rintro e w3 ⟨rfl, hb⟩
             replace HI := hid (HI.out.step hb)
             clear hb y0 c0 c1 HE
             go_wp2
             go_meet
             case rel => exact ⟨rfl, rfl, by rw [← HSQ.out], HI.out⟩
         case rest =>
          obtain ⟨rfl, rfl, rfl, hI⟩ := hcut
          replace HI := hid hI
          clear hI
          cases hsk : sk with
          | true =>
           have HT := hid (rows_skip' (of_decide_eq_true (HSK.out.trans hsk)))
           have HRF2 := hid (show ∀ r, i < r → r < j + 1 → RowFit n i m r from fun r h0 h1 => by
            by_cases e : r < j
            ·exact HRF.out r h0 e
            ·have e2 : r = j := by omega
             rw [e2]
             refine RowFit.zero ?_ fits_zero (fun c hc => HF.out j c hjt hc)
             rcases of_decide_eq_true (HSK.out.trans hsk) with h | h | h
             ·omega
             ·omega
             ·exact h)
           clear hsk
           go_wp2
           go_roundg (n - (j + 1))
           case measure => omega
           case rel => exact ⟨j + 1, by go_num, by omega, by omega, by rw [HT.out]; exact HI.out, by rw [HT.out]; exact HFJ.out, HRF2.out⟩
          | false =>
           have HNS := hid (of_decide_eq_false (HSK.out.trans hsk))
           clear hsk
           have HIJ := hid (show i < j from by
            have h1 : ¬ j = i := fun h => HNS.out (.inl h)
            have h2 : ¬ j < i := fun h => HNS.out (.inr (.inl h))
            omega)
           have hfq := HF.out j i hjt hlt
           obtain ⟨c0, c1⟩ := (HI.out.m.rows j hjt).item hlt
           obtain ⟨d0, d1⟩ := (HI.out.m.rows i hlt).item hlt
           rw [HJI.out] at c0 c1
           rw [HIIC.out] at d0 d1
           clear HYgi HEgi
           obtain ⟨Cj, ygj⟩ := HI.out.m.hd.at hjt
           obtain ⟨gj, egj⟩ : ∃ x, gm j = x := ⟨_, rfl⟩
           rw [egj] at ygj
           have HYgj := hid ygj
           have HEgj := hid egj
           clear ygj egj
           obtain ⟨Ci, ygi⟩ := HI.out.m.hd.at hlt
           obtain ⟨gi, egi⟩ : ∃ x, gm i = x := ⟨_, rfl⟩
           rw [egi] at ygi
           have HYgi := hid ygi
           have HEgi := hid egi
           clear ygi egi
           rw [HEgj.out] at c0 c1
           rw [HEgi.out] at d0 d1
           obtain ⟨q, hq⟩ : ∃ x, m j i = x := ⟨_, rfl⟩
           obtain ⟨f, hf⟩ : ∃ x, q / p = x := ⟨_, rfl⟩
           have HQ := hid hq
           have HFF := hid hf
           have HPZ := hid (show p ≠ 0 by rw [← HPP.out]; exact HII.out)
           rw [hq] at hfq c0 c1
           rw [HPP.out] at d0 d1
           have HFQ := hid hfq
           have HC0 := hid c0
           have HC1 := hid c1
           have HD0 := hid d0
           have HD1 := hid d1
           clear c0 c1 d0 d1 hq hf hfq
           have LTD := hid (heap_lt HI.out.det)
           go_upto_region 19 with fail
           go_cut [11, 12, 89] (fun v11 v12 v89 wx => v11 = .int .i64 (j : Int) ∧ v89 = .int .i64 (j : Int) ∧ fits f = true ∧ ∃ b12, v12 = .pointer (some ⟨b12, 0, none⟩) ∧ D < b12 ∧ wx.heap[b12]? = some (.cells #[.string (numS f), .string (denS f)] 30 (0, 0)) ∧ ElI W base bm bo R D n gm go (rowsM false i m m j) out dp wx)
           case first =>
            cases hff : fits f with
            | true =>
             as_aux_lemma =>
              have TD := (fun W' ge => fm_div q p W' HFQ.out HFP.out HPZ.out (by rw [HFF.out]; exact hff) ge)
              rw [HFF.out, fracV_is q, fracV_is p, fracV_is f] at TD
              replace TD := hid TD
              have HFF2 := hid hff
              clear hff
              go_wp2_with fail
              have hok : okB 17 (relKs19 q p f n bm C i j gi gj Ci Cj) = true := by kernel_rfl
              have hna := noAny_of (ks := (relKs19 q p f n bm C i j gi gj Ci Cj)) (by kernel_rfl)
              have hla := lasts_of hna
              refine wp_region_facts_abs (row := none) (w := wc) 17 0 17 [] (relKs19 q p f n bm C i j gi gj Ci Cj) [some 115, some 116, some 117, some 118, some 119, some 120, some 121, some 122, some 123, some 124, some 125, some 126, some 127, some 128, some 129, some 12, none] [(0, .slice (some ⟨bm, 0, none⟩) n C), (11, .int .i64 (j : Int)), (9, .int .i64 (i : Int))] 220 (by kernel_rfl) (by kernel_rfl) (by kernel_rfl) rfl rfl (by decide) rfl (by kernel_rfl) rfl (Nat.le_of_eq rfl) rfl ?ho [u115, u116, u117, u118, u119, u120, u121, u122, u123, u124, u125, u126, u127, u128, u129, u12, undef] ?h00 (Fs.start rfl rfl) ?hs ?hd
              case ho =>
               intro k x hk
               match k, hk with
               | 0, hk => have hk := Option.some.inj hk; subst hk; rfl
               | 1, hk => have hk := Option.some.inj hk; subst hk; rfl
               | 2, hk => have hk := Option.some.inj hk; subst hk; rfl
               | _ + 3, hk => exact absurd hk (by simp)
              case h00 => simp only [putO, layL]
              case hs =>
               rintro A listed vs Wr hF hR i hi hun hpre
               obtain ⟨s0, s1, s2, s3, s4, s5, s6, s7, s8, s9, s10, s11, s12, s13, s14, s15, s16, hvs⟩ := exl_of 17 vs (fun l => vs = l) hF.len rfl
               subst hvs
               have hge := Nat.zero_le i
               rcases Nat.lt_or_ge i 8 with hi | hge
               ·rcases Nat.lt_or_ge i 4 with hi | hge
                ·rcases Nat.lt_or_ge i 2 with hi | hge
                 ·rcases Nat.lt_or_ge i 1 with hi | hge
                  ·obtain rfl := eqi hi hge
                   have ro0 : A.tmps[0]? = some (.slice (some ⟨bm, 0, none⟩) n C) := hR.out 0 _ rfl
                   refine step_of ⟨some 115, _, _, _, _, _⟩ rfl (fun K' hK => ?_)
                   go_simp
                   exact hK.out _ _ ⟨_, hF.pure hok hla hpre rfl (Below.refl _ _), rfl⟩
                  obtain rfl := eqi hi hge
                  have ro11 : A.tmps[11]? = some (.int .i64 (j : Int)) := hR.out 1 _ rfl
                  refine step_of ⟨some 116, _, _, _, _, _⟩ rfl (fun K' hK => ?_)
                  go_simp
                  exact hK.out _ _ ⟨_, hF.pure hok hla hpre rfl (Below.refl _ _), rfl⟩
                 rcases Nat.lt_or_ge i 3 with hi | hge
                 ·obtain rfl := eqi hi hge
                  have p0 := hpre 0 (by kernel_rfl)
                  have e0 : s0 = .slice (some ⟨bm, 0, none⟩) n C := hF.get 0 _ rfl (.inr p0)
                  subst e0
                  have r0 : A.tmps[115]? = some (.slice (some ⟨bm, 0, none⟩) n C) := hR.own 0 _ _ rfl rfl
                  have p1 := hpre 1 (by kernel_rfl)
                  have e1 : s1 = .int .i64 (j : Int) := hF.get 1 _ rfl (.inr p1)
                  subst e1
                  have r1 : A.tmps[116]? = some (.int .i64 (j : Int)) := hR.own 1 _ _ rfl rfl
                  refine step_of ⟨some 117, _, _, _, _, _⟩ rfl (fun K' hK => ?_)
                  go_simp
                  exact hK.out _ _ ⟨_, hF.pure hok hla hpre rfl (Below.refl _ _), rfl⟩
                 obtain rfl := eqi hi hge
                 have p2 := hpre 2 (by kernel_rfl)
                 have e2 : s2 = .pointer (some ⟨bm, j, none⟩) := hF.get 2 _ rfl (.inr p2)
                 subst e2
                 have r2 : A.tmps[117]? = some (.pointer (some ⟨bm, j, none⟩)) := hR.own 2 _ _ rfl rfl
                 have y0 := cell_below HYgj.out (below_none hF.low)
                 refine step_of ⟨some 118, _, _, _, _, _⟩ rfl (fun K' hK => ?_)
                 go_simp
                 exact hK.out _ _ ⟨_, hF.pure hok hla hpre rfl (Below.refl _ _), rfl⟩
                rcases Nat.lt_or_ge i 6 with hi | hge
                ·rcases Nat.lt_or_ge i 5 with hi | hge
                 ·obtain rfl := eqi hi hge
                  have ro9 : A.tmps[9]? = some (.int .i64 (i : Int)) := hR.out 2 _ rfl
                  refine step_of ⟨some 119, _, _, _, _, _⟩ rfl (fun K' hK => ?_)
                  go_simp
                  exact hK.out _ _ ⟨_, hF.pure hok hla hpre rfl (Below.refl _ _), rfl⟩
                 obtain rfl := eqi hi hge
                 have p3 := hpre 3 (by kernel_rfl)
                 have e3 : s3 = .slice (some ⟨gj, 0, none⟩) n Cj := hF.get 3 _ rfl (.inr p3)
                 subst e3
                 have r3 : A.tmps[118]? = some (.slice (some ⟨gj, 0, none⟩) n Cj) := hR.own 3 _ _ rfl rfl
                 have p4 := hpre 4 (by kernel_rfl)
                 have e4 : s4 = .int .i64 (i : Int) := hF.get 4 _ rfl (.inr p4)
                 subst e4
                 have r4 : A.tmps[119]? = some (.int .i64 (i : Int)) := hR.own 4 _ _ rfl rfl
                 refine step_of ⟨some 120, _, _, _, _, _⟩ rfl (fun K' hK => ?_)
                 go_simp
                 exact hK.out _ _ ⟨_, hF.pure hok hla hpre rfl (Below.refl _ _), rfl⟩
                rcases Nat.lt_or_ge i 7 with hi | hge
                ·obtain rfl := eqi hi hge
                 have p5 := hpre 5 (by kernel_rfl)
                 have e5 : s5 = .pointer (some ⟨gj, i * 2, none⟩) := hF.get 5 _ rfl (.inr p5)
                 subst e5
                 have r5 : A.tmps[120]? = some (.pointer (some ⟨gj, i * 2, none⟩)) := hR.own 5 _ _ rfl rfl
                 have c0 := cell_below HC0.out (below_none hF.low)
                 have c1 := cell_below HC1.out (below_none hF.low)
                 refine step_of ⟨some 121, _, _, _, _, _⟩ rfl (fun K' hK => ?_)
                 go_simp
                 exact hK.out _ _ ⟨_, hF.pure hok hla hpre rfl (Below.refl _ _), rfl⟩
                obtain rfl := eqi hi hge
                have ro0 : A.tmps[0]? = some (.slice (some ⟨bm, 0, none⟩) n C) := hR.out 0 _ rfl
                refine step_of ⟨some 122, _, _, _, _, _⟩ rfl (fun K' hK => ?_)
                go_simp
                exact hK.out _ _ ⟨_, hF.pure hok hla hpre rfl (Below.refl _ _), rfl⟩
               rcases Nat.lt_or_ge i 12 with hi | hge
               ·rcases Nat.lt_or_ge i 10 with hi | hge
                ·rcases Nat.lt_or_ge i 9 with hi | hge
                 ·obtain rfl := eqi hi hge
                  have ro9 : A.tmps[9]? = some (.int .i64 (i : Int)) := hR.out 2 _ rfl
                  refine step_of ⟨some 123, _, _, _, _, _⟩ rfl (fun K' hK => ?_)
                  go_simp
                  exact hK.out _ _ ⟨_, hF.pure hok hla hpre rfl (Below.refl _ _), rfl⟩
                 obtain rfl := eqi hi hge
                 have p7 := hpre 7 (by kernel_rfl)
                 have e7 : s7 = .slice (some ⟨bm, 0, none⟩) n C := hF.get 7 _ rfl (.inr p7)
                 subst e7
                 have r7 : A.tmps[122]? = some (.slice (some ⟨bm, 0, none⟩) n C) := hR.own 7 _ _ rfl rfl
                 have p8 := hpre 8 (by kernel_rfl)
                 have e8 : s8 = .int .i64 (i : Int) := hF.get 8 _ rfl (.inr p8)
                 subst e8
                 have r8 : A.tmps[123]? = some (.int .i64 (i : Int)) := hR.own 8 _ _ rfl rfl
                 refine step_of ⟨some 124, _, _, _, _, _⟩ rfl (fun K' hK => ?_)
                 go_simp
                 exact hK.out _ _ ⟨_, hF.pure hok hla hpre rfl (Below.refl _ _), rfl⟩
                rcases Nat.lt_or_ge i 11 with hi | hge
                ·obtain rfl := eqi hi hge
                 have p9 := hpre 9 (by kernel_rfl)
                 have e9 : s9 = .pointer (some ⟨bm, i, none⟩) := hF.get 9 _ rfl (.inr p9)
                 subst e9
                 have r9 : A.tmps[124]? = some (.pointer (some ⟨bm, i, none⟩)) := hR.own 9 _ _ rfl rfl
                 have y0 := cell_below HYgi.out (below_none hF.low)
                 refine step_of ⟨some 125, _, _, _, _, _⟩ rfl (fun K' hK => ?_)
                 go_simp
                 exact hK.out _ _ ⟨_, hF.pure hok hla hpre rfl (Below.refl _ _), rfl⟩
                obtain rfl := eqi hi hge
                have ro9 : A.tmps[9]? = some (.int .i64 (i : Int)) := hR.out 2 _ rfl
                refine step_of ⟨some 126, _, _, _, _, _⟩ rfl (fun K' hK => ?_)
                go_simp
                exact hK.out _ _ ⟨_, hF.pure hok hla hpre rfl (Below.refl _ _), rfl⟩
               rcases Nat.lt_or_ge i 14 with hi | hge
               ·rcases Nat.lt_or_ge i 13 with hi | hge
                ·obtain rfl := eqi hi hge
                 have p10 := hpre 10 (by kernel_rfl)
                 have e10 : s10 = .slice (some ⟨gi, 0, none⟩) n Ci := hF.get 10 _ rfl (.inr p10)
                 subst e10
                 have r10 : A.tmps[125]? = some (.slice (some ⟨gi, 0, none⟩) n Ci) := hR.own 10 _ _ rfl rfl
                 have p11 := hpre 11 (by kernel_rfl)
                 have e11 : s11 = .int .i64 (i : Int) := hF.get 11 _ rfl (.inr p11)
                 subst e11
                 have r11 : A.tmps[126]? = some (.int .i64 (i : Int)) := hR.own 11 _ _ rfl rfl
                 refine step_of ⟨some 127, _, _, _, _, _⟩ rfl (fun K' hK => ?_)
                 go_simp
                 exact hK.out _ _ ⟨_, hF.pure hok hla hpre rfl (Below.refl _ _), rfl⟩
                obtain rfl := eqi hi hge
                have p12 := hpre 12 (by kernel_rfl)
                have e12 : s12 = .pointer (some ⟨gi, i * 2, none⟩) := hF.get 12 _ rfl (.inr p12)
                subst e12
                have r12 : A.tmps[127]? = some (.pointer (some ⟨gi, i * 2, none⟩)) := hR.own 12 _ _ rfl rfl
                have c0 := cell_below HD0.out (below_none hF.low)
                have c1 := cell_below HD1.out (below_none hF.low)
                refine step_of ⟨some 128, _, _, _, _, _⟩ rfl (fun K' hK => ?_)
                go_simp
                exact hK.out _ _ ⟨_, hF.pure hok hla hpre rfl (Below.refl _ _), rfl⟩
               rcases Nat.lt_or_ge i 15 with hi | hge
               ·obtain rfl := eqi hi hge
                have p6 := hpre 6 (by kernel_rfl)
                have e6 : s6 = .agg #[.string (numS q), .string (denS q)] := hF.get 6 _ rfl (.inr p6)
                subst e6
                have r6 : A.tmps[121]? = some (.agg #[.string (numS q), .string (denS q)]) := hR.own 6 _ _ rfl rfl
                have p13 := hpre 13 (by kernel_rfl)
                have e13 : s13 = .agg #[.string (numS p), .string (denS p)] := hF.get 13 _ rfl (.inr p13)
                subst e13
                have r13 : A.tmps[128]? = some (.agg #[.string (numS p), .string (denS p)]) := hR.own 13 _ _ rfl rfl
                refine step_of ⟨some 129, _, _, _, _, _⟩ rfl (fun K' hK => ?_)
                go_simp
                go_at_call 100
                (with_reducible refine (TD.out _ ((HI.out.step (below_none hF.low)).env HE0.out HP.out)).mono ?_)
                rintro e Wq ⟨rfl, hq⟩
                exact hK.out _ _ ⟨_, hF.pure hok hla hpre rfl hq, rfl⟩
               rcases Nat.lt_or_ge i 16 with hi | hge
               ·obtain rfl := eqi hi hge
                refine step_of ⟨some 12, _, _, _, _, _⟩ rfl (fun K' hK => ?_)
                go_simp
                exact hK.out _ _ ⟨_, hF.box hok hla hpre hun rfl, rfl⟩
               obtain rfl := eqi hi hge
               have p15 := hpre 15 (by kernel_rfl)
               obtain ⟨G, eG, _, hGl, hGB⟩ : ∃ G, s15 = .pointer (some ⟨G, 0, none⟩) ∧ (∀ k, none = some k → G = k) ∧ wc.heap.size ≤ G ∧ Wr.heap[G]? = some (.cells (if listed.getD 16 false = true then #[.string (numS f), .string (denS f)] else #[.string ⟨#[]⟩, .string ⟨#[]⟩]) 30 (0, 0)) := hF.get 15 _ rfl (.inr p15)
               subst eG
               rw [if_neg (bit_off hun)] at hGB
               have HGB := hid hGB
               clear hGB
               have r15 : A.tmps[12]? = some (.pointer (some ⟨G, 0, none⟩)) := hR.own 15 _ _ rfl rfl
               have p14 := hpre 14 (by kernel_rfl)
               have e14 : s14 = .agg #[.string (numS f), .string (denS f)] := hF.get 14 _ rfl (.inr p14)
               subst e14
               have r14 : A.tmps[129]? = some (.agg #[.string (numS f), .string (denS f)]) := hR.own 14 _ _ rfl rfl
               obtain ⟨⟨y0, y1⟩, g0, g1⟩ := two_at HGB.out
               refine step_of ⟨none, _, _, _, _, _⟩ rfl (fun K' hK => ?_)
               go_simp
               exact hK.out _ _ ⟨undef, hF.put hok hna hpre hun rfl undef rfl (.inr p15) rfl (set2_at HGB.out (.string (numS f)) (.string (denS f))) (fun k hk => set2_other _ _ (.string (numS f)) (.string (denS f)) hk) (put2_below hGl _ (.string (numS f)) (.string (denS f))), rfl⟩
              case hd =>
               rintro listed vs WA hF hall
               obtain ⟨s0, s1, s2, s3, s4, s5, s6, s7, s8, s9, s10, s11, s12, s13, s14, s15, s16, hvs⟩ := exl_of 17 vs (fun l => vs = l) hF.len rfl
               subst hvs
               obtain ⟨b12, e15, _, gq, k15⟩ : ∃ G, s15 = .pointer (some ⟨G, 0, none⟩) ∧ (∀ k, none = some k → G = k) ∧ _ ≤ G ∧ WA.heap[G]? = some (.cells (if listed.getD 16 false = true then #[.string (numS f), .string (denS f)] else #[.string ⟨#[]⟩, .string ⟨#[]⟩]) 30 (0, 0)) := hF.get 15 _ rfl (.inr (hall 15 (by decide)))
               subst e15
               rw [if_pos (hall 16 (by decide))] at k15
               have H12 := hid k15
               clear k15
               have ge12 := hid gq
               clear gq
               have hq := below_none hF.low
               replace HI := hid (HI.out.step hq)
               clear hq
               clear hF hall hok hla hna
               refine rest_end ?_
               simp only [putO, layL]
               have hD12 : D < b12 := Nat.lt_of_lt_of_le LTD.out ge12.out
               have HB12 := hid hD12
               go_wp2_with fail
               go_meet
               case rel => exact ⟨rfl, rfl, HFF2.out, b12, rfl, HB12.out, H12.out, HI.out⟩
            | false =>
             as_aux_lemma =>
              have TD := (fun W' ge => fm_div_over q p W' HFQ.out HFP.out HPZ.out (by rw [HFF.out]; exact hff) ge)
              rw [fracV_is q, fracV_is p] at TD
              replace TD := hid TD
              have HBAD := hid (show ¬ ElFit n i m d from fun h => by have h2 := h.q j HIJ.out hjt; rw [HQ.out, HPP.out, HFF.out, hff] at h2; cases h2)
              clear hff
              go_wp2_with fail
              have hok : okB 17 (relbKs19 q p n bm C i j gi gj Ci Cj) = true := by kernel_rfl
              have hla : ∀ (ix : Nat) (kx : RK), (relbKs19 q p n bm C i j gi gj Ci Cj)[ix]? = some kx → kx.lasts := by
               intro ix kx hk
               match ix, hk with
               | 0, hk => have hk := Option.some.inj hk; subst hk; exact trivial
               | 1, hk => have hk := Option.some.inj hk; subst hk; exact trivial
               | 2, hk => have hk := Option.some.inj hk; subst hk; exact trivial
               | 3, hk => have hk := Option.some.inj hk; subst hk; exact trivial
               | 4, hk => have hk := Option.some.inj hk; subst hk; exact trivial
               | 5, hk => have hk := Option.some.inj hk; subst hk; exact trivial
               | 6, hk => have hk := Option.some.inj hk; subst hk; exact trivial
               | 7, hk => have hk := Option.some.inj hk; subst hk; exact trivial
               | 8, hk => have hk := Option.some.inj hk; subst hk; exact trivial
               | 9, hk => have hk := Option.some.inj hk; subst hk; exact trivial
               | 10, hk => have hk := Option.some.inj hk; subst hk; exact trivial
               | 11, hk => have hk := Option.some.inj hk; subst hk; exact trivial
               | 12, hk => have hk := Option.some.inj hk; subst hk; exact trivial
               | 13, hk => have hk := Option.some.inj hk; subst hk; exact trivial
               | 14, hk => have hk := Option.some.inj hk; subst hk; exact (fun _ _ _ h _ => h)
               | 15, hk => have hk := Option.some.inj hk; subst hk; exact trivial
               | 16, hk => have hk := Option.some.inj hk; subst hk; exact trivial
               | _ + 17, hk => exact absurd hk (by simp [relbKs19])
              refine wp_region_facts_abs_d (row := none) (w := wc) 17 0 17 [] (relbKs19 q p n bm C i j gi gj Ci Cj) [some 115, some 116, some 117, some 118, some 119, some 120, some 121, some 122, some 123, some 124, some 125, some 126, some 127, some 128, some 129, some 12, none] [(0, .slice (some ⟨bm, 0, none⟩) n C), (11, .int .i64 (j : Int)), (9, .int .i64 (i : Int))] 220 (by kernel_rfl) (by kernel_rfl) (by kernel_rfl) rfl rfl (by decide) rfl (by kernel_rfl) rfl (Nat.le_of_eq rfl) rfl ?ho [u115, u116, u117, u118, u119, u120, u121, u122, u123, u124, u125, u126, u127, u128, u129, u12, undef] ?h00 (Fs.start rfl rfl) ?hs ?hd
              case ho =>
               intro k x hk
               match k, hk with
               | 0, hk => have hk := Option.some.inj hk; subst hk; rfl
               | 1, hk => have hk := Option.some.inj hk; subst hk; rfl
               | 2, hk => have hk := Option.some.inj hk; subst hk; rfl
               | _ + 3, hk => exact absurd hk (by simp)
              case h00 => simp only [putO, layL]
              case hs =>
               rintro A listed vs Wr hF hR hD i hi hun hpre
               obtain ⟨s0, s1, s2, s3, s4, s5, s6, s7, s8, s9, s10, s11, s12, s13, s14, s15, s16, hvs⟩ := exl_of 17 vs (fun l => vs = l) hF.len rfl
               subst hvs
               have hge := Nat.zero_le i
               replace hD := hid hD
               rcases Nat.lt_or_ge i 8 with hi | hge
               ·rcases Nat.lt_or_ge i 4 with hi | hge
                ·rcases Nat.lt_or_ge i 2 with hi | hge
                 ·rcases Nat.lt_or_ge i 1 with hi | hge
                  ·obtain rfl := eqi hi hge
                   have ro0 : A.tmps[0]? = some (.slice (some ⟨bm, 0, none⟩) n C) := hR.out 0 _ rfl
                   refine step_of ⟨some 115, _, _, _, _, _⟩ rfl (fun K' hK => ?_)
                   go_simp
                   exact hK.out _ _ ⟨_, hF.pure hok hla hpre rfl (Below.refl _ _), rfl⟩
                  obtain rfl := eqi hi hge
                  have ro11 : A.tmps[11]? = some (.int .i64 (j : Int)) := hR.out 1 _ rfl
                  refine step_of ⟨some 116, _, _, _, _, _⟩ rfl (fun K' hK => ?_)
                  go_simp
                  exact hK.out _ _ ⟨_, hF.pure hok hla hpre rfl (Below.refl _ _), rfl⟩
                 rcases Nat.lt_or_ge i 3 with hi | hge
                 ·obtain rfl := eqi hi hge
                  have p0 := hpre 0 (by kernel_rfl)
                  have e0 : s0 = .slice (some ⟨bm, 0, none⟩) n C := hF.get 0 _ rfl (.inr p0)
                  subst e0
                  have r0 : A.tmps[115]? = some (.slice (some ⟨bm, 0, none⟩) n C) := hR.own 0 _ _ rfl rfl
                  have p1 := hpre 1 (by kernel_rfl)
                  have e1 : s1 = .int .i64 (j : Int) := hF.get 1 _ rfl (.inr p1)
                  subst e1
                  have r1 : A.tmps[116]? = some (.int .i64 (j : Int)) := hR.own 1 _ _ rfl rfl
                  refine step_of ⟨some 117, _, _, _, _, _⟩ rfl (fun K' hK => ?_)
                  go_simp
                  exact hK.out _ _ ⟨_, hF.pure hok hla hpre rfl (Below.refl _ _), rfl⟩
                 obtain rfl := eqi hi hge
                 have p2 := hpre 2 (by kernel_rfl)
                 have e2 : s2 = .pointer (some ⟨bm, j, none⟩) := hF.get 2 _ rfl (.inr p2)
                 subst e2
                 have r2 : A.tmps[117]? = some (.pointer (some ⟨bm, j, none⟩)) := hR.own 2 _ _ rfl rfl
                 have y0 := cell_below HYgj.out (below_none hF.low)
                 refine step_of ⟨some 118, _, _, _, _, _⟩ rfl (fun K' hK => ?_)
                 go_simp
                 exact hK.out _ _ ⟨_, hF.pure hok hla hpre rfl (Below.refl _ _), rfl⟩
                rcases Nat.lt_or_ge i 6 with hi | hge
                ·rcases Nat.lt_or_ge i 5 with hi | hge
                 ·obtain rfl := eqi hi hge
                  have ro9 : A.tmps[9]? = some (.int .i64 (i : Int)) := hR.out 2 _ rfl
                  refine step_of ⟨some 119, _, _, _, _, _⟩ rfl (fun K' hK => ?_)
                  go_simp
                  exact hK.out _ _ ⟨_, hF.pure hok hla hpre rfl (Below.refl _ _), rfl⟩
                 obtain rfl := eqi hi hge
                 have p3 := hpre 3 (by kernel_rfl)
                 have e3 : s3 = .slice (some ⟨gj, 0, none⟩) n Cj := hF.get 3 _ rfl (.inr p3)
                 subst e3
                 have r3 : A.tmps[118]? = some (.slice (some ⟨gj, 0, none⟩) n Cj) := hR.own 3 _ _ rfl rfl
                 have p4 := hpre 4 (by kernel_rfl)
                 have e4 : s4 = .int .i64 (i : Int) := hF.get 4 _ rfl (.inr p4)
                 subst e4
                 have r4 : A.tmps[119]? = some (.int .i64 (i : Int)) := hR.own 4 _ _ rfl rfl
                 refine step_of ⟨some 120, _, _, _, _, _⟩ rfl (fun K' hK => ?_)
                 go_simp
                 exact hK.out _ _ ⟨_, hF.pure hok hla hpre rfl (Below.refl _ _), rfl⟩
                rcases Nat.lt_or_ge i 7 with hi | hge
                ·obtain rfl := eqi hi hge
                 have p5 := hpre 5 (by kernel_rfl)
                 have e5 : s5 = .pointer (some ⟨gj, i * 2, none⟩) := hF.get 5 _ rfl (.inr p5)
                 subst e5
                 have r5 : A.tmps[120]? = some (.pointer (some ⟨gj, i * 2, none⟩)) := hR.own 5 _ _ rfl rfl
                 have c0 := cell_below HC0.out (below_none hF.low)
                 have c1 := cell_below HC1.out (below_none hF.low)
                 refine step_of ⟨some 121, _, _, _, _, _⟩ rfl (fun K' hK => ?_)
                 go_simp
                 exact hK.out _ _ ⟨_, hF.pure hok hla hpre rfl (Below.refl _ _), rfl⟩
                obtain rfl := eqi hi hge
                have ro0 : A.tmps[0]? = some (.slice (some ⟨bm, 0, none⟩) n C) := hR.out 0 _ rfl
                refine step_of ⟨some 122, _, _, _, _, _⟩ rfl (fun K' hK => ?_)
                go_simp
                exact hK.out _ _ ⟨_, hF.pure hok hla hpre rfl (Below.refl _ _), rfl⟩
               rcases Nat.lt_or_ge i 12 with hi | hge
               ·rcases Nat.lt_or_ge i 10 with hi | hge
                ·rcases Nat.lt_or_ge i 9 with hi | hge
                 ·obtain rfl := eqi hi hge
                  have ro9 : A.tmps[9]? = some (.int .i64 (i : Int)) := hR.out 2 _ rfl
                  refine step_of ⟨some 123, _, _, _, _, _⟩ rfl (fun K' hK => ?_)
                  go_simp
                  exact hK.out _ _ ⟨_, hF.pure hok hla hpre rfl (Below.refl _ _), rfl⟩
                 obtain rfl := eqi hi hge
                 have p7 := hpre 7 (by kernel_rfl)
                 have e7 : s7 = .slice (some ⟨bm, 0, none⟩) n C := hF.get 7 _ rfl (.inr p7)
                 subst e7
                 have r7 : A.tmps[122]? = some (.slice (some ⟨bm, 0, none⟩) n C) := hR.own 7 _ _ rfl rfl
                 have p8 := hpre 8 (by kernel_rfl)
                 have e8 : s8 = .int .i64 (i : Int) := hF.get 8 _ rfl (.inr p8)
                 subst e8
                 have r8 : A.tmps[123]? = some (.int .i64 (i : Int)) := hR.own 8 _ _ rfl rfl
                 refine step_of ⟨some 124, _, _, _, _, _⟩ rfl (fun K' hK => ?_)
                 go_simp
                 exact hK.out _ _ ⟨_, hF.pure hok hla hpre rfl (Below.refl _ _), rfl⟩
                rcases Nat.lt_or_ge i 11 with hi | hge
                ·obtain rfl := eqi hi hge
                 have p9 := hpre 9 (by kernel_rfl)
                 have e9 : s9 = .pointer (some ⟨bm, i, none⟩) := hF.get 9 _ rfl (.inr p9)
                 subst e9
                 have r9 : A.tmps[124]? = some (.pointer (some ⟨bm, i, none⟩)) := hR.own 9 _ _ rfl rfl
                 have y0 := cell_below HYgi.out (below_none hF.low)
                 refine step_of ⟨some 125, _, _, _, _, _⟩ rfl (fun K' hK => ?_)
                 go_simp
                 exact hK.out _ _ ⟨_, hF.pure hok hla hpre rfl (Below.refl _ _), rfl⟩
                obtain rfl := eqi hi hge
                have ro9 : A.tmps[9]? = some (.int .i64 (i : Int)) := hR.out 2 _ rfl
                refine step_of ⟨some 126, _, _, _, _, _⟩ rfl (fun K' hK => ?_)
                go_simp
                exact hK.out _ _ ⟨_, hF.pure hok hla hpre rfl (Below.refl _ _), rfl⟩
               rcases Nat.lt_or_ge i 14 with hi | hge
               ·rcases Nat.lt_or_ge i 13 with hi | hge
                ·obtain rfl := eqi hi hge
                 have p10 := hpre 10 (by kernel_rfl)
                 have e10 : s10 = .slice (some ⟨gi, 0, none⟩) n Ci := hF.get 10 _ rfl (.inr p10)
                 subst e10
                 have r10 : A.tmps[125]? = some (.slice (some ⟨gi, 0, none⟩) n Ci) := hR.own 10 _ _ rfl rfl
                 have p11 := hpre 11 (by kernel_rfl)
                 have e11 : s11 = .int .i64 (i : Int) := hF.get 11 _ rfl (.inr p11)
                 subst e11
                 have r11 : A.tmps[126]? = some (.int .i64 (i : Int)) := hR.own 11 _ _ rfl rfl
                 refine step_of ⟨some 127, _, _, _, _, _⟩ rfl (fun K' hK => ?_)
                 go_simp
                 exact hK.out _ _ ⟨_, hF.pure hok hla hpre rfl (Below.refl _ _), rfl⟩
                obtain rfl := eqi hi hge
                have p12 := hpre 12 (by kernel_rfl)
                have e12 : s12 = .pointer (some ⟨gi, i * 2, none⟩) := hF.get 12 _ rfl (.inr p12)
                subst e12
                have r12 : A.tmps[127]? = some (.pointer (some ⟨gi, i * 2, none⟩)) := hR.own 12 _ _ rfl rfl
                have c0 := cell_below HD0.out (below_none hF.low)
                have c1 := cell_below HD1.out (below_none hF.low)
                refine step_of ⟨some 128, _, _, _, _, _⟩ rfl (fun K' hK => ?_)
                go_simp
                exact hK.out _ _ ⟨_, hF.pure hok hla hpre rfl (Below.refl _ _), rfl⟩
               rcases Nat.lt_or_ge i 15 with hi | hge
               ·obtain rfl := eqi hi hge
                have p6 := hpre 6 (by kernel_rfl)
                have e6 : s6 = .agg #[.string (numS q), .string (denS q)] := hF.get 6 _ rfl (.inr p6)
                subst e6
                have r6 : A.tmps[121]? = some (.agg #[.string (numS q), .string (denS q)]) := hR.own 6 _ _ rfl rfl
                have p13 := hpre 13 (by kernel_rfl)
                have e13 : s13 = .agg #[.string (numS p), .string (denS p)] := hF.get 13 _ rfl (.inr p13)
                subst e13
                have r13 : A.tmps[128]? = some (.agg #[.string (numS p), .string (denS p)]) := hR.own 13 _ _ rfl rfl
                refine step_of ⟨some 129, _, _, _, _, _⟩ rfl (fun K' hK => ?_)
                go_simp
                go_at_call 100
                (with_reducible refine (TD.out _ ((HI.out.step (below_none hF.low)).env HE0.out HP.out)).mono ?_)
                rintro e Wq ⟨rfl, hq⟩
                unfold stopped
                go_wp2
                exact ⟨hD.out, .inr ⟨rfl, i, m, d, HS.out, HBAD.out⟩, HI.out.low.trans (((below_none hF.low).trans (hq.mono (below_none hF.low).size)).mono (Nat.le_trans HI.out.ge.2.1 (Nat.le_of_lt (heap_lt HI.out.res))))⟩
               rcases Nat.lt_or_ge i 16 with hi | hge
               ·obtain rfl := eqi hi hge
                refine step_of ⟨some 12, _, _, _, _, _⟩ rfl (fun K' hK => ?_)
                go_simp
                exact hK.out _ _ ⟨_, hF.box hok hla hpre hun rfl, rfl⟩
               obtain rfl := eqi hi hge
               have p15 := hpre 15 (by kernel_rfl)
               obtain ⟨G, eG, _, hGl, hGB⟩ : ∃ G, s15 = .pointer (some ⟨G, 0, none⟩) ∧ (∀ k, none = some k → G = k) ∧ wc.heap.size ≤ G ∧ Wr.heap[G]? = some (.cells (if listed.getD 16 false = true then #[undef] else #[.string ⟨#[]⟩, .string ⟨#[]⟩]) 30 (0, 0)) := hF.get 15 _ rfl (.inr p15)
               subst eG
               rw [if_neg (bit_off hun)] at hGB
               have HGB := hid hGB
               clear hGB
               have r15 : A.tmps[12]? = some (.pointer (some ⟨G, 0, none⟩)) := hR.own 15 _ _ rfl rfl
               have p14 := hpre 14 (by kernel_rfl)
               exact (show False from hF.get 14 _ rfl (.inr p14)).elim
              case hd =>
               rintro listed vs WA hF hall
               obtain ⟨s0, s1, s2, s3, s4, s5, s6, s7, s8, s9, s10, s11, s12, s13, s14, s15, s16, hvs⟩ := exl_of 17 vs (fun l => vs = l) hF.len rfl
               subst hvs
               exact (show False from hF.get 14 _ rfl (.inr (hall 14 (by decide)))).elim
           case rest =>
            obtain ⟨rfl, rfl, hff, b12, rfl, hb12, h12, hI⟩ := hcut
            replace HI := hid hI
            have H12 := hid h12
            have HB12 := hid hb12
            have HFIT := hid hff
            clear hI h12 hb12 HC0 HC1 HD0 HD1 HYgi HYgj hff
            obtain ⟨mj, hmj⟩ : ∃ x, rowsM false i m m j = x := ⟨_, rfl⟩
            rw [hmj] at HI HJI HIIC HJC HFJ
            have HMJ := hid hmj
            clear hmj
            obtain ⟨FM, hFM⟩ : ∃ F : Nat → Rat, (fun c => m j c - f * m i c) = F := ⟨_, rfl⟩
            have HFM := hid (show ∀ c, m j c - f * m i c = FM c from fun c => by rw [← hFM])
            clear hFM
            have HJ0 := hid (show ElI W base bm bo R D n gm go (colsM mj j FM 0) out dp _ by rw [colsM_zero]; exact HI.out)
            clear HI
            go_wp2_with fail
            go_loopg [13, 131] n (fun gh v13 v131 wx => ∃ c : Nat, v131 = .int .i64 (c : Int) ∧ c ≤ n ∧ gh = n - c ∧ wx.heap[b12]? = some (.cells #[.string (numS f), .string (denS f)] 30 (0, 0)) ∧ ElI W base bm bo R D n gm go (colsM mj j FM c) out dp wx ∧ ∀ c', c' < c → fits (FM c') = true ∧ fits (f * m i c') = true)
            case atStart => exact ⟨0, rfl, Nat.zero_le _, rfl, H12.out, HJ0.out, fun c' h => absurd h (Nat.not_lt_zero _)⟩
            case round =>
             clear HJ0 H12
             obtain ⟨c, rfl, hc, hgc, h12, hI, hfc⟩ := hrel
             have HI := hid hI
             have H12 := hid h12
             have HFC := hid hfc
             clear hI h12 hfc
             by_cases hct : c < n
             ·skip
              have hce : decide ((c : Int) < (n : Int)) = true := decide_eq_true (by omega)
              have hce2 : decide (c < n) = true := decide_eq_true hct
              have hc0 : (0 : Int) ≤ (c : Int) := by omega
              have hc1 : (c : Int) < (n : Int) := by omega
              have hcw : IntKind.i64.wrap ((c : Int) + 1) = (c : Int) + 1 := IntWalk.i64_in _ (by omega)
              have hf1 := HF.out j c hjt hct
              have hf2 := HF.out i c hlt hct
              obtain ⟨c0, c1⟩ := (HI.out.m.rows j hjt).item hct
              obtain ⟨d0, d1⟩ := (HI.out.m.rows i hlt).item hct
              rw [colsM_at (.inr (Nat.le_refl c)), HJC.out] at c0 c1
              rw [colsM_at (.inl (Nat.ne_of_lt HIJ.out)), HIIC.out] at d0 d1
              obtain ⟨Cj, ygj⟩ := HI.out.m.hd.at hjt
              obtain ⟨gj, egj⟩ : ∃ x, gm j = x := ⟨_, rfl⟩
              rw [egj] at ygj
              have HYgj := hid ygj
              clear ygj
              obtain ⟨Ci, ygi⟩ := HI.out.m.hd.at hlt
              obtain ⟨gi, egi⟩ : ∃ x, gm i = x := ⟨_, rfl⟩
              rw [egi] at ygi
              have HYgi := hid ygi
              clear ygi
              rw [egj] at c0 c1
              rw [egi] at d0 d1
              have HEgj := hid egj
              obtain ⟨x, hx⟩ : ∃ x, m j c = x := ⟨_, rfl⟩
              obtain ⟨y, hy⟩ : ∃ x, m i c = x := ⟨_, rfl⟩
              obtain ⟨fy, hfy⟩ : ∃ x, f * y = x := ⟨_, rfl⟩
              obtain ⟨z, hz⟩ : ∃ x, FM c = x := ⟨_, rfl⟩
              have hxz : x - fy = z := by rw [← hz, ← HFM.out, hx, hy, hfy]
              rw [hx] at hf1 c0 c1
              rw [hy] at hf2 d0 d1
              have HX := hid hx
              have HY := hid hy
              have HFY := hid hfy
              have HXZ := hid hxz
              have HF1 := hid hf1
              have HF2 := hid hf2
              have HZ := hid hz
              have HC0 := hid c0
              have HC1 := hid c1
              have HD0 := hid d0
              have HD1 := hid d1
              have HCC0 := hid hc0
              clear c0 c1 d0 d1 hf1 hf2 hx hy hfy hz hxz egj egi
              go_upto_region 23 with fail
              go_cut [13, 131] (fun v13 v131 wx => v13 = .int .i64 (c : Int) ∧ v131 = .int .i64 (c : Int) ∧ (fits z = true ∧ fits fy = true) ∧ wx.heap[b12]? = some (.cells #[.string (numS f), .string (denS f)] 30 (0, 0)) ∧ ElI W base bm bo R D n gm go (colsM mj j FM (c + 1)) out dp wx)
              case first =>
               cases hfy : fits fy with
               | true =>
                have TM := (fun W' ge => fm_mul f y W' HFIT.out HF2.out (by rw [HFY.out]; exact hfy) ge)
                rw [HFY.out, fracV_is f, fracV_is y, fracV_is fy] at TM
                replace TM := hid TM
                have HFY2 := hid hfy
                clear hfy
                cases hfz : fits z with
                | true =>
                 as_aux_lemma =>
                  have TS := (fun W' ge => fm_sub x fy W' HF1.out HFY2.out (by rw [HXZ.out]; exact hfz) ge)
                  rw [HXZ.out, fracV_is x, fracV_is fy, fracV_is z] at TS
                  replace TS := hid TS
                  have HFZ := hid hfz
                  clear hfz
                  go_wp2_with fail
                  have hok : okB 24 (relKs23 f x y fy z n bm C i j c gi gj Ci Cj b12) = true := by kernel_rfl
                  have hna := noAny_of (ks := (relKs23 f x y fy z n bm C i j c gi gj Ci Cj b12)) (by kernel_rfl)
                  have hla := lasts_of hna
                  refine wp_region_facts_abs (row := none) (w := wr) 22 2 24 [22, 23] (relKs23 f x y fy z n bm C i j c gi gj Ci Cj b12) [some 134, some 135, some 136, some 137, some 138, some 139, some 140, some 141, some 142, some 143, some 144, some 145, some 146, some 147, some 148, some 149, some 150, some 151, some 152, some 153, some 154, some 155, some 156, none] [(0, .slice (some ⟨bm, 0, none⟩) n C), (11, .int .i64 (j : Int)), (13, .int .i64 (c : Int)), (12, .pointer (some ⟨b12, 0, none⟩)), (9, .int .i64 (i : Int))] 220 (by kernel_rfl) (by kernel_rfl) (by kernel_rfl) rfl rfl (by decide) rfl (by kernel_rfl) rfl (Nat.le_of_eq rfl) rfl ?ho [u134, u135, u136, u137, u138, u139, u140, u141, u142, u143, u144, u145, u146, u147, u148, u149, u150, u151, u152, u153, u154, u155, u156, undef] ?h00 (Fs.start rfl rfl) ?hs ?hd
                  case ho =>
                   intro k x hk
                   match k, hk with
                   | 0, hk => have hk := Option.some.inj hk; subst hk; rfl
                   | 1, hk => have hk := Option.some.inj hk; subst hk; rfl
                   | 2, hk => have hk := Option.some.inj hk; subst hk; rfl
                   | 3, hk => have hk := Option.some.inj hk; subst hk; rfl
                   | 4, hk => have hk := Option.some.inj hk; subst hk; rfl
                   | _ + 5, hk => exact absurd hk (by simp)
                  case h00 => simp only [putO, layL]
                  case hs =>
                   rintro A listed vs Wr hF hR i hi hun hpre
                   obtain ⟨s0, s1, s2, s3, s4, s5, s6, s7, s8, s9, s10, s11, s12, s13, s14, s15, s16, s17, s18, s19, s20, s21, s22, s23, hvs⟩ := exl_of 24 vs (fun l => vs = l) hF.len rfl
                   subst hvs
                   have hge := Nat.zero_le i
                   rcases Nat.lt_or_ge i 11 with hi | hge
                   ·rcases Nat.lt_or_ge i 5 with hi | hge
                    ·rcases Nat.lt_or_ge i 2 with hi | hge
                     ·rcases Nat.lt_or_ge i 1 with hi | hge
                      ·obtain rfl := eqi hi hge
                       have ro0 : A.tmps[0]? = some (.slice (some ⟨bm, 0, none⟩) n C) := hR.out 0 _ rfl
                       refine step_of ⟨some 134, _, _, _, _, _⟩ rfl (fun K' hK => ?_)
                       go_simp
                       exact hK.out _ _ ⟨_, hF.pure hok hla hpre rfl (Below.refl _ _), rfl⟩
                      obtain rfl := eqi hi hge
                      have ro11 : A.tmps[11]? = some (.int .i64 (j : Int)) := hR.out 1 _ rfl
                      refine step_of ⟨some 135, _, _, _, _, _⟩ rfl (fun K' hK => ?_)
                      go_simp
                      exact hK.out _ _ ⟨_, hF.pure hok hla hpre rfl (Below.refl _ _), rfl⟩
                     rcases Nat.lt_or_ge i 3 with hi | hge
                     ·obtain rfl := eqi hi hge
                      have p0 := hpre 0 (by kernel_rfl)
                      have e0 : s0 = .slice (some ⟨bm, 0, none⟩) n C := hF.get 0 _ rfl (.inr p0)
                      subst e0
                      have r0 : A.tmps[134]? = some (.slice (some ⟨bm, 0, none⟩) n C) := hR.own 0 _ _ rfl rfl
                      have p1 := hpre 1 (by kernel_rfl)
                      have e1 : s1 = .int .i64 (j : Int) := hF.get 1 _ rfl (.inr p1)
                      subst e1
                      have r1 : A.tmps[135]? = some (.int .i64 (j : Int)) := hR.own 1 _ _ rfl rfl
                      refine step_of ⟨some 136, _, _, _, _, _⟩ rfl (fun K' hK => ?_)
                      go_simp
                      exact hK.out _ _ ⟨_, hF.pure hok hla hpre rfl (Below.refl _ _), rfl⟩
                     rcases Nat.lt_or_ge i 4 with hi | hge
                     ·obtain rfl := eqi hi hge
                      have p2 := hpre 2 (by kernel_rfl)
                      have e2 : s2 = .pointer (some ⟨bm, j, none⟩) := hF.get 2 _ rfl (.inr p2)
                      subst e2
                      have r2 : A.tmps[136]? = some (.pointer (some ⟨bm, j, none⟩)) := hR.own 2 _ _ rfl rfl
                      have y0 := cell_below HYgj.out (below_none hF.low)
                      refine step_of ⟨some 137, _, _, _, _, _⟩ rfl (fun K' hK => ?_)
                      go_simp
                      exact hK.out _ _ ⟨_, hF.pure hok hla hpre rfl (Below.refl _ _), rfl⟩
                     obtain rfl := eqi hi hge
                     have ro13 : A.tmps[13]? = some (.int .i64 (c : Int)) := hR.out 2 _ rfl
                     refine step_of ⟨some 138, _, _, _, _, _⟩ rfl (fun K' hK => ?_)
                     go_simp
                     exact hK.out _ _ ⟨_, hF.pure hok hla hpre rfl (Below.refl _ _), rfl⟩
                    rcases Nat.lt_or_ge i 8 with hi | hge
                    ·rcases Nat.lt_or_ge i 6 with hi | hge
                     ·obtain rfl := eqi hi hge
                      have ro0 : A.tmps[0]? = some (.slice (some ⟨bm, 0, none⟩) n C) := hR.out 0 _ rfl
                      refine step_of ⟨some 139, _, _, _, _, _⟩ rfl (fun K' hK => ?_)
                      go_simp
                      exact hK.out _ _ ⟨_, hF.pure hok hla hpre rfl (Below.refl _ _), rfl⟩
                     rcases Nat.lt_or_ge i 7 with hi | hge
                     ·obtain rfl := eqi hi hge
                      have ro11 : A.tmps[11]? = some (.int .i64 (j : Int)) := hR.out 1 _ rfl
                      refine step_of ⟨some 140, _, _, _, _, _⟩ rfl (fun K' hK => ?_)
                      go_simp
                      exact hK.out _ _ ⟨_, hF.pure hok hla hpre rfl (Below.refl _ _), rfl⟩
                     obtain rfl := eqi hi hge
                     have p5 := hpre 5 (by kernel_rfl)
                     have e5 : s5 = .slice (some ⟨bm, 0, none⟩) n C := hF.get 5 _ rfl (.inr p5)
                     subst e5
                     have r5 : A.tmps[139]? = some (.slice (some ⟨bm, 0, none⟩) n C) := hR.own 5 _ _ rfl rfl
                     have p6 := hpre 6 (by kernel_rfl)
                     have e6 : s6 = .int .i64 (j : Int) := hF.get 6 _ rfl (.inr p6)
                     subst e6
                     have r6 : A.tmps[140]? = some (.int .i64 (j : Int)) := hR.own 6 _ _ rfl rfl
                     refine step_of ⟨some 141, _, _, _, _, _⟩ rfl (fun K' hK => ?_)
                     go_simp
                     exact hK.out _ _ ⟨_, hF.pure hok hla hpre rfl (Below.refl _ _), rfl⟩
                    rcases Nat.lt_or_ge i 9 with hi | hge
                    ·obtain rfl := eqi hi hge
                     have p7 := hpre 7 (by kernel_rfl)
                     have e7 : s7 = .pointer (some ⟨bm, j, none⟩) := hF.get 7 _ rfl (.inr p7)
                     subst e7
                     have r7 : A.tmps[141]? = some (.pointer (some ⟨bm, j, none⟩)) := hR.own 7 _ _ rfl rfl
                     have y0 := cell_below HYgj.out (below_none hF.low)
                     refine step_of ⟨some 142, _, _, _, _, _⟩ rfl (fun K' hK => ?_)
                     go_simp
                     exact hK.out _ _ ⟨_, hF.pure hok hla hpre rfl (Below.refl _ _), rfl⟩
                    rcases Nat.lt_or_ge i 10 with hi | hge
                    ·obtain rfl := eqi hi hge
                     have ro13 : A.tmps[13]? = some (.int .i64 (c : Int)) := hR.out 2 _ rfl
                     refine step_of ⟨some 143, _, _, _, _, _⟩ rfl (fun K' hK => ?_)
                     go_simp
                     exact hK.out _ _ ⟨_, hF.pure hok hla hpre rfl (Below.refl _ _), rfl⟩
                    obtain rfl := eqi hi hge
                    have p8 := hpre 8 (by kernel_rfl)
                    have e8 : s8 = .slice (some ⟨gj, 0, none⟩) n Cj := hF.get 8 _ rfl (.inr p8)
                    subst e8
                    have r8 : A.tmps[142]? = some (.slice (some ⟨gj, 0, none⟩) n Cj) := hR.own 8 _ _ rfl rfl
                    have p9 := hpre 9 (by kernel_rfl)
                    have e9 : s9 = .int .i64 (c : Int) := hF.get 9 _ rfl (.inr p9)
                    subst e9
                    have r9 : A.tmps[143]? = some (.int .i64 (c : Int)) := hR.own 9 _ _ rfl rfl
                    refine step_of ⟨some 144, _, _, _, _, _⟩ rfl (fun K' hK => ?_)
                    go_simp
                    exact hK.out _ _ ⟨_, hF.pure hok hla hpre rfl (Below.refl _ _), rfl⟩
                   rcases Nat.lt_or_ge i 16 with hi | hge
                   ·rcases Nat.lt_or_ge i 13 with hi | hge
                    ·rcases Nat.lt_or_ge i 12 with hi | hge
                     ·obtain rfl := eqi hi hge
                      have p10 := hpre 10 (by kernel_rfl)
                      have e10 : s10 = .pointer (some ⟨gj, c * 2, none⟩) := hF.get 10 _ rfl (.inr p10)
                      subst e10
                      have r10 : A.tmps[144]? = some (.pointer (some ⟨gj, c * 2, none⟩)) := hR.own 10 _ _ rfl rfl
                      have c0 := cell_below HC0.out (below_none hF.low)
                      have c1 := cell_below HC1.out (below_none hF.low)
                      refine step_of ⟨some 145, _, _, _, _, _⟩ rfl (fun K' hK => ?_)
                      go_simp
                      exact hK.out _ _ ⟨_, hF.pure hok hla hpre rfl (Below.refl _ _), rfl⟩
                     obtain rfl := eqi hi hge
                     have ro12 : A.tmps[12]? = some (.pointer (some ⟨b12, 0, none⟩)) := hR.out 3 _ rfl
                     have hcc := (two_at (keep_block H12.out (below_none hF.low))).1
                     have cH120 := hcc.1
                     have cH121 := hcc.2
                     clear hcc
                     refine step_of ⟨some 146, _, _, _, _, _⟩ rfl (fun K' hK => ?_)
                     go_simp
                     exact hK.out _ _ ⟨_, hF.pure hok hla hpre rfl (Below.refl _ _), rfl⟩
                    rcases Nat.lt_or_ge i 14 with hi | hge
                    ·obtain rfl := eqi hi hge
                     have ro0 : A.tmps[0]? = some (.slice (some ⟨bm, 0, none⟩) n C) := hR.out 0 _ rfl
                     refine step_of ⟨some 147, _, _, _, _, _⟩ rfl (fun K' hK => ?_)
                     go_simp
                     exact hK.out _ _ ⟨_, hF.pure hok hla hpre rfl (Below.refl _ _), rfl⟩
                    rcases Nat.lt_or_ge i 15 with hi | hge
                    ·obtain rfl := eqi hi hge
                     have ro9 : A.tmps[9]? = some (.int .i64 (i : Int)) := hR.out 4 _ rfl
                     refine step_of ⟨some 148, _, _, _, _, _⟩ rfl (fun K' hK => ?_)
                     go_simp
                     exact hK.out _ _ ⟨_, hF.pure hok hla hpre rfl (Below.refl _ _), rfl⟩
                    obtain rfl := eqi hi hge
                    have p13 := hpre 13 (by kernel_rfl)
                    have e13 : s13 = .slice (some ⟨bm, 0, none⟩) n C := hF.get 13 _ rfl (.inr p13)
                    subst e13
                    have r13 : A.tmps[147]? = some (.slice (some ⟨bm, 0, none⟩) n C) := hR.own 13 _ _ rfl rfl
                    have p14 := hpre 14 (by kernel_rfl)
                    have e14 : s14 = .int .i64 (i : Int) := hF.get 14 _ rfl (.inr p14)
                    subst e14
                    have r14 : A.tmps[148]? = some (.int .i64 (i : Int)) := hR.own 14 _ _ rfl rfl
                    refine step_of ⟨some 149, _, _, _, _, _⟩ rfl (fun K' hK => ?_)
                    go_simp
                    exact hK.out _ _ ⟨_, hF.pure hok hla hpre rfl (Below.refl _ _), rfl⟩
                   rcases Nat.lt_or_ge i 19 with hi | hge
                   ·rcases Nat.lt_or_ge i 17 with hi | hge
                    ·obtain rfl := eqi hi hge
                     have p15 := hpre 15 (by kernel_rfl)
                     have e15 : s15 = .pointer (some ⟨bm, i, none⟩) := hF.get 15 _ rfl (.inr p15)
                     subst e15
                     have r15 : A.tmps[149]? = some (.pointer (some ⟨bm, i, none⟩)) := hR.own 15 _ _ rfl rfl
                     have y0 := cell_below HYgi.out (below_none hF.low)
                     refine step_of ⟨some 150, _, _, _, _, _⟩ rfl (fun K' hK => ?_)
                     go_simp
                     exact hK.out _ _ ⟨_, hF.pure hok hla hpre rfl (Below.refl _ _), rfl⟩
                    rcases Nat.lt_or_ge i 18 with hi | hge
                    ·obtain rfl := eqi hi hge
                     have ro13 : A.tmps[13]? = some (.int .i64 (c : Int)) := hR.out 2 _ rfl
                     refine step_of ⟨some 151, _, _, _, _, _⟩ rfl (fun K' hK => ?_)
                     go_simp
                     exact hK.out _ _ ⟨_, hF.pure hok hla hpre rfl (Below.refl _ _), rfl⟩
                    obtain rfl := eqi hi hge
                    have p16 := hpre 16 (by kernel_rfl)
                    have e16 : s16 = .slice (some ⟨gi, 0, none⟩) n Ci := hF.get 16 _ rfl (.inr p16)
                    subst e16
                    have r16 : A.tmps[150]? = some (.slice (some ⟨gi, 0, none⟩) n Ci) := hR.own 16 _ _ rfl rfl
                    have p17 := hpre 17 (by kernel_rfl)
                    have e17 : s17 = .int .i64 (c : Int) := hF.get 17 _ rfl (.inr p17)
                    subst e17
                    have r17 : A.tmps[151]? = some (.int .i64 (c : Int)) := hR.own 17 _ _ rfl rfl
                    refine step_of ⟨some 152, _, _, _, _, _⟩ rfl (fun K' hK => ?_)
                    go_simp
                    exact hK.out _ _ ⟨_, hF.pure hok hla hpre rfl (Below.refl _ _), rfl⟩
                   rcases Nat.lt_or_ge i 20 with hi | hge
                   ·obtain rfl := eqi hi hge
                    have p18 := hpre 18 (by kernel_rfl)
                    have e18 : s18 = .pointer (some ⟨gi, c * 2, none⟩) := hF.get 18 _ rfl (.inr p18)
                    subst e18
                    have r18 : A.tmps[152]? = some (.pointer (some ⟨gi, c * 2, none⟩)) := hR.own 18 _ _ rfl rfl
                    have c0 := cell_below HD0.out (below_none hF.low)
                    have c1 := cell_below HD1.out (below_none hF.low)
                    refine step_of ⟨some 153, _, _, _, _, _⟩ rfl (fun K' hK => ?_)
                    go_simp
                    exact hK.out _ _ ⟨_, hF.pure hok hla hpre rfl (Below.refl _ _), rfl⟩
                   rcases Nat.lt_or_ge i 21 with hi | hge
                   ·obtain rfl := eqi hi hge
                    have p12 := hpre 12 (by kernel_rfl)
                    have e12 : s12 = .agg #[.string (numS f), .string (denS f)] := hF.get 12 _ rfl (.inr p12)
                    subst e12
                    have r12 : A.tmps[146]? = some (.agg #[.string (numS f), .string (denS f)]) := hR.own 12 _ _ rfl rfl
                    have p19 := hpre 19 (by kernel_rfl)
                    have e19 : s19 = .agg #[.string (numS y), .string (denS y)] := hF.get 19 _ rfl (.inr p19)
                    subst e19
                    have r19 : A.tmps[153]? = some (.agg #[.string (numS y), .string (denS y)]) := hR.own 19 _ _ rfl rfl
                    refine step_of ⟨some 154, _, _, _, _, _⟩ rfl (fun K' hK => ?_)
                    go_simp
                    go_at_call 147
                    (with_reducible refine (TM.out _ ((HI.out.step (below_none hF.low)).env HE0.out HP.out)).mono ?_)
                    rintro e Wq ⟨rfl, hq⟩
                    exact hK.out _ _ ⟨_, hF.pure hok hla hpre rfl hq, rfl⟩
                   obtain rfl := eqi hi hge
                   have p11 := hpre 11 (by kernel_rfl)
                   have e11 : s11 = .agg #[.string (numS x), .string (denS x)] := hF.get 11 _ rfl (.inr p11)
                   subst e11
                   have r11 : A.tmps[145]? = some (.agg #[.string (numS x), .string (denS x)]) := hR.own 11 _ _ rfl rfl
                   have p20 := hpre 20 (by kernel_rfl)
                   have e20 : s20 = .agg #[.string (numS fy), .string (denS fy)] := hF.get 20 _ rfl (.inr p20)
                   subst e20
                   have r20 : A.tmps[154]? = some (.agg #[.string (numS fy), .string (denS fy)]) := hR.own 20 _ _ rfl rfl
                   refine step_of ⟨some 155, _, _, _, _, _⟩ rfl (fun K' hK => ?_)
                   go_simp
                   go_at_call 150
                   (with_reducible refine (TS.out _ ((HI.out.step (below_none hF.low)).env HE0.out HP.out)).mono ?_)
                   rintro e Wq ⟨rfl, hq⟩
                   exact hK.out _ _ ⟨_, hF.pure hok hla hpre rfl hq, rfl⟩
                  case hd =>
                   rintro listed vs WB hF hall
                   obtain ⟨s0, s1, s2, s3, s4, s5, s6, s7, s8, s9, s10, s11, s12, s13, s14, s15, s16, s17, s18, s19, s20, s21, s22, s23, hvs⟩ := exl_of 24 vs (fun l => vs = l) hF.len rfl
                   subst hvs
                   have e3 : s3 = .slice (some ⟨gj, 0, none⟩) n Cj := hF.get 3 _ rfl (.inr (hall 3 (by decide)))
                   subst e3
                   have e4 : s4 = .int .i64 (c : Int) := hF.get 4 _ rfl (.inr (hall 4 (by decide)))
                   subst e4
                   have e21 : s21 = .agg #[.string (numS z), .string (denS z)] := hF.get 21 _ rfl (.inr (hall 21 (by decide)))
                   subst e21
                   have hq := below_none hF.low
                   replace H12 := hid (keep_block H12.out hq)
                   replace HI := hid (HI.out.step hq)
                   clear hq
                   clear hF hall hok hla hna
                   simp only [putO, layL]
                   obtain ⟨y0, y1⟩ := (HI.out.m.rows j hjt).item hct
                   have z0 := (HI.out.m.rows j hjt).free (c * 2)
                   have z1 := (HI.out.m.rows j hjt).free (c * 2 + 1)
                   rw [HEgj.out] at y0 y1 z0 z1
                   refine rest_one 22 ⟨some 156, _, _, _, _, _⟩ rfl (by kernel_rfl) rfl (fun K' hK => ?_)
                   go_simp
                   refine hK.out _ _ ?_
                   refine rest_one 23 ⟨none, _, _, _, _, _⟩ rfl (by kernel_rfl) rfl (fun K' hK => ?_)
                   go_simp
                   refine hK.out _ _ ?_
                   refine rest_end ?_
                   clear y0 y1 z0 z1
                   have hq2 := HI.out.setm hjt hct (FM c)
                   have h12 := (HI.out.var (c := c) H12.out HB12.out hjt z).1
                   rw [← colsM_succ mj j FM c, HEgj.out, HZ.out] at hq2
                   rw [HEgj.out] at h12
                   have HI2 := hid hq2
                   have H122 := hid h12
                   clear hq2 h12 HI H12 TM TS HC0 HC1 HD0 HD1
                   go_wp2_with fail
                   go_meet
                   case rel => exact ⟨rfl, rfl, ⟨HFZ.out, HFY2.out⟩, H122.out, HI2.out⟩
                | false =>
                 as_aux_lemma =>
                  have TS := (fun W' ge => fm_sub_over x fy W' HF1.out HFY2.out (by rw [HXZ.out]; exact hfz) ge)
                  rw [fracV_is x, fracV_is fy] at TS
                  replace TS := hid TS
                  have HBAD := hid (show ¬ ElFit n i m d from fun h => by
                   have h2 := h.s j c HIJ.out hjt hct
                   rw [HQ.out, HPP.out, HFF.out, HX.out, HY.out, HFY.out, HXZ.out, hfz] at h2; cases h2)
                  clear hfz
                  go_wp2_with fail
                  have hok : okB 24 (relbKs23 f x y fy z n bm C i j c gi gj Ci Cj b12) = true := by kernel_rfl
                  have hla : ∀ (ix : Nat) (kx : RK), (relbKs23 f x y fy z n bm C i j c gi gj Ci Cj b12)[ix]? = some kx → kx.lasts := by
                   intro ix kx hk
                   match ix, hk with
                   | 0, hk => have hk := Option.some.inj hk; subst hk; exact trivial
                   | 1, hk => have hk := Option.some.inj hk; subst hk; exact trivial
                   | 2, hk => have hk := Option.some.inj hk; subst hk; exact trivial
                   | 3, hk => have hk := Option.some.inj hk; subst hk; exact trivial
                   | 4, hk => have hk := Option.some.inj hk; subst hk; exact trivial
                   | 5, hk => have hk := Option.some.inj hk; subst hk; exact trivial
                   | 6, hk => have hk := Option.some.inj hk; subst hk; exact trivial
                   | 7, hk => have hk := Option.some.inj hk; subst hk; exact trivial
                   | 8, hk => have hk := Option.some.inj hk; subst hk; exact trivial
                   | 9, hk => have hk := Option.some.inj hk; subst hk; exact trivial
                   | 10, hk => have hk := Option.some.inj hk; subst hk; exact trivial
                   | 11, hk => have hk := Option.some.inj hk; subst hk; exact trivial
                   | 12, hk => have hk := Option.some.inj hk; subst hk; exact trivial
                   | 13, hk => have hk := Option.some.inj hk; subst hk; exact trivial
                   | 14, hk => have hk := Option.some.inj hk; subst hk; exact trivial
                   | 15, hk => have hk := Option.some.inj hk; subst hk; exact trivial
                   | 16, hk => have hk := Option.some.inj hk; subst hk; exact trivial
                   | 17, hk => have hk := Option.some.inj hk; subst hk; exact trivial
                   | 18, hk => have hk := Option.some.inj hk; subst hk; exact trivial
                   | 19, hk => have hk := Option.some.inj hk; subst hk; exact trivial
                   | 20, hk => have hk := Option.some.inj hk; subst hk; exact trivial
                   | 21, hk => have hk := Option.some.inj hk; subst hk; exact (fun _ _ _ h _ => h)
                   | 22, hk => have hk := Option.some.inj hk; subst hk; exact trivial
                   | 23, hk => have hk := Option.some.inj hk; subst hk; exact trivial
                   | _ + 24, hk => exact absurd hk (by simp [relbKs23])
                  refine wp_region_facts_abs_d (row := none) (w := wr) 22 2 24 [22, 23] (relbKs23 f x y fy z n bm C i j c gi gj Ci Cj b12) [some 134, some 135, some 136, some 137, some 138, some 139, some 140, some 141, some 142, some 143, some 144, some 145, some 146, some 147, some 148, some 149, some 150, some 151, some 152, some 153, some 154, some 155, some 156, none] [(0, .slice (some ⟨bm, 0, none⟩) n C), (11, .int .i64 (j : Int)), (13, .int .i64 (c : Int)), (12, .pointer (some ⟨b12, 0, none⟩)), (9, .int .i64 (i : Int))] 220 (by kernel_rfl) (by kernel_rfl) (by kernel_rfl) rfl rfl (by decide) rfl (by kernel_rfl) rfl (Nat.le_of_eq rfl) rfl ?ho [u134, u135, u136, u137, u138, u139, u140, u141, u142, u143, u144, u145, u146, u147, u148, u149, u150, u151, u152, u153, u154, u155, u156, undef] ?h00 (Fs.start rfl rfl) ?hs ?hd
                  case ho =>
                   intro k x hk
                   match k, hk with
                   | 0, hk => have hk := Option.some.inj hk; subst hk; rfl
                   | 1, hk => have hk := Option.some.inj hk; subst hk; rfl
                   | 2, hk => have hk := Option.some.inj hk; subst hk; rfl
                   | 3, hk => have hk := Option.some.inj hk; subst hk; rfl
                   | 4, hk => have hk := Option.some.inj hk; subst hk; rfl
                   | _ + 5, hk => exact absurd hk (by simp)
                  case h00 => simp only [putO, layL]
                  case hs =>
                   rintro A listed vs Wr hF hR hD i hi hun hpre
                   obtain ⟨s0, s1, s2, s3, s4, s5, s6, s7, s8, s9, s10, s11, s12, s13, s14, s15, s16, s17, s18, s19, s20, s21, s22, s23, hvs⟩ := exl_of 24 vs (fun l => vs = l) hF.len rfl
                   subst hvs
                   have hge := Nat.zero_le i
                   replace hD := hid hD
                   rcases Nat.lt_or_ge i 11 with hi | hge
                   ·rcases Nat.lt_or_ge i 5 with hi | hge
                    ·rcases Nat.lt_or_ge i 2 with hi | hge
                     ·rcases Nat.lt_or_ge i 1 with hi | hge
                      ·obtain rfl := eqi hi hge
                       have ro0 : A.tmps[0]? = some (.slice (some ⟨bm, 0, none⟩) n C) := hR.out 0 _ rfl
                       refine step_of ⟨some 134, _, _, _, _, _⟩ rfl (fun K' hK => ?_)
                       go_simp
                       exact hK.out _ _ ⟨_, hF.pure hok hla hpre rfl (Below.refl _ _), rfl⟩
                      obtain rfl := eqi hi hge
                      have ro11 : A.tmps[11]? = some (.int .i64 (j : Int)) := hR.out 1 _ rfl
                      refine step_of ⟨some 135, _, _, _, _, _⟩ rfl (fun K' hK => ?_)
                      go_simp
                      exact hK.out _ _ ⟨_, hF.pure hok hla hpre rfl (Below.refl _ _), rfl⟩
                     rcases Nat.lt_or_ge i 3 with hi | hge
                     ·obtain rfl := eqi hi hge
                      have p0 := hpre 0 (by kernel_rfl)
                      have e0 : s0 = .slice (some ⟨bm, 0, none⟩) n C := hF.get 0 _ rfl (.inr p0)
                      subst e0
                      have r0 : A.tmps[134]? = some (.slice (some ⟨bm, 0, none⟩) n C) := hR.own 0 _ _ rfl rfl
                      have p1 := hpre 1 (by kernel_rfl)
                      have e1 : s1 = .int .i64 (j : Int) := hF.get 1 _ rfl (.inr p1)
                      subst e1
                      have r1 : A.tmps[135]? = some (.int .i64 (j : Int)) := hR.own 1 _ _ rfl rfl
                      refine step_of ⟨some 136, _, _, _, _, _⟩ rfl (fun K' hK => ?_)
                      go_simp
                      exact hK.out _ _ ⟨_, hF.pure hok hla hpre rfl (Below.refl _ _), rfl⟩
                     rcases Nat.lt_or_ge i 4 with hi | hge
                     ·obtain rfl := eqi hi hge
                      have p2 := hpre 2 (by kernel_rfl)
                      have e2 : s2 = .pointer (some ⟨bm, j, none⟩) := hF.get 2 _ rfl (.inr p2)
                      subst e2
                      have r2 : A.tmps[136]? = some (.pointer (some ⟨bm, j, none⟩)) := hR.own 2 _ _ rfl rfl
                      have y0 := cell_below HYgj.out (below_none hF.low)
                      refine step_of ⟨some 137, _, _, _, _, _⟩ rfl (fun K' hK => ?_)
                      go_simp
                      exact hK.out _ _ ⟨_, hF.pure hok hla hpre rfl (Below.refl _ _), rfl⟩
                     obtain rfl := eqi hi hge
                     have ro13 : A.tmps[13]? = some (.int .i64 (c : Int)) := hR.out 2 _ rfl
                     refine step_of ⟨some 138, _, _, _, _, _⟩ rfl (fun K' hK => ?_)
                     go_simp
                     exact hK.out _ _ ⟨_, hF.pure hok hla hpre rfl (Below.refl _ _), rfl⟩
                    rcases Nat.lt_or_ge i 8 with hi | hge
                    ·rcases Nat.lt_or_ge i 6 with hi | hge
                     ·obtain rfl := eqi hi hge
                      have ro0 : A.tmps[0]? = some (.slice (some ⟨bm, 0, none⟩) n C) := hR.out 0 _ rfl
                      refine step_of ⟨some 139, _, _, _, _, _⟩ rfl (fun K' hK => ?_)
                      go_simp
                      exact hK.out _ _ ⟨_, hF.pure hok hla hpre rfl (Below.refl _ _), rfl⟩
                     rcases Nat.lt_or_ge i 7 with hi | hge
                     ·obtain rfl := eqi hi hge
                      have ro11 : A.tmps[11]? = some (.int .i64 (j : Int)) := hR.out 1 _ rfl
                      refine step_of ⟨some 140, _, _, _, _, _⟩ rfl (fun K' hK => ?_)
                      go_simp
                      exact hK.out _ _ ⟨_, hF.pure hok hla hpre rfl (Below.refl _ _), rfl⟩
                     obtain rfl := eqi hi hge
                     have p5 := hpre 5 (by kernel_rfl)
                     have e5 : s5 = .slice (some ⟨bm, 0, none⟩) n C := hF.get 5 _ rfl (.inr p5)
                     subst e5
                     have r5 : A.tmps[139]? = some (.slice (some ⟨bm, 0, none⟩) n C) := hR.own 5 _ _ rfl rfl
                     have p6 := hpre 6 (by kernel_rfl)
                     have e6 : s6 = .int .i64 (j : Int) := hF.get 6 _ rfl (.inr p6)
                     subst e6
                     have r6 : A.tmps[140]? = some (.int .i64 (j : Int)) := hR.own 6 _ _ rfl rfl
                     refine step_of ⟨some 141, _, _, _, _, _⟩ rfl (fun K' hK => ?_)
                     go_simp
                     exact hK.out _ _ ⟨_, hF.pure hok hla hpre rfl (Below.refl _ _), rfl⟩
                    rcases Nat.lt_or_ge i 9 with hi | hge
                    ·obtain rfl := eqi hi hge
                     have p7 := hpre 7 (by kernel_rfl)
                     have e7 : s7 = .pointer (some ⟨bm, j, none⟩) := hF.get 7 _ rfl (.inr p7)
                     subst e7
                     have r7 : A.tmps[141]? = some (.pointer (some ⟨bm, j, none⟩)) := hR.own 7 _ _ rfl rfl
                     have y0 := cell_below HYgj.out (below_none hF.low)
                     refine step_of ⟨some 142, _, _, _, _, _⟩ rfl (fun K' hK => ?_)
                     go_simp
                     exact hK.out _ _ ⟨_, hF.pure hok hla hpre rfl (Below.refl _ _), rfl⟩
                    rcases Nat.lt_or_ge i 10 with hi | hge
                    ·obtain rfl := eqi hi hge
                     have ro13 : A.tmps[13]? = some (.int .i64 (c : Int)) := hR.out 2 _ rfl
                     refine step_of ⟨some 143, _, _, _, _, _⟩ rfl (fun K' hK => ?_)
                     go_simp
                     exact hK.out _ _ ⟨_, hF.pure hok hla hpre rfl (Below.refl _ _), rfl⟩
                    obtain rfl := eqi hi hge
                    have p8 := hpre 8 (by kernel_rfl)
                    have e8 : s8 = .slice (some ⟨gj, 0, none⟩) n Cj := hF.get 8 _ rfl (.inr p8)
                    subst e8
                    have r8 : A.tmps[142]? = some (.slice (some ⟨gj, 0, none⟩) n Cj) := hR.own 8 _ _ rfl rfl
                    have p9 := hpre 9 (by kernel_rfl)
                    have e9 : s9 = .int .i64 (c : Int) := hF.get 9 _ rfl (.inr p9)
                    subst e9
                    have r9 : A.tmps[143]? = some (.int .i64 (c : Int)) := hR.own 9 _ _ rfl rfl
                    refine step_of ⟨some 144, _, _, _, _, _⟩ rfl (fun K' hK => ?_)
                    go_simp
                    exact hK.out _ _ ⟨_, hF.pure hok hla hpre rfl (Below.refl _ _), rfl⟩
                   rcases Nat.lt_or_ge i 16 with hi | hge
                   ·rcases Nat.lt_or_ge i 13 with hi | hge
                    ·rcases Nat.lt_or_ge i 12 with hi | hge
                     ·obtain rfl := eqi hi hge
                      have p10 := hpre 10 (by kernel_rfl)
                      have e10 : s10 = .pointer (some ⟨gj, c * 2, none⟩) := hF.get 10 _ rfl (.inr p10)
                      subst e10
                      have r10 : A.tmps[144]? = some (.pointer (some ⟨gj, c * 2, none⟩)) := hR.own 10 _ _ rfl rfl
                      have c0 := cell_below HC0.out (below_none hF.low)
                      have c1 := cell_below HC1.out (below_none hF.low)
                      refine step_of ⟨some 145, _, _, _, _, _⟩ rfl (fun K' hK => ?_)
                      go_simp
                      exact hK.out _ _ ⟨_, hF.pure hok hla hpre rfl (Below.refl _ _), rfl⟩
                     obtain rfl := eqi hi hge
                     have ro12 : A.tmps[12]? = some (.pointer (some ⟨b12, 0, none⟩)) := hR.out 3 _ rfl
                     have hcc := (two_at (keep_block H12.out (below_none hF.low))).1
                     have cH120 := hcc.1
                     have cH121 := hcc.2
                     clear hcc
                     refine step_of ⟨some 146, _, _, _, _, _⟩ rfl (fun K' hK => ?_)
                     go_simp
                     exact hK.out _ _ ⟨_, hF.pure hok hla hpre rfl (Below.refl _ _), rfl⟩
                    rcases Nat.lt_or_ge i 14 with hi | hge
                    ·obtain rfl := eqi hi hge
                     have ro0 : A.tmps[0]? = some (.slice (some ⟨bm, 0, none⟩) n C) := hR.out 0 _ rfl
                     refine step_of ⟨some 147, _, _, _, _, _⟩ rfl (fun K' hK => ?_)
                     go_simp
                     exact hK.out _ _ ⟨_, hF.pure hok hla hpre rfl (Below.refl _ _), rfl⟩
                    rcases Nat.lt_or_ge i 15 with hi | hge
                    ·obtain rfl := eqi hi hge
                     have ro9 : A.tmps[9]? = some (.int .i64 (i : Int)) := hR.out 4 _ rfl
                     refine step_of ⟨some 148, _, _, _, _, _⟩ rfl (fun K' hK => ?_)
                     go_simp
                     exact hK.out _ _ ⟨_, hF.pure hok hla hpre rfl (Below.refl _ _), rfl⟩
                    obtain rfl := eqi hi hge
                    have p13 := hpre 13 (by kernel_rfl)
                    have e13 : s13 = .slice (some ⟨bm, 0, none⟩) n C := hF.get 13 _ rfl (.inr p13)
                    subst e13
                    have r13 : A.tmps[147]? = some (.slice (some ⟨bm, 0, none⟩) n C) := hR.own 13 _ _ rfl rfl
                    have p14 := hpre 14 (by kernel_rfl)
                    have e14 : s14 = .int .i64 (i : Int) := hF.get 14 _ rfl (.inr p14)
                    subst e14
                    have r14 : A.tmps[148]? = some (.int .i64 (i : Int)) := hR.own 14 _ _ rfl rfl
                    refine step_of ⟨some 149, _, _, _, _, _⟩ rfl (fun K' hK => ?_)
                    go_simp
                    exact hK.out _ _ ⟨_, hF.pure hok hla hpre rfl (Below.refl _ _), rfl⟩
                   rcases Nat.lt_or_ge i 19 with hi | hge
                   ·rcases Nat.lt_or_ge i 17 with hi | hge
                    ·obtain rfl := eqi hi hge
                     have p15 := hpre 15 (by kernel_rfl)
                     have e15 : s15 = .pointer (some ⟨bm, i, none⟩) := hF.get 15 _ rfl (.inr p15)
                     subst e15
                     have r15 : A.tmps[149]? = some (.pointer (some ⟨bm, i, none⟩)) := hR.own 15 _ _ rfl rfl
                     have y0 := cell_below HYgi.out (below_none hF.low)
                     refine step_of ⟨some 150, _, _, _, _, _⟩ rfl (fun K' hK => ?_)
                     go_simp
                     exact hK.out _ _ ⟨_, hF.pure hok hla hpre rfl (Below.refl _ _), rfl⟩
                    rcases Nat.lt_or_ge i 18 with hi | hge
                    ·obtain rfl := eqi hi hge
                     have ro13 : A.tmps[13]? = some (.int .i64 (c : Int)) := hR.out 2 _ rfl
                     refine step_of ⟨some 151, _, _, _, _, _⟩ rfl (fun K' hK => ?_)
                     go_simp
                     exact hK.out _ _ ⟨_, hF.pure hok hla hpre rfl (Below.refl _ _), rfl⟩
                    obtain rfl := eqi hi hge
                    have p16 := hpre 16 (by kernel_rfl)
                    have e16 : s16 = .slice (some ⟨gi, 0, none⟩) n Ci := hF.get 16 _ rfl (.inr p16)
                    subst e16
                    have r16 : A.tmps[150]? = some (.slice (some ⟨gi, 0, none⟩) n Ci) := hR.own 16 _ _ rfl rfl
                    have p17 := hpre 17 (by kernel_rfl)
                    have e17 : s17 = .int .i64 (c : Int) := hF.get 17 _ rfl (.inr p17)
                    subst e17
                    have r17 : A.tmps[151]? = some (.int .i64 (c : Int)) := hR.own 17 _ _ rfl rfl
                    refine step_of ⟨some 152, _, _, _, _, _⟩ rfl (fun K' hK => ?_)
                    go_simp
                    exact hK.out _ _ ⟨_, hF.pure hok hla hpre rfl (Below.refl _ _), rfl⟩
                   rcases Nat.lt_or_ge i 20 with hi | hge
                   ·obtain rfl := eqi hi hge
                    have p18 := hpre 18 (by kernel_rfl)
                    have e18 : s18 = .pointer (some ⟨gi, c * 2, none⟩) := hF.get 18 _ rfl (.inr p18)
                    subst e18
                    have r18 : A.tmps[152]? = some (.pointer (some ⟨gi, c * 2, none⟩)) := hR.own 18 _ _ rfl rfl
                    have c0 := cell_below HD0.out (below_none hF.low)
                    have c1 := cell_below HD1.out (below_none hF.low)
                    refine step_of ⟨some 153, _, _, _, _, _⟩ rfl (fun K' hK => ?_)
                    go_simp
                    exact hK.out _ _ ⟨_, hF.pure hok hla hpre rfl (Below.refl _ _), rfl⟩
                   rcases Nat.lt_or_ge i 21 with hi | hge
                   ·obtain rfl := eqi hi hge
                    have p12 := hpre 12 (by kernel_rfl)
                    have e12 : s12 = .agg #[.string (numS f), .string (denS f)] := hF.get 12 _ rfl (.inr p12)
                    subst e12
                    have r12 : A.tmps[146]? = some (.agg #[.string (numS f), .string (denS f)]) := hR.own 12 _ _ rfl rfl
                    have p19 := hpre 19 (by kernel_rfl)
                    have e19 : s19 = .agg #[.string (numS y), .string (denS y)] := hF.get 19 _ rfl (.inr p19)
                    subst e19
                    have r19 : A.tmps[153]? = some (.agg #[.string (numS y), .string (denS y)]) := hR.own 19 _ _ rfl rfl
                    refine step_of ⟨some 154, _, _, _, _, _⟩ rfl (fun K' hK => ?_)
                    go_simp
                    go_at_call 147
                    (with_reducible refine (TM.out _ ((HI.out.step (below_none hF.low)).env HE0.out HP.out)).mono ?_)
                    rintro e Wq ⟨rfl, hq⟩
                    exact hK.out _ _ ⟨_, hF.pure hok hla hpre rfl hq, rfl⟩
                   obtain rfl := eqi hi hge
                   have p11 := hpre 11 (by kernel_rfl)
                   have e11 : s11 = .agg #[.string (numS x), .string (denS x)] := hF.get 11 _ rfl (.inr p11)
                   subst e11
                   have r11 : A.tmps[145]? = some (.agg #[.string (numS x), .string (denS x)]) := hR.own 11 _ _ rfl rfl
                   have p20 := hpre 20 (by kernel_rfl)
                   have e20 : s20 = .agg #[.string (numS fy), .string (denS fy)] := hF.get 20 _ rfl (.inr p20)
                   subst e20
                   have r20 : A.tmps[154]? = some (.agg #[.string (numS fy), .string (denS fy)]) := hR.own 20 _ _ rfl rfl
                   refine step_of ⟨some 155, _, _, _, _, _⟩ rfl (fun K' hK => ?_)
                   go_simp
                   go_at_call 150
                   (with_reducible refine (TS.out _ ((HI.out.step (below_none hF.low)).env HE0.out HP.out)).mono ?_)
                   rintro e Wq ⟨rfl, hq⟩
                   unfold stopped
                   go_wp2
                   exact ⟨hD.out, .inr ⟨rfl, i, m, d, HS.out, HBAD.out⟩, HI.out.low.trans (((below_none hF.low).trans (hq.mono (below_none hF.low).size)).mono (Nat.le_trans HI.out.ge.2.1 (Nat.le_of_lt (heap_lt HI.out.res))))⟩
                  case hd =>
                   rintro listed vs WB hF hall
                   obtain ⟨s0, s1, s2, s3, s4, s5, s6, s7, s8, s9, s10, s11, s12, s13, s14, s15, s16, s17, s18, s19, s20, s21, s22, s23, hvs⟩ := exl_of 24 vs (fun l => vs = l) hF.len rfl
                   subst hvs
                   exact (show False from hF.get 21 _ rfl (.inr (hall 21 (by decide)))).elim
               | false =>
                as_aux_lemma =>
                 have TM := (fun W' ge => fm_mul_over f y W' HFIT.out HF2.out (by rw [HFY.out]; exact hfy) ge)
                 rw [fracV_is f, fracV_is y] at TM
                 replace TM := hid TM
                 have HBAD := hid (show ¬ ElFit n i m d from fun h => by
                  have h2 := h.p j c HIJ.out hjt hct
                  rw [HQ.out, HPP.out, HFF.out, HY.out, HFY.out, hfy] at h2; cases h2)
                 clear hfy
                 go_wp2_with fail
                 have hok : okB 24 (relcKs23 f x y fy z n bm C i j c gi gj Ci Cj b12) = true := by kernel_rfl
                 have hla : ∀ (ix : Nat) (kx : RK), (relcKs23 f x y fy z n bm C i j c gi gj Ci Cj b12)[ix]? = some kx → kx.lasts := by
                  intro ix kx hk
                  match ix, hk with
                  | 0, hk => have hk := Option.some.inj hk; subst hk; exact trivial
                  | 1, hk => have hk := Option.some.inj hk; subst hk; exact trivial
                  | 2, hk => have hk := Option.some.inj hk; subst hk; exact trivial
                  | 3, hk => have hk := Option.some.inj hk; subst hk; exact trivial
                  | 4, hk => have hk := Option.some.inj hk; subst hk; exact trivial
                  | 5, hk => have hk := Option.some.inj hk; subst hk; exact trivial
                  | 6, hk => have hk := Option.some.inj hk; subst hk; exact trivial
                  | 7, hk => have hk := Option.some.inj hk; subst hk; exact trivial
                  | 8, hk => have hk := Option.some.inj hk; subst hk; exact trivial
                  | 9, hk => have hk := Option.some.inj hk; subst hk; exact trivial
                  | 10, hk => have hk := Option.some.inj hk; subst hk; exact trivial
                  | 11, hk => have hk := Option.some.inj hk; subst hk; exact trivial
                  | 12, hk => have hk := Option.some.inj hk; subst hk; exact trivial
                  | 13, hk => have hk := Option.some.inj hk; subst hk; exact trivial
                  | 14, hk => have hk := Option.some.inj hk; subst hk; exact trivial
                  | 15, hk => have hk := Option.some.inj hk; subst hk; exact trivial
                  | 16, hk => have hk := Option.some.inj hk; subst hk; exact trivial
                  | 17, hk => have hk := Option.some.inj hk; subst hk; exact trivial
                  | 18, hk => have hk := Option.some.inj hk; subst hk; exact trivial
                  | 19, hk => have hk := Option.some.inj hk; subst hk; exact trivial
                  | 20, hk => have hk := Option.some.inj hk; subst hk; exact (fun _ _ _ h _ => h)
                  | 21, hk => have hk := Option.some.inj hk; subst hk; exact trivial
                  | 22, hk => have hk := Option.some.inj hk; subst hk; exact trivial
                  | 23, hk => have hk := Option.some.inj hk; subst hk; exact trivial
                  | _ + 24, hk => exact absurd hk (by simp [relcKs23])
                 refine wp_region_facts_abs_d (row := none) (w := wr) 22 2 24 [22, 23] (relcKs23 f x y fy z n bm C i j c gi gj Ci Cj b12) [some 134, some 135, some 136, some 137, some 138, some 139, some 140, some 141, some 142, some 143, some 144, some 145, some 146, some 147, some 148, some 149, some 150, some 151, some 152, some 153, some 154, some 155, some 156, none] [(0, .slice (some ⟨bm, 0, none⟩) n C), (11, .int .i64 (j : Int)), (13, .int .i64 (c : Int)), (12, .pointer (some ⟨b12, 0, none⟩)), (9, .int .i64 (i : Int))] 220 (by kernel_rfl) (by kernel_rfl) (by kernel_rfl) rfl rfl (by decide) rfl (by kernel_rfl) rfl (Nat.le_of_eq rfl) rfl ?ho [u134, u135, u136, u137, u138, u139, u140, u141, u142, u143, u144, u145, u146, u147, u148, u149, u150, u151, u152, u153, u154, u155, u156, undef] ?h00 (Fs.start rfl rfl) ?hs ?hd
                 case ho =>
                  intro k x hk
                  match k, hk with
                  | 0, hk => have hk := Option.some.inj hk; subst hk; rfl
                  | 1, hk => have hk := Option.some.inj hk; subst hk; rfl
                  | 2, hk => have hk := Option.some.inj hk; subst hk; rfl
                  | 3, hk => have hk := Option.some.inj hk; subst hk; rfl
                  | 4, hk => have hk := Option.some.inj hk; subst hk; rfl
                  | _ + 5, hk => exact absurd hk (by simp)
                 case h00 => simp only [putO, layL]
                 case hs =>
                  rintro A listed vs Wr hF hR hD i hi hun hpre
                  obtain ⟨s0, s1, s2, s3, s4, s5, s6, s7, s8, s9, s10, s11, s12, s13, s14, s15, s16, s17, s18, s19, s20, s21, s22, s23, hvs⟩ := exl_of 24 vs (fun l => vs = l) hF.len rfl
                  subst hvs
                  have hge := Nat.zero_le i
                  replace hD := hid hD
                  rcases Nat.lt_or_ge i 11 with hi | hge
                  ·rcases Nat.lt_or_ge i 5 with hi | hge
                   ·rcases Nat.lt_or_ge i 2 with hi | hge
                    ·rcases Nat.lt_or_ge i 1 with hi | hge
                     ·obtain rfl := eqi hi hge
                      have ro0 : A.tmps[0]? = some (.slice (some ⟨bm, 0, none⟩) n C) := hR.out 0 _ rfl
                      refine step_of ⟨some 134, _, _, _, _, _⟩ rfl (fun K' hK => ?_)
                      go_simp
                      exact hK.out _ _ ⟨_, hF.pure hok hla hpre rfl (Below.refl _ _), rfl⟩
                     obtain rfl := eqi hi hge
                     have ro11 : A.tmps[11]? = some (.int .i64 (j : Int)) := hR.out 1 _ rfl
                     refine step_of ⟨some 135, _, _, _, _, _⟩ rfl (fun K' hK => ?_)
                     go_simp
                     exact hK.out _ _ ⟨_, hF.pure hok hla hpre rfl (Below.refl _ _), rfl⟩
                    rcases Nat.lt_or_ge i 3 with hi | hge
                    ·obtain rfl := eqi hi hge
                     have p0 := hpre 0 (by kernel_rfl)
                     have e0 : s0 = .slice (some ⟨bm, 0, none⟩) n C := hF.get 0 _ rfl (.inr p0)
                     subst e0
                     have r0 : A.tmps[134]? = some (.slice (some ⟨bm, 0, none⟩) n C) := hR.own 0 _ _ rfl rfl
                     have p1 := hpre 1 (by kernel_rfl)
                     have e1 : s1 = .int .i64 (j : Int) := hF.get 1 _ rfl (.inr p1)
                     subst e1
                     have r1 : A.tmps[135]? = some (.int .i64 (j : Int)) := hR.own 1 _ _ rfl rfl
                     refine step_of ⟨some 136, _, _, _, _, _⟩ rfl (fun K' hK => ?_)
                     go_simp
                     exact hK.out _ _ ⟨_, hF.pure hok hla hpre rfl (Below.refl _ _), rfl⟩
                    rcases Nat.lt_or_ge i 4 with hi | hge
                    ·obtain rfl := eqi hi hge
                     have p2 := hpre 2 (by kernel_rfl)
                     have e2 : s2 = .pointer (some ⟨bm, j, none⟩) := hF.get 2 _ rfl (.inr p2)
                     subst e2
                     have r2 : A.tmps[136]? = some (.pointer (some ⟨bm, j, none⟩)) := hR.own 2 _ _ rfl rfl
                     have y0 := cell_below HYgj.out (below_none hF.low)
                     refine step_of ⟨some 137, _, _, _, _, _⟩ rfl (fun K' hK => ?_)
                     go_simp
                     exact hK.out _ _ ⟨_, hF.pure hok hla hpre rfl (Below.refl _ _), rfl⟩
                    obtain rfl := eqi hi hge
                    have ro13 : A.tmps[13]? = some (.int .i64 (c : Int)) := hR.out 2 _ rfl
                    refine step_of ⟨some 138, _, _, _, _, _⟩ rfl (fun K' hK => ?_)
                    go_simp
                    exact hK.out _ _ ⟨_, hF.pure hok hla hpre rfl (Below.refl _ _), rfl⟩
                   rcases Nat.lt_or_ge i 8 with hi | hge
                   ·rcases Nat.lt_or_ge i 6 with hi | hge
                    ·obtain rfl := eqi hi hge
                     have ro0 : A.tmps[0]? = some (.slice (some ⟨bm, 0, none⟩) n C) := hR.out 0 _ rfl
                     refine step_of ⟨some 139, _, _, _, _, _⟩ rfl (fun K' hK => ?_)
                     go_simp
                     exact hK.out _ _ ⟨_, hF.pure hok hla hpre rfl (Below.refl _ _), rfl⟩
                    rcases Nat.lt_or_ge i 7 with hi | hge
                    ·obtain rfl := eqi hi hge
                     have ro11 : A.tmps[11]? = some (.int .i64 (j : Int)) := hR.out 1 _ rfl
                     refine step_of ⟨some 140, _, _, _, _, _⟩ rfl (fun K' hK => ?_)
                     go_simp
                     exact hK.out _ _ ⟨_, hF.pure hok hla hpre rfl (Below.refl _ _), rfl⟩
                    obtain rfl := eqi hi hge
                    have p5 := hpre 5 (by kernel_rfl)
                    have e5 : s5 = .slice (some ⟨bm, 0, none⟩) n C := hF.get 5 _ rfl (.inr p5)
                    subst e5
                    have r5 : A.tmps[139]? = some (.slice (some ⟨bm, 0, none⟩) n C) := hR.own 5 _ _ rfl rfl
                    have p6 := hpre 6 (by kernel_rfl)
                    have e6 : s6 = .int .i64 (j : Int) := hF.get 6 _ rfl (.inr p6)
                    subst e6
                    have r6 : A.tmps[140]? = some (.int .i64 (j : Int)) := hR.own 6 _ _ rfl rfl
                    refine step_of ⟨some 141, _, _, _, _, _⟩ rfl (fun K' hK => ?_)
                    go_simp
                    exact hK.out _ _ ⟨_, hF.pure hok hla hpre rfl (Below.refl _ _), rfl⟩
                   rcases Nat.lt_or_ge i 9 with hi | hge
                   ·obtain rfl := eqi hi hge
                    have p7 := hpre 7 (by kernel_rfl)
                    have e7 : s7 = .pointer (some ⟨bm, j, none⟩) := hF.get 7 _ rfl (.inr p7)
                    subst e7
                    have r7 : A.tmps[141]? = some (.pointer (some ⟨bm, j, none⟩)) := hR.own 7 _ _ rfl rfl
                    have y0 := cell_below HYgj.out (below_none hF.low)
                    refine step_of ⟨some 142, _, _, _, _, _⟩ rfl (fun K' hK => ?_)
                    go_simp
                    exact hK.out _ _ ⟨_, hF.pure hok hla hpre rfl (Below.refl _ _), rfl⟩
                   rcases Nat.lt_or_ge i 10 with hi | hge
                   ·obtain rfl := eqi hi hge
                    have ro13 : A.tmps[13]? = some (.int .i64 (c : Int)) := hR.out 2 _ rfl
                    refine step_of ⟨some 143, _, _, _, _, _⟩ rfl (fun K' hK => ?_)
                    go_simp
                    exact hK.out _ _ ⟨_, hF.pure hok hla hpre rfl (Below.refl _ _), rfl⟩
                   obtain rfl := eqi hi hge
                   have p8 := hpre 8 (by kernel_rfl)
                   have e8 : s8 = .slice (some ⟨gj, 0, none⟩) n Cj := hF.get 8 _ rfl (.inr p8)
                   subst e8
                   have r8 : A.tmps[142]? = some (.slice (some ⟨gj, 0, none⟩) n Cj) := hR.own 8 _ _ rfl rfl
                   have p9 := hpre 9 (by kernel_rfl)
                   have e9 : s9 = .int .i64 (c : Int) := hF.get 9 _ rfl (.inr p9)
                   subst e9
                   have r9 : A.tmps[143]? = some (.int .i64 (c : Int)) := hR.own 9 _ _ rfl rfl
                   refine step_of ⟨some 144, _, _, _, _, _⟩ rfl (fun K' hK => ?_)
                   go_simp
                   exact hK.out _ _ ⟨_, hF.pure hok hla hpre rfl (Below.refl _ _), rfl⟩
                  rcases Nat.lt_or_ge i 16 with hi | hge
                  ·rcases Nat.lt_or_ge i 13 with hi | hge
                   ·rcases Nat.lt_or_ge i 12 with hi | hge
                    ·obtain rfl := eqi hi hge
                     have p10 := hpre 10 (by kernel_rfl)
                     have e10 : s10 = .pointer (some ⟨gj, c * 2, none⟩) := hF.get 10 _ rfl (.inr p10)
                     subst e10
                     have r10 : A.tmps[144]? = some (.pointer (some ⟨gj, c * 2, none⟩)) := hR.own 10 _ _ rfl rfl
                     have c0 := cell_below HC0.out (below_none hF.low)
                     have c1 := cell_below HC1.out (below_none hF.low)
                     refine step_of ⟨some 145, _, _, _, _, _⟩ rfl (fun K' hK => ?_)
                     go_simp
                     exact hK.out _ _ ⟨_, hF.pure hok hla hpre rfl (Below.refl _ _), rfl⟩
                    obtain rfl := eqi hi hge
                    have ro12 : A.tmps[12]? = some (.pointer (some ⟨b12, 0, none⟩)) := hR.out 3 _ rfl
                    have hcc := (two_at (keep_block H12.out (below_none hF.low))).1
                    have cH120 := hcc.1
                    have cH121 := hcc.2
                    clear hcc
                    refine step_of ⟨some 146, _, _, _, _, _⟩ rfl (fun K' hK => ?_)
                    go_simp
                    exact hK.out _ _ ⟨_, hF.pure hok hla hpre rfl (Below.refl _ _), rfl⟩
                   rcases Nat.lt_or_ge i 14 with hi | hge
                   ·obtain rfl := eqi hi hge
                    have ro0 : A.tmps[0]? = some (.slice (some ⟨bm, 0, none⟩) n C) := hR.out 0 _ rfl
                    refine step_of ⟨some 147, _, _, _, _, _⟩ rfl (fun K' hK => ?_)
                    go_simp
                    exact hK.out _ _ ⟨_, hF.pure hok hla hpre rfl (Below.refl _ _), rfl⟩
                   rcases Nat.lt_or_ge i 15 with hi | hge
                   ·obtain rfl := eqi hi hge
                    have ro9 : A.tmps[9]? = some (.int .i64 (i : Int)) := hR.out 4 _ rfl
                    refine step_of ⟨some 148, _, _, _, _, _⟩ rfl (fun K' hK => ?_)
                    go_simp
                    exact hK.out _ _ ⟨_, hF.pure hok hla hpre rfl (Below.refl _ _), rfl⟩
                   obtain rfl := eqi hi hge
                   have p13 := hpre 13 (by kernel_rfl)
                   have e13 : s13 = .slice (some ⟨bm, 0, none⟩) n C := hF.get 13 _ rfl (.inr p13)
                   subst e13
                   have r13 : A.tmps[147]? = some (.slice (some ⟨bm, 0, none⟩) n C) := hR.own 13 _ _ rfl rfl
                   have p14 := hpre 14 (by kernel_rfl)
                   have e14 : s14 = .int .i64 (i : Int) := hF.get 14 _ rfl (.inr p14)
                   subst e14
                   have r14 : A.tmps[148]? = some (.int .i64 (i : Int)) := hR.own 14 _ _ rfl rfl
                   refine step_of ⟨some 149, _, _, _, _, _⟩ rfl (fun K' hK => ?_)
                   go_simp
                   exact hK.out _ _ ⟨_, hF.pure hok hla hpre rfl (Below.refl _ _), rfl⟩
                  rcases Nat.lt_or_ge i 19 with hi | hge
                  ·rcases Nat.lt_or_ge i 17 with hi | hge
                   ·obtain rfl := eqi hi hge
                    have p15 := hpre 15 (by kernel_rfl)
                    have e15 : s15 = .pointer (some ⟨bm, i, none⟩) := hF.get 15 _ rfl (.inr p15)
                    subst e15
                    have r15 : A.tmps[149]? = some (.pointer (some ⟨bm, i, none⟩)) := hR.own 15 _ _ rfl rfl
                    have y0 := cell_below HYgi.out (below_none hF.low)
                    refine step_of ⟨some 150, _, _, _, _, _⟩ rfl (fun K' hK => ?_)
                    go_simp
                    exact hK.out _ _ ⟨_, hF.pure hok hla hpre rfl (Below.refl _ _), rfl⟩
                   rcases Nat.lt_or_ge i 18 with hi | hge
                   ·obtain rfl := eqi hi hge
                    have ro13 : A.tmps[13]? = some (.int .i64 (c : Int)) := hR.out 2 _ rfl
                    refine step_of ⟨some 151, _, _, _, _, _⟩ rfl (fun K' hK => ?_)
                    go_simp
                    exact hK.out _ _ ⟨_, hF.pure hok hla hpre rfl (Below.refl _ _), rfl⟩
                   obtain rfl := eqi hi hge
                   have p16 := hpre 16 (by kernel_rfl)
                   have e16 : s16 = .slice (some ⟨gi, 0, none⟩) n Ci := hF.get 16 _ rfl (.inr p16)
                   subst e16
                   have r16 : A.tmps[150]? = some (.slice (some ⟨gi, 0, none⟩) n Ci) := hR.own 16 _ _ rfl rfl
                   have p17 := hpre 17 (by kernel_rfl)
                   have e17 : s17 = .int .i64 (c : Int) := hF.get 17 _ rfl (.inr p17)
                   subst e17
                   have r17 : A.tmps[151]? = some (.int .i64 (c : Int)) := hR.own 17 _ _ rfl rfl
                   refine step_of ⟨some 152, _, _, _, _, _⟩ rfl (fun K' hK => ?_)
                   go_simp
                   exact hK.out _ _ ⟨_, hF.pure hok hla hpre rfl (Below.refl _ _), rfl⟩
                  rcases Nat.lt_or_ge i 20 with hi | hge
                  ·obtain rfl := eqi hi hge
                   have p18 := hpre 18 (by kernel_rfl)
                   have e18 : s18 = .pointer (some ⟨gi, c * 2, none⟩) := hF.get 18 _ rfl (.inr p18)
                   subst e18
                   have r18 : A.tmps[152]? = some (.pointer (some ⟨gi, c * 2, none⟩)) := hR.own 18 _ _ rfl rfl
                   have c0 := cell_below HD0.out (below_none hF.low)
                   have c1 := cell_below HD1.out (below_none hF.low)
                   refine step_of ⟨some 153, _, _, _, _, _⟩ rfl (fun K' hK => ?_)
                   go_simp
                   exact hK.out _ _ ⟨_, hF.pure hok hla hpre rfl (Below.refl _ _), rfl⟩
                  rcases Nat.lt_or_ge i 21 with hi | hge
                  ·obtain rfl := eqi hi hge
                   have p12 := hpre 12 (by kernel_rfl)
                   have e12 : s12 = .agg #[.string (numS f), .string (denS f)] := hF.get 12 _ rfl (.inr p12)
                   subst e12
                   have r12 : A.tmps[146]? = some (.agg #[.string (numS f), .string (denS f)]) := hR.own 12 _ _ rfl rfl
                   have p19 := hpre 19 (by kernel_rfl)
                   have e19 : s19 = .agg #[.string (numS y), .string (denS y)] := hF.get 19 _ rfl (.inr p19)
                   subst e19
                   have r19 : A.tmps[153]? = some (.agg #[.string (numS y), .string (denS y)]) := hR.own 19 _ _ rfl rfl
                   refine step_of ⟨some 154, _, _, _, _, _⟩ rfl (fun K' hK => ?_)
                   go_simp
                   go_at_call 147
                   (with_reducible refine (TM.out _ ((HI.out.step (below_none hF.low)).env HE0.out HP.out)).mono ?_)
                   rintro e Wq ⟨rfl, hq⟩
                   unfold stopped
                   go_wp2
                   exact ⟨hD.out, .inr ⟨rfl, i, m, d, HS.out, HBAD.out⟩, HI.out.low.trans (((below_none hF.low).trans (hq.mono (below_none hF.low).size)).mono (Nat.le_trans HI.out.ge.2.1 (Nat.le_of_lt (heap_lt HI.out.res))))⟩
                  obtain rfl := eqi hi hge
                  have p11 := hpre 11 (by kernel_rfl)
                  have e11 : s11 = .agg #[.string (numS x), .string (denS x)] := hF.get 11 _ rfl (.inr p11)
                  subst e11
                  have r11 : A.tmps[145]? = some (.agg #[.string (numS x), .string (denS x)]) := hR.own 11 _ _ rfl rfl
                  have p20 := hpre 20 (by kernel_rfl)
                  exact (show False from hF.get 20 _ rfl (.inr p20)).elim
                 case hd =>
                  rintro listed vs WB hF hall
                  obtain ⟨s0, s1, s2, s3, s4, s5, s6, s7, s8, s9, s10, s11, s12, s13, s14, s15, s16, s17, s18, s19, s20, s21, s22, s23, hvs⟩ := exl_of 24 vs (fun l => vs = l) hF.len rfl
                  subst hvs
                  exact (show False from hF.get 20 _ rfl (.inr (hall 20 (by decide)))).elim
              case rest =>
               obtain ⟨rfl, rfl, hfz, h12, hI⟩ := hcut
               replace HI := hid hI
               replace H12 := hid h12
               have HFC2 := hid (show ∀ c', c' < c + 1 → fits (FM c') = true ∧ fits (f * m i c') = true from fun c' h => by
                by_cases e : c' < c
                ·exact HFC.out c' e
                ·have e2 : c' = c := by omega
                 rw [e2, HZ.out, HY.out, HFY.out]; exact hfz)
               clear hI h12 hfz
               go_wp2
               go_roundg (n - (c + 1))
               case measure => omega
               case rel => exact ⟨c + 1, by go_num, by omega, by omega, H12.out, HI.out, HFC2.out⟩
             ·have hce : decide ((c : Int) < (n : Int)) = false := decide_eq_false (by omega)
              have hce2 : decide (c < n) = false := decide_eq_false hct
              as_aux_lemma =>
               have hcn : c = n := by omega
               rw [hcn] at HI HFC
               clear hct hcn
               have hd := row_done' (n := n) HIJ.out (by rw [HQ.out, HPP.out, HFF.out]) HMJ.out HFM.out
               have HI2 : Hid (ElI W base bm bo R D n gm go (rowsM false i m m (j + 1)) out dp wr) := hid (HI.out.congr hd (fun _ _ _ _ => rfl))
               have HFJ2 := hid (fit_row HFJ.out (fun c hc => (HFC.out c hc).1) hd)
               have HRF2 := hid (show ∀ r, i < r → r < j + 1 → RowFit n i m r from fun r h0 h1 => by
                by_cases e : r < j
                ·exact HRF.out r h0 e
                ·have e2 : r = j := by omega
                 rw [e2]
                 refine ⟨?_, fun c hc => ?_, fun c hc => ?_⟩
                 ·rw [HQ.out, HPP.out, HFF.out]; exact HFIT.out
                 ·rw [HQ.out, HPP.out, HFF.out]; exact (HFC.out c hc).2
                 ·rw [HQ.out, HPP.out, HFF.out, HFM.out c]; exact (HFC.out c hc).1)
               clear hd HI
               go_wp2
               go_roundg (n - (j + 1))
               case measure => omega
               case rel => exact ⟨j + 1, by go_num, by omega, by omega, HI2.out, HFJ2.out, HRF2.out⟩
        ·have hje : decide ((j : Int) < (n : Int)) = false := decide_eq_false (by omega)
         have hje2 : decide (j < n) = false := decide_eq_false hjt
         have hjn : j = n := by omega
         rw [hjn] at HI HFJ HRF
         have HS2 := hid HS.out.next
         have HFI2 := hid (HFI.out.next HS.out (elFit_of (by rw [HPP.out, HDP.out]; exact HFR.out) HRF.out))
         have HEQ := hid (show d * m i i = dp by rw [HPP.out, HDP.out])
         clear hjt hjn
         go_wp2
         go_roundg (n - (i + 1))
         case measure => omega
         case rel => exact ⟨i + 1, gm, go, rowsM false i m m n, out, dp, by go_num, by omega, by omega, HI.out, by rw [← HEQ.out]; exact HS2.out, HFJ.out, HFR.out, HFI2.out⟩
    ·have hke : ((k : Int) == (n : Int)) = true := by simp only [beq_iff_eq]; omega
     have hke2 : decide ((k : Int) = (n : Int)) = true := decide_eq_true (by omega)
     have hdet : detR n M = 0 := by
      obtain ⟨s, hs⟩ := HS.out.el.st h5
      exact hs.none h5 hlt (fun r h0 h1 => HZ.out r h0 (by omega))
     have HDET := hid hdet
     have HNO := hid (HFI.out.stop HS.out (fun r h0 h1 => HZ.out r h0 (by omega)))
     have HE := hid (HI.out.env HE0.out HP.out)
     clear hkn hdet
     go_wp2_with fail
     refine (T0.out _ HE.out).mono ?_
     rintro e w5 ⟨rfl, hb⟩
     replace HI := hid (HI.out.step hb)
     clear hb HE
     obtain ⟨⟨x0, x1⟩, f0, f1⟩ := two_at HI.out.res
     have hset := set2_at HI.out.res (.string (numS q0)) (.string (denS q0))
     obtain ⟨⟨r0, r1⟩, _⟩ := two_at hset
     have HL := hid (HI.out.low.trans (put2_below HI.out.ge.2.1 w5 (.string (numS q0)) (.string (denS q0))))
     clear hset HI
     go_wp2
     refine bodyPost_ret (v := .tuple #[.agg #[.string (numS q0), .string (denS q0)], .slice none 0 0]) (by simp [results, Tryz.results188, go_sem, r0, r1]) rfl ⟨.inl ⟨HNO.out, by rw [HDET.out]; exact fits_zero, .slice none 0 0, by rw [HDET.out, HQ0.out]⟩, HL.out⟩
  ·have hde : decide ((i : Int) < (n : Int)) = false := decide_eq_false (by omega)
   have hde2 : decide (i < n) = false := decide_eq_false hlt
   have hin : i = n := by omega
   have HDN := hid (el_d HS.out h5 (by omega) hi)
   have HNO := hid (show ¬ Over n M by have h := HFI.out; rw [hin] at h; exact h.all)
   clear hlt hin
   go_upto_region 29 with fail
   have hi9 : (0 : Int) < (n : Int) := by omega
   have hd9 : decide ((0 : Int) < (n : Int)) = true := decide_eq_true (by omega)
   have hd8 : decide (0 < n) = true := decide_eq_true (by omega)
   obtain ⟨⟨x0, x1⟩, f0, f1⟩ := two_at HI.out.res
   obtain ⟨⟨e0, e1⟩, _⟩ := two_at HI.out.det
   have hset := set2_at HI.out.res (.string (numS d)) (.string (denS d))
   obtain ⟨⟨r0, r1⟩, _⟩ := two_at hset
   have HL := hid (HI.out.low.trans (put2_below HI.out.ge.2.1 wr (.string (numS d)) (.string (denS d))))
   clear hset
   go_wp2_with fail
   go_loopg [14, 15] 0 (fun gh v14 v15 wx => v14 = .int .i64 0 ∧ wx = wr)
   case atStart => exact ⟨rfl, rfl⟩
   case round =>
    obtain ⟨rfl, rfl⟩ := hrel
    go_wp2
    refine bodyPost_ret (v := .tuple #[.agg #[.string (numS d), .string (denS d)], .slice (some ⟨bo, 0, none⟩) n n]) (by simp [results, Tryz.results188, go_sem, r0, r1]) rfl ⟨.inl ⟨HNO.out, by rw [← HDN.out]; exact HFD.out, .slice (some ⟨bo, 0, none⟩) n n, by rw [← HDN.out]⟩, HL.out⟩
end Go.Proofs.YtjcdeeahjkfmoaaGreatDoor.Num.Mt
