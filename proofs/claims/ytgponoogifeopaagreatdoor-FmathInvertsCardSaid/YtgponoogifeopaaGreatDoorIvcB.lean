/- Numbers as texts of digits, fractions, values and the functions of fmath: contracts of the program's functions, joined from smaller texts. Conditions stand at each theorem. -/
import Derived.Test.YtgponoogifeopaaGreatDoorIvcA
import Derived.Test.YtgponoogifeopaaGreatDoorIvaA
import Derived.Test.YtgponoogifeopaaGreatDoorNumG
import Derived.Test.YtgponoogifeopaaGreatDoorIvaB
import Derived.Deep.DeepCutAuto
import Derived.BigRegion

/- package fmath: eliminated, the determinant and the inverse by rows. Conditions: the tables lie as they are laid; at most 4 rows; the numbers on the way fit. -/
namespace Go.Proofs.YtgponoogifeopaaGreatDoor.Num.Mt
open Go.RowKit Go.Lib Num

/-- what the elimination ends in -/
def ElRet (inv : Bool) (n : Nat) (M : Mx) (W : World) (e : Ending) (w' : World) : Prop :=
  (detM n M = 0 ∧ e = .returned (.tuple #[.agg #[.string (numS (0 : Rat)), .string (denS (0 : Rat))], .slice none 0 0])) ∨
  (detM n M ≠ 0 ∧ ∃ (bo : Nat) (go : Nat → Nat) (out : Mx), e = .returned (.tuple #[.agg #[.string (numS (detM n M)), .string (denS (detM n M))], .slice (some ⟨bo, 0, none⟩) n n]) ∧ W.heap.size ≤ bo ∧
    (inv = true → MxAt w' bo n n go out ∧ (∀ r c, r < n → c < n → mulM n M out r c = unitM r c) ∧ detM n M * detM n out = 1 ∧ ∀ r c, r < n → c < n → fits (out r c) = true))
theorem cmp_ne {q : Rat} (h : q ≠ 0) : cmpR q 0 ≠ 0 := by
  unfold cmpR
  rw [if_neg h]
  split <;> decide
theorem elbd_dd {inv : Bool} {n i a0 dm : Nat} {D d : Rat} {m out : Mx} (h : ElBd inv n i D a0 dm m out d) (ok : BndOk inv a0 dm) (h4 : n ≤ 4) (hi : i < n) : fits d = true := by
  cases i with
  | zero => exact h.bd.fitsL (by show 1 < lim; decide +kernel) (by show 1 < lim; decide +kernel)
  | succ i =>
    have h2 := ok.m i (by omega)
    exact h.bd.fitsL h2.2.2.1 h2.2.2.2
/-- the other matrix ahead of row j in column i -/
def outR (inv : Bool) (i : Nat) (m out : Mx) (j : Nat) : Mx := if inv = true then rowsM true i m out j else out
/-- how many columns of the other matrix are done -/
def colN (inv : Bool) (c : Nat) : Nat := if inv = true then c else 0
theorem colN_zero (inv : Bool) : colN inv 0 = 0 := by cases inv <;> rfl
theorem row_done {inv : Bool} {n i j : Nat} {m out mj oj : Mx} {f : Rat} {FM FO : Nat → Rat} (hij : j ≠ i) (hx : inv = true ∨ i < j) (hf : m j i / m i i = f) (hm : rowsM inv i m m j = mj) (ho : outR inv i m out j = oj)
    (h1 : ∀ c, m j c - f * m i c = FM c) (h2 : ∀ c, out j c - f * out i c = FO c) :
    (∀ r c, r < n → c < n → rowsM inv i m m (j + 1) r c = colsM mj j FM n r c) ∧ (∀ r c, r < n → c < n → outR inv i m out (j + 1) r c = colsM oj j FO (colN inv n) r c) := by
  constructor
  · intro r c hr hc
    rw [rowsM_row inv i m m ⟨hij, hx⟩, hm, hf]
    unfold rowM colsM
    by_cases e : r = j
    · rw [if_pos e, if_pos ⟨e, hc⟩, ← hm, rowsM_of (by omega), rowsM_of (by omega)]
      exact h1 c
    · rw [if_neg e, if_neg (fun h => e h.1)]
  · intro r c hr hc
    cases inv with
    | false =>
      rw [show colN false n = 0 from rfl, colsM_zero, ← ho]
      unfold outR
      rfl
    | true =>
      have ho' : rowsM true i m out j = oj := ho
      show rowsM true i m out (j + 1) r c = colsM oj j FO n r c
      rw [rowsM_row true i m out ⟨hij, hx⟩, ho', hf]
      unfold rowM colsM
      by_cases e : r = j
      · rw [if_pos e, if_pos ⟨e, hc⟩, ← ho', rowsM_of (by omega), rowsM_of (by omega)]
        exact h2 c
      · rw [if_neg e, if_neg (fun h => e h.1)]
/-- the other matrix, its first k rows over the pivots -/
def divM (out m : Mx) (k : Nat) : Mx := fun r c => if r < k then out r c / m r r else out r c
theorem divM_zero (out m : Mx) : divM out m 0 = out := by
  funext r c
  exact if_neg (Nat.not_lt_zero _)
theorem divM_row {out m : Mx} {k n : Nat} {F : Nat → Rat} (h : ∀ c, out k c / m k k = F c) (r : Nat) {c : Nat} (hc : c < n) : divM out m (k + 1) r c = colsM (divM out m k) k F n r c := by
  show (if r < k + 1 then out r c / m r r else out r c) = if r = k ∧ c < n then F c else if r < k then out r c / m r r else out r c
  by_cases e : r = k
  · subst e
    rw [if_pos (Nat.lt_succ_self _), if_pos ⟨rfl, hc⟩]
    exact h c
  · rw [if_neg (show ¬ (r = k ∧ c < n) from fun h => e h.1)]
    by_cases e2 : r < k
    · rw [if_pos e2, if_pos (by omega)]
    · rw [if_neg e2, if_neg (by omega)]
theorem outR_zero (inv : Bool) (i : Nat) (m out : Mx) : outR inv i m out 0 = out := by
  unfold outR
  split
  · exact rowsM_zero true i m out
  · rfl
theorem rows_skip {inv : Bool} {i j : Nat} {m out : Mx} (h : j = i ∨ (j < i ∧ inv = false) ∨ m j i = 0) : rowsM inv i m m (j + 1) = rowsM inv i m m j ∧ outR inv i m out (j + 1) = outR inv i m out j := by
  unfold outR
  rcases h with h | ⟨h1, h2⟩ | h
  · exact ⟨rowsM_skip _ _ _ _ (by omega), by rw [rowsM_skip _ _ _ _ (by omega)]⟩
  · subst h2
    exact ⟨rowsM_skip _ _ _ _ (fun h => h.2.elim (fun h => by cases h) (fun h => by omega)), by simp⟩
  · exact ⟨rowsM_none _ _ _ _ h, by rw [rowsM_none _ _ _ _ h]⟩
attribute [local irreducible] wpOp
set_option linter.unusedVariables false in
/-- what the operations of region 14 yield -/
def elim_anyKs14 (d p dp : Rat) (n bm C D i gi Ci : Nat) : List RK :=
  [.pure (.agg #[.string (numS d), .string (denS d)]),
   .pure (.slice (some ⟨bm, 0, none⟩) n C),
   .pure (.int .i64 (i : Int)),
   .pure (.pointer (some ⟨bm, i, none⟩)),
   .pure (.slice (some ⟨gi, 0, none⟩) n Ci),
   .pure (.int .i64 (i : Int)),
   .pure (.pointer (some ⟨gi, i * 2, none⟩)),
   .pure (.agg #[.string (numS p), .string (denS p)]),
   .pure (.agg #[.string (numS dp), .string (denS dp)]),
   .put 0]
set_option linter.unusedVariables false in
/-- what the operations of region 19 yield -/
def elim_anyKs19 (q p f : Rat) (n bm C i j gi gj Ci Cj : Nat) : List RK :=
  [.pure (.slice (some ⟨bm, 0, none⟩) n C),
   .pure (.int .i64 (j : Int)),
   .pure (.pointer (some ⟨bm, j, none⟩)),
   .pure (.slice (some ⟨gj, 0, none⟩) n Cj),
   .pure (.int .i64 (i : Int)),
   .pure (.pointer (some ⟨gj, i * 2, none⟩)),
   .pure (.agg #[.string (numS q), .string (denS q)]),
   .pure (.slice (some ⟨bm, 0, none⟩) n C),
   .pure (.int .i64 (i : Int)),
   .pure (.pointer (some ⟨bm, i, none⟩)),
   .pure (.slice (some ⟨gi, 0, none⟩) n Ci),
   .pure (.int .i64 (i : Int)),
   .pure (.pointer (some ⟨gi, i * 2, none⟩)),
   .pure (.agg #[.string (numS p), .string (denS p)]),
   .pure (.agg #[.string (numS f), .string (denS f)]),
   .box none #[.string { data := #[] }, .string { data := #[] }] #[.string (numS f), .string (denS f)] 24 16,
   .put 15]
set_option linter.unusedVariables false in
/-- what the operations of region 23 yield -/
def elim_anyKs23 (f x y fy z : Rat) (n bm C i j c gi gj Ci Cj b12 : Nat) : List RK :=
  [.pure (.slice (some ⟨bm, 0, none⟩) n C),
   .pure (.int .i64 (j : Int)),
   .pure (.pointer (some ⟨bm, j, none⟩)),
   .pure (.slice (some ⟨gj, 0, none⟩) n Cj),
   .pure (.int .i64 (c : Int)),
   .pure (.slice (some ⟨bm, 0, none⟩) n C),
   .pure (.int .i64 (j : Int)),
   .pure (.pointer (some ⟨bm, j, none⟩)),
   .pure (.slice (some ⟨gj, 0, none⟩) n Cj),
   .pure (.int .i64 (c : Int)),
   .pure (.pointer (some ⟨gj, c * 2, none⟩)),
   .pure (.agg #[.string (numS x), .string (denS x)]),
   .pure (.agg #[.string (numS f), .string (denS f)]),
   .pure (.slice (some ⟨bm, 0, none⟩) n C),
   .pure (.int .i64 (i : Int)),
   .pure (.pointer (some ⟨bm, i, none⟩)),
   .pure (.slice (some ⟨gi, 0, none⟩) n Ci),
   .pure (.int .i64 (c : Int)),
   .pure (.pointer (some ⟨gi, c * 2, none⟩)),
   .pure (.agg #[.string (numS y), .string (denS y)]),
   .pure (.agg #[.string (numS fy), .string (denS fy)]),
   .pure (.agg #[.string (numS z), .string (denS z)]),
   .put 0,
   .put 0]
set_option linter.unusedVariables false in
/-- what the operations of region 25 yield -/
def elim_anyKs25 (f x y fy z : Rat) (n bo C i j c gi gj Ci Cj b12 : Nat) : List RK :=
  [.pure (.slice (some ⟨bo, 0, none⟩) n n),
   .pure (.int .i64 (j : Int)),
   .pure (.pointer (some ⟨bo, j, none⟩)),
   .pure (.slice (some ⟨gj, 0, none⟩) n Cj),
   .pure (.int .i64 (c : Int)),
   .pure (.slice (some ⟨bo, 0, none⟩) n n),
   .pure (.int .i64 (j : Int)),
   .pure (.pointer (some ⟨bo, j, none⟩)),
   .pure (.slice (some ⟨gj, 0, none⟩) n Cj),
   .pure (.int .i64 (c : Int)),
   .pure (.pointer (some ⟨gj, c * 2, none⟩)),
   .pure (.agg #[.string (numS x), .string (denS x)]),
   .pure (.agg #[.string (numS f), .string (denS f)]),
   .pure (.slice (some ⟨bo, 0, none⟩) n n),
   .pure (.int .i64 (i : Int)),
   .pure (.pointer (some ⟨bo, i, none⟩)),
   .pure (.slice (some ⟨gi, 0, none⟩) n Ci),
   .pure (.int .i64 (c : Int)),
   .pure (.pointer (some ⟨gi, c * 2, none⟩)),
   .pure (.agg #[.string (numS y), .string (denS y)]),
   .pure (.agg #[.string (numS fy), .string (denS fy)]),
   .pure (.agg #[.string (numS z), .string (denS z)]),
   .put 0,
   .put 0]
set_option linter.unusedVariables false in
/-- what the operations of region 35 yield -/
def elim_anyKs35 (x y z : Rat) (n bm bo C k c go1 gm1 C1 C2 : Nat) : List RK :=
  [.pure (.slice (some ⟨bo, 0, none⟩) n n),
   .pure (.int .i64 (k : Int)),
   .pure (.pointer (some ⟨bo, k, none⟩)),
   .pure (.slice (some ⟨go1, 0, none⟩) n C1),
   .pure (.int .i64 (c : Int)),
   .pure (.slice (some ⟨bo, 0, none⟩) n n),
   .pure (.int .i64 (k : Int)),
   .pure (.pointer (some ⟨bo, k, none⟩)),
   .pure (.slice (some ⟨go1, 0, none⟩) n C1),
   .pure (.int .i64 (c : Int)),
   .pure (.pointer (some ⟨go1, c * 2, none⟩)),
   .pure (.agg #[.string (numS x), .string (denS x)]),
   .pure (.slice (some ⟨bm, 0, none⟩) n C),
   .pure (.int .i64 (k : Int)),
   .pure (.pointer (some ⟨bm, k, none⟩)),
   .pure (.slice (some ⟨gm1, 0, none⟩) n C2),
   .pure (.int .i64 (k : Int)),
   .pure (.pointer (some ⟨gm1, k * 2, none⟩)),
   .pure (.agg #[.string (numS y), .string (denS y)]),
   .pure (.agg #[.string (numS z), .string (denS z)]),
   .put 0,
   .put 0]
set_option linter.unusedSimpArgs false in
set_option linter.unusedVariables false in
set_option maxHeartbeats 40000000 in
set_option maxRecDepth 100000 in
theorem elim_any (inv : Bool) (n : Nat) (M : Mx) (dd : Rat) (a0 dm base bm C : Nat) (gm : Nat → Nat) (W : World) (h1 : 1 ≤ n) (h4 : n ≤ 4) (hM : MxAt W bm n n gm M) (hb : base ≤ bm) (hg : ∀ r, r < n → base ≤ gm r)
    (ok : BndOk inv a0 dm) (hdd : dd ≠ 0) (hdm : Sm dd dm 1) (hB : BdM n dd a0 1 M) (hE : Env W) (hP : Past base) :
    Calls Tryz.prog 171 #[.slice (some ⟨bm, 0, none⟩) n C, .bool inv] W fun e w' => ElRet inv n M W e w' ∧ Below base W w' := by
  have HE0 := Lib.hid hE
  have HP := Lib.hid hP
  have OK := Lib.hid ok
  have HDD := Lib.hid hdd
  have HDM := Lib.hid hdm
  have hbs : base ≤ W.heap.size := Nat.le_trans hb (Nat.le_of_lt hM.hd.lt)
  have T0 := (fun W (h : Env W) => of_any 0 W (by decide) (by decide) h.tab)
  have T1 := (fun W (h : Env W) => of_any 1 W (by decide) (by decide) h.tab)
  obtain ⟨q0, hq0⟩ : ∃ q : Rat, ((0 : Int) : Rat) = q := ⟨_, rfl⟩
  obtain ⟨q1, hq1⟩ : ∃ q : Rat, ((1 : Int) : Rat) = q := ⟨_, rfl⟩
  rw [hq0, fracV_is q0] at T0
  rw [hq1, fracV_is q1] at T1
  replace T0 := Lib.hid T0
  replace T1 := Lib.hid T1
  have HQ0 := Lib.hid (show q0 = 0 from hq0.symm)
  have HQ1 := Lib.hid (show q1 = 1 from hq1.symm)
  have TU := Lib.hid (fun W' ge => unit_any n W' h1 (by omega) ge)
  have hb0 : Below W.heap.size W (W.alloc (.cells #[.string { data := #[] }, .string { data := #[] }] 24)) := (Below.refl _ _).alloc (Nat.le_refl _) _
  have HR := Lib.hid (heap_alloc_new W (.cells #[.string { data := #[] }, .string { data := #[] }] 24))
  have HM := Lib.hid hM
  have HG0 := Lib.hid hb0
  have HGE := Lib.hid (And.intro hb hg)
  have HBS := Lib.hid hbs
  have HB := Lib.hid hB
  obtain ⟨R, hR⟩ : ∃ R, W.heap.size = R := ⟨_, rfl⟩
  obtain ⟨W0, hW0⟩ : ∃ Z, W.alloc (.cells #[.string { data := #[] }, .string { data := #[] }] 24) = Z := ⟨_, rfl⟩
  rw [hW0] at HR HG0
  rw [hR] at HR
  have EW0 := Lib.hid hW0
  have ER := Lib.hid hR
  clear hq0 hq1 hE hP ok hdd hdm hb0 hM hb hg hbs hB hR hW0
  go_enter Tryz.func171, Tryz.ntmps171
  go_wp2_with fail
  rw [EW0.out, ER.out]
  refine (TU.out _ (HE0.out.below HG0.out)).mono ?_
  rintro e w1 ⟨bo, go, rfl, hmo, hbo, hgo, hb⟩
  have HR1 := Lib.hid (keep_block HR.out hb)
  have HG1 := Lib.hid (HG0.out.trans (hb.mono HG0.out.size))
  have HMO := Lib.hid hmo
  have HGO := Lib.hid hgo
  have HBO := Lib.hid (show R < bo by have := heap_lt HR.out; omega)
  clear hb hmo hbo hgo HR HG0
  go_wp2_with fail
  refine (T1.out _ (HE0.out.below HG1.out)).mono ?_
  rintro e w2 ⟨rfl, hb⟩
  have HI := Lib.hid (show ElI W base bm bo R w2.heap.size n gm go M unitM q1 (w2.alloc (.cells #[.string (numS q1), .string (denS q1)] 24)) from by
    have hb2 : Below w2.heap.size w2 (w2.alloc (.cells #[.string (numS q1), .string (denS q1)] 24)) := (Below.refl _ _).alloc (Nat.le_refl _) _
    have hl := (HG1.out.trans (hb.mono HG1.out.size)).trans (hb2.mono (HG1.out.trans (hb.mono HG1.out.size)).size)
    have hs := HG1.out.size
    have hs2 := hb.size
    have hl1 := HMO.out.hd.lt
    refine ⟨HM.out.below hl, (HMO.out.below hb).below hb2, keep_block (keep_block HR1.out hb) hb2, heap_alloc_new w2 _, ⟨by rw [← ER.out]; exact HM.out.hd.lt, fun r hr => by rw [← ER.out]; exact (HM.out.rows r hr).lt⟩, ⟨HBO.out, by omega, fun r hr => ?_⟩, ⟨HGE.out.1, by rw [← ER.out]; exact HBS.out, HGE.out.2⟩, hl.mono HBS.out⟩
    have h3 := HGO.out r hr
    have h4 := (HMO.out.rows r hr).lt
    have h5 := HBO.out
    omega)
  have HS := Lib.hid (ElSt.start inv M h1 h4)
  have HBD := Lib.hid (show ElBd inv n 0 dd a0 dm M unitM 1 from ElBd.start inv HB.out)
  have HBR := Lib.hid (show W.heap.size ≤ bo by rw [ER.out]; exact Nat.le_of_lt HBO.out)
  clear hb HR1 HG1 HMO HGO HM HGE TU HBS HB
  go_wp2_with fail
  obtain ⟨D, hD⟩ : ∃ D, w2.heap.size = D := ⟨_, rfl⟩
  rw [hD] at HI ⊢
  clear hD EW0
  go_loopg [9, 10, 11, 12, 13, 22] n (fun gh v9 v10 v11 v12 v13 v22 wx => ∃ (i : Nat) (gm go : Nat → Nat) (m out : Mx) (s d : Rat), v22 = .int .i64 (i : Int) ∧ i ≤ n ∧ gh = n - i ∧ ElI W base bm bo R D n gm go m out d wx ∧ ElSt inv n i M m out s d ∧ ElBd inv n i dd a0 dm m out d)
  case atStart => exact ⟨0, gm, go, M, unitM, 1, q1, rfl, Nat.zero_le _, rfl, HI.out, by rw [HQ1.out]; exact HS.out, by rw [HQ1.out]; exact HBD.out⟩
  case round =>
    clear HI HS HBD
    obtain ⟨i, gm, go, m, out, s, d, rfl, hi, hgi, hI, hS, hBd⟩ := hrel
    have HI := Lib.hid hI
    have HS := Lib.hid hS
    have HBD := Lib.hid hBd
    clear hI hS hBd
    by_cases hlt : i < n
    · skip
      have hde : decide ((i : Int) < (n : Int)) = true := decide_eq_true (by omega)
      have hde2 : decide (i < n) = true := decide_eq_true hlt
      have hi0 : (0 : Int) ≤ (i : Int) := by omega
      have hi1 : (i : Int) < (n : Int) := by omega
      have hwk : IntKind.i64.wrap ((i : Int) + 1) = (i : Int) + 1 := IntWalk.i64_in _ (by omega)
      go_upto_block 2 with fail
      go_cut [10, 22] (fun v10 v22 wx => v22 = .int .i64 (i : Int) ∧ ∃ k : Nat, v10 = .int .i64 (k : Int) ∧ i ≤ k ∧ k ≤ n ∧ (∀ r, i ≤ r → r < k → m r i = 0) ∧ (k < n → m k i ≠ 0) ∧ ElI W base bm bo R D n gm go m out d wx)
      case first =>
        as_aux_lemma =>
          go_wp2_with fail
          go_loopg [10] (n - i) (fun gh v10 wx => ∃ k : Nat, v10 = .int .i64 (k : Int) ∧ i ≤ k ∧ k ≤ n ∧ gh = n - k ∧ (∀ r, i ≤ r → r < k → m r i = 0) ∧ ElI W base bm bo R D n gm go m out d wx)
          case atStart => exact ⟨i, rfl, Nat.le_refl _, hi, rfl, fun r h0 h1 => absurd h1 (by omega), HI.out⟩
          case round =>
            clear HI
            obtain ⟨k, rfl, hik, hk, hgk, hz, hI⟩ := hrel
            have HI := Lib.hid hI
            have HZ := Lib.hid hz
            clear hI hz
            by_cases hkt : k < n
            · have hke : decide ((k : Int) < (n : Int)) = true := decide_eq_true (by omega)
              have hke2 : decide (k < n) = true := decide_eq_true hkt
              have hk0 : (0 : Int) ≤ (k : Int) := by omega
              have hk1 : (k : Int) < (n : Int) := by omega
              have hkw : IntKind.i64.wrap ((k : Int) + 1) = (k : Int) + 1 := IntWalk.i64_in _ (by omega)
              obtain ⟨C1, y0⟩ := HI.out.m.hd.at hkt
              obtain ⟨c0, c1⟩ := (HI.out.m.rows k hkt).item hlt
              have hfq := HBD.out.f_m OK.out h4 HDD.out HDM.out hlt hkt hlt
              obtain ⟨q, hq⟩ : ∃ q, m k i = q := ⟨_, rfl⟩
              obtain ⟨G, hG⟩ : ∃ G, gm k = G := ⟨_, rfl⟩
              rw [hq] at c0 c1 hfq
              rw [hG] at y0 c0 c1
              have TS := Lib.hid (fun W' ge => fm_sign q W' hfq ge)
              rw [fracV_is q] at TS
              have HE := Lib.hid (HI.out.env HE0.out HP.out)
              have HQM := Lib.hid hq
              clear hq hG hfq
              go_wp2_with fail
              refine (TS.out _ HE.out).mono ?_
              rintro e w3 ⟨rfl, hb⟩
              replace HI := Lib.hid (HI.out.step hb)
              clear hb y0 c0 c1 HE
              by_cases hqz : q = 0
              · have hc : cmpR q 0 = 0 := if_pos hqz
                rw [hc]
                have HZ2 := Lib.hid (show ∀ r, i ≤ r → r < k + 1 → m r i = 0 from fun r h0 h1 => by
                  by_cases e : r = k
                  · subst e; rw [HQM.out]; exact hqz
                  · exact HZ.out r h0 (by omega))
                clear hqz hc
                go_wp2
                go_roundg (n - (k + 1))
                case measure => omega
                case rel => exact ⟨k + 1, by go_num, by omega, by omega, by omega, HZ2.out, HI.out⟩
              · have hc : (cmpR q 0 == 0) = false := by simp only [beq_eq_false_iff_ne, ne_eq]; exact cmp_ne hqz
                have hc2 : decide (cmpR q 0 = 0) = false := decide_eq_false (cmp_ne hqz)
                have hc3 : (cmpR q 0 = 0) = False := eq_false (cmp_ne hqz)
                have HQZ := Lib.hid hqz
                clear hqz
                go_wp2
                go_meet
                case rel => exact ⟨rfl, k, rfl, hik, hk, HZ.out, fun _ => by rw [HQM.out]; exact HQZ.out, HI.out⟩
            · have hke : decide ((k : Int) < (n : Int)) = false := decide_eq_false (by omega)
              have hke2 : decide (k < n) = false := decide_eq_false hkt
              have HKN := Lib.hid (show k = n by omega)
              clear hkt
              go_wp2
              go_meet
              case rel => exact ⟨rfl, k, rfl, hik, hk, HZ.out, fun h => absurd h (by have := HKN.out; omega), HI.out⟩
      case rest =>
        obtain ⟨rfl, k, rfl, hik, hk, hz, hnz, hI⟩ := hcut
        have HZ := Lib.hid hz
        have HNZ := Lib.hid hnz
        replace HI := Lib.hid hI
        clear hz hnz hI
        by_cases hkn : k < n
        · skip
          have hke : ((k : Int) == (n : Int)) = false := by simp only [beq_eq_false_iff_ne, ne_eq]; omega
          have hke2 : decide ((k : Int) = (n : Int)) = false := decide_eq_false (by omega)
          have hke3 : decide (k = n) = false := decide_eq_false (by omega)
          have hke4 : (k == n) = false := by simp only [beq_eq_false_iff_ne, ne_eq]; omega
          have HMK := Lib.hid (HNZ.out hkn)
          clear HNZ
          go_upto_if 48 with fail
          clear hke hke2 hke3 hke4
          go_cut [9, 10, 22] (fun v9 v10 v22 wx => v9 = .int .i64 (i : Int) ∧ v22 = .int .i64 (i : Int) ∧ ∃ (gm go : Nat → Nat) (m out : Mx) (s d : Rat), ElI W base bm bo R D n gm go m out d wx ∧ ElSt inv n i M m out s d ∧ ElBd inv n i dd a0 dm m out d ∧ m i i ≠ 0)
          case first =>
            as_aux_lemma =>
              by_cases hki : k = i
              · subst hki
                have hx : ((k : Int) != (k : Int)) = false := by simp
                have hx2 : (k != k) = false := by simp
                rw [hx]
                go_wp2
                go_meet
                case rel => exact ⟨rfl, rfl, gm, go, m, out, s, d, HI.out, HS.out, HBD.out, HMK.out⟩
              · have hx : ((k : Int) != (i : Int)) = true := by simp; omega
                rw [hx]
                have hik' : i < k := by omega
                have hi0 : (0 : Int) ≤ (i : Int) := by omega
                have hi1 : (i : Int) < (n : Int) := by omega
                have hk0 : (0 : Int) ≤ (k : Int) := by omega
                have hk1 : (k : Int) < (n : Int) := by omega
                obtain ⟨C1, y1⟩ := HI.out.m.hd.at hlt
                obtain ⟨C2, y2⟩ := HI.out.m.hd.at hkn
                obtain ⟨C3, y3⟩ := HI.out.o.hd.at hlt
                obtain ⟨C4, y4⟩ := HI.out.o.hd.at hkn
                have HW := Lib.hid (HI.out.swap hlt hkn C2 C1 C4 C3)
                have HNB := Lib.hid (show bo ≠ bm from by have := HI.out.lm.1; have := HI.out.lo.1; omega)
                have HYM := Lib.hid y2
                have HYO := Lib.hid y3
                have HYP := Lib.hid y4
                have HID := Lib.hid (HI.out.step ((Below.refl wc.heap.size wc).drew))
                have z1 := HI.out.m.hd.free i
                have z2 := HI.out.m.hd.free k
                have z3 := HI.out.o.hd.free i
                have z4 := HI.out.o.hd.free k
                obtain ⟨xi, hxi⟩ : ∃ x, gm i = x := ⟨_, rfl⟩
                obtain ⟨xk, hxk⟩ : ∃ x, gm k = x := ⟨_, rfl⟩
                obtain ⟨oi, hoi⟩ : ∃ x, go i = x := ⟨_, rfl⟩
                obtain ⟨ok', hok'⟩ : ∃ x, go k = x := ⟨_, rfl⟩
                rw [hxi] at y1 HW
                rw [hxk] at y2 HW HYM
                rw [hoi] at y3 HW HYO
                rw [hok'] at y4 HW HYP
                clear hxi hxk hoi hok'
                have n1 : (k = i) = False := eq_false (by omega)
                have n2 : (i = k) = False := eq_false (by omega)
                have n3 : (bo = bm) = False := eq_false HNB.out
                have n4 : (bm = bo) = False := eq_false (fun h => HNB.out h.symm)
                clear hki hx
                go_upto_region 12 with fail
                have HI2 := Lib.hid (show ElI W base bm bo R D n (swapF gm i k) (swapF go i k) (swapM m i k) (swapM out i k) d (((((wc.setCell ⟨bm, i, none⟩ (.slice (some ⟨xk, 0, none⟩) n C2)).setCell ⟨bm, k, none⟩ (.slice (some ⟨xi, 0, none⟩) n C1)).setCell ⟨bo, i, none⟩ (.slice (some ⟨ok', 0, none⟩) n C4)).setCell ⟨bo, k, none⟩ (.slice (some ⟨oi, 0, none⟩) n C3)).drew) from HW.out.step ((Below.refl _ _).drew))
                go_region
                obtain ⟨w5, hw5⟩ : ∃ Z, ((((wc.setCell ⟨bm, i, none⟩ (.slice (some ⟨xk, 0, none⟩) n C2)).setCell ⟨bm, k, none⟩ (.slice (some ⟨xi, 0, none⟩) n C1)).setCell ⟨bo, i, none⟩ (.slice (some ⟨ok', 0, none⟩) n C4)).setCell ⟨bo, k, none⟩ (.slice (some ⟨oi, 0, none⟩) n C3)).drew = Z := ⟨_, rfl⟩
                rw [hw5] at HI2 ⊢
                have hfd := elbd_dd HBD.out OK.out h4 hlt
                obtain ⟨nd, hnd⟩ : ∃ x, -d = x := ⟨_, rfl⟩
                have TN := (fun W' ge => fm_neg d W' hfd ge)
                rw [hnd, fracV_is d, fracV_is nd] at TN
                have TNG := Lib.hid TN
                have HND := Lib.hid hnd
                have HIK := Lib.hid hik'
                have HE := Lib.hid (HI2.out.env HE0.out HP.out)
                clear TN hw5 y1 y2 y3 y4 z1 z2 z3 z4 n1 n2 n3 n4 HW HI HID HNB HYM HYO HYP hfd hnd hik'
                obtain ⟨⟨x0, x1⟩, _⟩ := two_at HI2.out.det
                go_wp2_with fail
                refine (TNG.out _ HE.out).mono ?_
                rintro e w6 ⟨rfl, hb⟩
                have HI3 := Lib.hid (HI2.out.step hb)
                clear hb HI2 x0 x1 HE
                obtain ⟨⟨x0, x1⟩, f0, f1⟩ := two_at HI3.out.det
                have HI4 := Lib.hid (HI3.out.setd nd)
                go_wp2
                go_meet
                case rel => exact ⟨rfl, rfl, swapF gm i k, swapF go i k, swapM m i k, swapM out i k, -s, -d, by rw [HND.out]; exact HI4.out, HS.out.swap h4 HIK.out hkn, HBD.out.swap HIK.out hkn, by rw [show swapM m i k i = m k from if_pos rfl]; exact HMK.out⟩
          case rest =>
            obtain ⟨rfl, rfl, gm, go, m, out, s, d, hI, hS, hBd, hii⟩ := hcut
            replace HI := Lib.hid hI
            replace HS := Lib.hid hS
            replace HBD := Lib.hid hBd
            have HII := Lib.hid hii
            clear hI hS hBd hii HMK HZ
            have hfd := elbd_dd HBD.out OK.out h4 hlt
            have hfp := HBD.out.f_m OK.out h4 HDD.out HDM.out hlt hlt hlt
            have hfr := HBD.out.f_d OK.out h4 HDD.out HDM.out hlt
            obtain ⟨c0, c1⟩ := (HI.out.m.rows i hlt).item hlt
            obtain ⟨Ci, ygi⟩ := HI.out.m.hd.at hlt
            obtain ⟨gi, egi⟩ : ∃ x, gm i = x := ⟨_, rfl⟩
            rw [egi] at ygi
            have HYgi := Lib.hid ygi
            have HEgi := Lib.hid egi
            clear ygi egi
            rw [HEgi.out] at c0 c1
            obtain ⟨p, hp⟩ : ∃ x, m i i = x := ⟨_, rfl⟩
            obtain ⟨dp, hdp⟩ : ∃ x, d * p = x := ⟨_, rfl⟩
            have HPP := Lib.hid hp
            have HDP := Lib.hid hdp
            rw [hp] at hfp hfr c0 c1
            rw [hdp] at hfr
            have TM := (fun W' ge => fm_mul d p W' hfd hfp (by rw [hdp]; exact hfr) ge)
            rw [hdp, fracV_is d, fracV_is p, fracV_is dp] at TM
            replace TM := Lib.hid TM
            have HC0 := Lib.hid c0
            have HC1 := Lib.hid c1
            have H8 := Lib.hid HI.out.det
            clear c0 c1 hp hdp hfd hfp hfr
            go_upto_region 14 with fail
            go_cut [22] (fun v22 wx => v22 = .int .i64 (i : Int) ∧ ElI W base bm bo R D n gm go m out dp wx)
            case first =>
              as_aux_lemma =>
                go_wp2_with fail
                have hok : okB 10 (elim_anyKs14 d p dp n bm C D i gi Ci) = true := by kernel_rfl
                have hna := noAny_of (ks := (elim_anyKs14 d p dp n bm C D i gi Ci)) (by kernel_rfl)
                have hla := lasts_of hna
                refine wp_region_facts_abs (row := none) (w := wc) 9 1 10 [9] (elim_anyKs14 d p dp n bm C D i gi Ci) [some 79, some 80, some 81, some 82, some 83, some 84, some 85, some 86, some 87, none] [(8, .pointer (some ⟨D, 0, none⟩)), (0, .slice (some ⟨bm, 0, none⟩) n C), (9, .int .i64 (i : Int))] 220 (by kernel_rfl) (by kernel_rfl) (by kernel_rfl) rfl rfl (by decide) rfl (by kernel_rfl) rfl (Nat.le_of_eq rfl) rfl ?ho [u79, u80, u81, u82, u83, u84, u85, u86, u87, undef] ?h00 (Fs.start rfl rfl) ?hs ?hd
                case ho =>
                  intro k x hk
                  match k, hk with
                  | 0, hk => have hk := Option.some.inj hk; subst hk; rfl
                  | 1, hk => have hk := Option.some.inj hk; subst hk; rfl
                  | 2, hk => have hk := Option.some.inj hk; subst hk; rfl
                  | _ + 3, hk => exact absurd hk (by simp)
                case h00 => simp only [putO, layL]
                case hs =>
                  rintro A listed vs Wr hF hR i hi hun hpre
                  obtain ⟨s0, s1, s2, s3, s4, s5, s6, s7, s8, s9, hvs⟩ := exl_of 10 vs (fun l => vs = l) hF.len rfl
                  subst hvs
                  have hge := Nat.zero_le i
                  rcases Nat.lt_or_ge i 4 with hlt | hgt
                  · replace hi := hlt
                    clear hlt
                    rcases Nat.lt_or_ge i 2 with hlt | hgt
                    · replace hi := hlt
                      clear hlt
                      rcases Nat.lt_or_ge i 1 with hlt | hgt
                      · replace hi := hlt
                        clear hlt
                        obtain rfl := eqi hi hge
                        have ro8 : A.tmps[8]? = some (.pointer (some ⟨D, 0, none⟩)) := hR.out 0 _ rfl
                        have hcc := (two_at (keep_block H8.out (below_none hF.low))).1
                        have cH80 := hcc.1
                        have cH81 := hcc.2
                        clear hcc
                        refine step_of ⟨some 79, _, _, _, _, _⟩ rfl (fun K' hK => ?_)
                        go_simp
                        exact hK.out _ _ ⟨_, hF.pure hok hla hpre rfl (Below.refl _ _), rfl⟩
                      · replace hge : 1 ≤ i := hgt
                        clear hgt
                        obtain rfl := eqi hi hge
                        have ro0 : A.tmps[0]? = some (.slice (some ⟨bm, 0, none⟩) n C) := hR.out 1 _ rfl
                        refine step_of ⟨some 80, _, _, _, _, _⟩ rfl (fun K' hK => ?_)
                        go_simp
                        exact hK.out _ _ ⟨_, hF.pure hok hla hpre rfl (Below.refl _ _), rfl⟩
                    · replace hge : 2 ≤ i := hgt
                      clear hgt
                      rcases Nat.lt_or_ge i 3 with hlt | hgt
                      · replace hi := hlt
                        clear hlt
                        obtain rfl := eqi hi hge
                        have ro9 : A.tmps[9]? = some (.int .i64 (i : Int)) := hR.out 2 _ rfl
                        refine step_of ⟨some 81, _, _, _, _, _⟩ rfl (fun K' hK => ?_)
                        go_simp
                        exact hK.out _ _ ⟨_, hF.pure hok hla hpre rfl (Below.refl _ _), rfl⟩
                      · replace hge : 3 ≤ i := hgt
                        clear hgt
                        obtain rfl := eqi hi hge
                        have p1 := hpre 1 (by kernel_rfl)
                        have e1 : s1 = .slice (some ⟨bm, 0, none⟩) n C := hF.get 1 _ rfl (.inr p1)
                        subst e1
                        have r1 : A.tmps[80]? = some (.slice (some ⟨bm, 0, none⟩) n C) := hR.own 1 _ _ rfl rfl
                        have p2 := hpre 2 (by kernel_rfl)
                        have e2 : s2 = .int .i64 (i : Int) := hF.get 2 _ rfl (.inr p2)
                        subst e2
                        have r2 : A.tmps[81]? = some (.int .i64 (i : Int)) := hR.own 2 _ _ rfl rfl
                        refine step_of ⟨some 82, _, _, _, _, _⟩ rfl (fun K' hK => ?_)
                        go_simp
                        exact hK.out _ _ ⟨_, hF.pure hok hla hpre rfl (Below.refl _ _), rfl⟩
                  · replace hge : 4 ≤ i := hgt
                    clear hgt
                    rcases Nat.lt_or_ge i 6 with hlt | hgt
                    · replace hi := hlt
                      clear hlt
                      rcases Nat.lt_or_ge i 5 with hlt | hgt
                      · replace hi := hlt
                        clear hlt
                        obtain rfl := eqi hi hge
                        have p3 := hpre 3 (by kernel_rfl)
                        have e3 : s3 = .pointer (some ⟨bm, i, none⟩) := hF.get 3 _ rfl (.inr p3)
                        subst e3
                        have r3 : A.tmps[82]? = some (.pointer (some ⟨bm, i, none⟩)) := hR.own 3 _ _ rfl rfl
                        have y0 := cell_below HYgi.out (below_none hF.low)
                        refine step_of ⟨some 83, _, _, _, _, _⟩ rfl (fun K' hK => ?_)
                        go_simp
                        exact hK.out _ _ ⟨_, hF.pure hok hla hpre rfl (Below.refl _ _), rfl⟩
                      · replace hge : 5 ≤ i := hgt
                        clear hgt
                        obtain rfl := eqi hi hge
                        have ro9 : A.tmps[9]? = some (.int .i64 (i : Int)) := hR.out 2 _ rfl
                        refine step_of ⟨some 84, _, _, _, _, _⟩ rfl (fun K' hK => ?_)
                        go_simp
                        exact hK.out _ _ ⟨_, hF.pure hok hla hpre rfl (Below.refl _ _), rfl⟩
                    · replace hge : 6 ≤ i := hgt
                      clear hgt
                      rcases Nat.lt_or_ge i 7 with hlt | hgt
                      · replace hi := hlt
                        clear hlt
                        obtain rfl := eqi hi hge
                        have p4 := hpre 4 (by kernel_rfl)
                        have e4 : s4 = .slice (some ⟨gi, 0, none⟩) n Ci := hF.get 4 _ rfl (.inr p4)
                        subst e4
                        have r4 : A.tmps[83]? = some (.slice (some ⟨gi, 0, none⟩) n Ci) := hR.own 4 _ _ rfl rfl
                        have p5 := hpre 5 (by kernel_rfl)
                        have e5 : s5 = .int .i64 (i : Int) := hF.get 5 _ rfl (.inr p5)
                        subst e5
                        have r5 : A.tmps[84]? = some (.int .i64 (i : Int)) := hR.own 5 _ _ rfl rfl
                        refine step_of ⟨some 85, _, _, _, _, _⟩ rfl (fun K' hK => ?_)
                        go_simp
                        exact hK.out _ _ ⟨_, hF.pure hok hla hpre rfl (Below.refl _ _), rfl⟩
                      · replace hge : 7 ≤ i := hgt
                        clear hgt
                        rcases Nat.lt_or_ge i 8 with hlt | hgt
                        · replace hi := hlt
                          clear hlt
                          obtain rfl := eqi hi hge
                          have p6 := hpre 6 (by kernel_rfl)
                          have e6 : s6 = .pointer (some ⟨gi, i * 2, none⟩) := hF.get 6 _ rfl (.inr p6)
                          subst e6
                          have r6 : A.tmps[85]? = some (.pointer (some ⟨gi, i * 2, none⟩)) := hR.own 6 _ _ rfl rfl
                          have c0 := cell_below HC0.out (below_none hF.low)
                          have c1 := cell_below HC1.out (below_none hF.low)
                          refine step_of ⟨some 86, _, _, _, _, _⟩ rfl (fun K' hK => ?_)
                          go_simp
                          exact hK.out _ _ ⟨_, hF.pure hok hla hpre rfl (Below.refl _ _), rfl⟩
                        · replace hge : 8 ≤ i := hgt
                          clear hgt
                          obtain rfl := eqi hi hge
                          have p0 := hpre 0 (by kernel_rfl)
                          have e0 : s0 = .agg #[.string (numS d), .string (denS d)] := hF.get 0 _ rfl (.inr p0)
                          subst e0
                          have r0 : A.tmps[79]? = some (.agg #[.string (numS d), .string (denS d)]) := hR.own 0 _ _ rfl rfl
                          have p7 := hpre 7 (by kernel_rfl)
                          have e7 : s7 = .agg #[.string (numS p), .string (denS p)] := hF.get 7 _ rfl (.inr p7)
                          subst e7
                          have r7 : A.tmps[86]? = some (.agg #[.string (numS p), .string (denS p)]) := hR.own 7 _ _ rfl rfl
                          refine step_of ⟨some 87, _, _, _, _, _⟩ rfl (fun K' hK => ?_)
                          go_simp
                          go_at_call 132
                          (with_reducible refine (TM.out _ ((HI.out.step (below_none hF.low)).env HE0.out HP.out)).mono ?_)
                          rintro e Wq ⟨rfl, hq⟩
                          exact hK.out _ _ ⟨_, hF.pure hok hla hpre rfl hq, rfl⟩
                case hd =>
                  rintro listed vs WA hF hall
                  obtain ⟨s0, s1, s2, s3, s4, s5, s6, s7, s8, s9, hvs⟩ := exl_of 10 vs (fun l => vs = l) hF.len rfl
                  subst hvs
                  have e8 : s8 = .agg #[.string (numS dp), .string (denS dp)] := hF.get 8 _ rfl (.inr (hall 8 (by decide)))
                  subst e8
                  have hq := below_none hF.low
                  replace H8 := Lib.hid (keep_block H8.out hq)
                  replace HI := Lib.hid (HI.out.step hq)
                  clear hq
                  clear hF hall hok hna hla
                  simp only [putO, layL]
                  obtain ⟨⟨y0, y1⟩, z0, z1⟩ := two_at HI.out.det
                  refine rest_one 9 ⟨none, _, _, _, _, _⟩ rfl (by kernel_rfl) rfl (fun K' hK => ?_)
                  go_simp
                  refine hK.out _ _ ?_
                  refine rest_end ?_
                  clear y0 y1 z0 z1 H8 HC0 HC1
                  have HI2 := Lib.hid (HI.out.setd dp)
                  clear HI
                  go_wp2_with fail
                  go_meet
                  case rel => exact ⟨rfl, HI2.out⟩
            case rest =>
              obtain ⟨rfl, hI⟩ := hcut
              have HI2 := Lib.hid hI
              clear hI HI H8 HC0 HC1
              go_wp2_with fail
              have HJ0 := Lib.hid (show ElI W base bm bo R D n gm go (rowsM inv i m m 0) (outR inv i m out 0) dp _ by rw [rowsM_zero, outR_zero]; exact HI2.out)
              clear HI2
              go_loopg [11, 12, 13, 89] n (fun gh v11 v12 v13 v89 wx => ∃ j : Nat, v89 = .int .i64 (j : Int) ∧ j ≤ n ∧ gh = n - j ∧ ElI W base bm bo R D n gm go (rowsM inv i m m j) (outR inv i m out j) dp wx)
              case atStart => exact ⟨0, rfl, Nat.zero_le _, rfl, HJ0.out⟩
              case round =>
                clear HJ0
                obtain ⟨j, rfl, hj, hgj, hI⟩ := hrel
                have HI := Lib.hid hI
                clear hI
                by_cases hjt : j < n
                · skip
                  have hje : decide ((j : Int) < (n : Int)) = true := decide_eq_true (by omega)
                  have hje2 : decide (j < n) = true := decide_eq_true hjt
                  have hj0 : (0 : Int) ≤ (j : Int) := by omega
                  have hj1 : (j : Int) < (n : Int) := by omega
                  have hjw : IntKind.i64.wrap ((j : Int) + 1) = (j : Int) + 1 := IntWalk.i64_in _ (by omega)
                  have hji : rowsM inv i m m j j i = m j i := by rw [rowsM_of (by omega)]
                  have hii : ∀ c, rowsM inv i m m j i c = m i c := fun c => rowsM_of (by omega)
                  have hjc : ∀ c, rowsM inv i m m j j c = m j c := fun c => rowsM_of (by omega)
                  have HJI := Lib.hid hji
                  have HIIC := Lib.hid hii
                  have HJC := Lib.hid hjc
                  clear hji hii hjc
                  go_upto_region 18 with fail
                  obtain ⟨sk, hsk⟩ : ∃ b : Bool, decide (j = i ∨ (j < i ∧ inv = false) ∨ m j i = 0) = b := ⟨_, rfl⟩
                  have HSK := Lib.hid hsk
                  clear hsk
                  go_cut [11, 89, 114] (fun v11 v89 v114 wx => v11 = .int .i64 (j : Int) ∧ v89 = .int .i64 (j : Int) ∧ v114 = .bool sk ∧ ElI W base bm bo R D n gm go (rowsM inv i m m j) (outR inv i m out j) dp wx)
                  case first =>
                    as_aux_lemma =>
                      by_cases hij : j = i
                      · have e1 : ((j : Int) == (i : Int)) = true := by simp [hij]
                        have e2 : decide ((j : Int) = (i : Int)) = true := decide_eq_true (by omega)
                        have HT := Lib.hid (show true = sk by rw [← HSK.out]; exact (decide_eq_true (.inl hij)).symm)
                        clear hij
                        go_wp2
                        go_meet
                        case rel => exact ⟨rfl, rfl, by rw [HT.out], HI.out⟩
                      · have e1 : ((j : Int) == (i : Int)) = false := by simp only [beq_eq_false_iff_ne, ne_eq]; omega
                        have e2 : decide ((j : Int) = (i : Int)) = false := decide_eq_false (by omega)
                        have e3 : (j == i) = false := by simp only [beq_eq_false_iff_ne, ne_eq]; omega
                        have e4 : decide (j = i) = false := decide_eq_false hij
                        have HIJ := Lib.hid hij
                        clear hij
                        by_cases hl : j < i ∧ inv = false
                        · have l1 : decide ((j : Int) < (i : Int)) = true := decide_eq_true (by omega)
                          have l2 : decide (j < i) = true := decide_eq_true hl.1
                          have l3 : inv = false := hl.2
                          have HT := Lib.hid (show true = sk by rw [← HSK.out]; exact (decide_eq_true (.inr (.inl hl))).symm)
                          clear hl
                          subst l3
                          go_wp2
                          go_meet
                          case rel => exact ⟨rfl, rfl, by rw [HT.out], HI.out⟩
                        · have HL := Lib.hid hl
                          obtain ⟨C1, y0⟩ := HI.out.m.hd.at hjt
                          obtain ⟨c0, c1⟩ := (HI.out.m.rows j hjt).item hlt
                          have hfq := HBD.out.f_m OK.out h4 HDD.out HDM.out hlt hjt hlt
                          rw [HJI.out] at c0 c1
                          obtain ⟨q, hq⟩ : ∃ q, m j i = q := ⟨_, rfl⟩
                          obtain ⟨G, hG⟩ : ∃ G, gm j = G := ⟨_, rfl⟩
                          rw [hq] at c0 c1 hfq
                          rw [hG] at y0 c0 c1
                          have TS := Lib.hid (fun W' ge => fm_sign q W' hfq ge)
                          rw [fracV_is q] at TS
                          have HE := Lib.hid (HI.out.env HE0.out HP.out)
                          have HSQ := Lib.hid (show (cmpR q 0 == 0) = sk by
                            rw [← HSK.out, ← hq]
                            by_cases hz : m j i = 0
                            · rw [decide_eq_true (.inr (.inr hz)), show cmpR (m j i) 0 = 0 from if_pos hz]; rfl
                            · rw [decide_eq_false (fun h => h.elim HIJ.out (fun h => h.elim HL.out hz))]
                              simp only [beq_eq_false_iff_ne, ne_eq]
                              exact cmp_ne hz)
                          clear hq hG hfq hl
                          by_cases hl : j < i
                          · have l1 : decide ((j : Int) < (i : Int)) = true := decide_eq_true (by omega)
                            have l2 : decide (j < i) = true := decide_eq_true hl
                            have l3 : inv = true := by
                              cases inv with
                              | true => rfl
                              | false => exact absurd ⟨hl, rfl⟩ HL.out
                            clear hl
                            subst l3
                            go_wp2_with fail
                            refine (TS.out _ HE.out).mono ?_
                            rintro e w3 ⟨rfl, hb⟩
                            replace HI := Lib.hid (HI.out.step hb)
                            clear hb y0 c0 c1 HE
                            go_wp2
                            go_meet
                            case rel => exact ⟨rfl, rfl, by rw [← HSQ.out], HI.out⟩
                          · have l1 : decide ((j : Int) < (i : Int)) = false := decide_eq_false (by omega)
                            have l2 : decide (j < i) = false := decide_eq_false hl
                            clear hl
                            go_wp2_with fail
                            refine (TS.out _ HE.out).mono ?_
                            rintro e w3 ⟨rfl, hb⟩
                            replace HI := Lib.hid (HI.out.step hb)
                            clear hb y0 c0 c1 HE
                            go_wp2
                            go_meet
                            case rel => exact ⟨rfl, rfl, by rw [← HSQ.out], HI.out⟩
                  case rest =>
                    obtain ⟨rfl, rfl, rfl, hI⟩ := hcut
                    replace HI := Lib.hid hI
                    clear hI
                    cases hsk : sk with
                    | true =>
                      have HT := Lib.hid (rows_skip (out := out) (of_decide_eq_true (HSK.out.trans hsk)))
                      clear hsk
                      go_wp2
                      go_roundg (n - (j + 1))
                      case measure => omega
                      case rel => exact ⟨j + 1, by go_num, by omega, by omega, by rw [HT.out.1, HT.out.2]; exact HI.out⟩
                    | false =>
                      have HNS := Lib.hid (of_decide_eq_false (HSK.out.trans hsk))
                      clear hsk
                      have HNE := Lib.hid (show j ≠ i from fun h => HNS.out (.inl h))
                      have HX := Lib.hid (show inv = true ∨ i < j by
                        cases inv with
                        | true => exact .inl rfl
                        | false =>
                          right
                          have h1 := HNE.out
                          have h2 : ¬ j < i := fun h => HNS.out (.inr (.inl ⟨h, rfl⟩))
                          omega)
                      have hfq := HBD.out.f_m OK.out h4 HDD.out HDM.out hlt hjt hlt
                      have hfp := HBD.out.f_m OK.out h4 HDD.out HDM.out hlt hlt hlt
                      have hff := HBD.out.f_q OK.out h4 HDD.out hlt HII.out hjt HX.out
                      obtain ⟨c0, c1⟩ := (HI.out.m.rows j hjt).item hlt
                      obtain ⟨d0, d1⟩ := (HI.out.m.rows i hlt).item hlt
                      rw [HJI.out] at c0 c1
                      rw [HIIC.out] at d0 d1
                      clear HYgi HEgi
                      obtain ⟨Cj, ygj⟩ := HI.out.m.hd.at hjt
                      obtain ⟨gj, egj⟩ : ∃ x, gm j = x := ⟨_, rfl⟩
                      rw [egj] at ygj
                      have HYgj := Lib.hid ygj
                      have HEgj := Lib.hid egj
                      clear ygj egj
                      obtain ⟨Ci, ygi⟩ := HI.out.m.hd.at hlt
                      obtain ⟨gi, egi⟩ : ∃ x, gm i = x := ⟨_, rfl⟩
                      rw [egi] at ygi
                      have HYgi := Lib.hid ygi
                      have HEgi := Lib.hid egi
                      clear ygi egi
                      rw [HEgj.out] at c0 c1
                      rw [HEgi.out] at d0 d1
                      obtain ⟨q, hq⟩ : ∃ x, m j i = x := ⟨_, rfl⟩
                      obtain ⟨f, hf⟩ : ∃ x, q / p = x := ⟨_, rfl⟩
                      have HQ := Lib.hid hq
                      have HFF := Lib.hid hf
                      have HPZ := Lib.hid (show p ≠ 0 by rw [← HPP.out]; exact HII.out)
                      rw [hq] at hfq c0 c1
                      rw [HPP.out] at hfp d0 d1
                      rw [hq, HPP.out, hf] at hff
                      have TD := (fun W' ge => fm_div q p W' hfq hfp HPZ.out (by rw [hf]; exact hff) ge)
                      rw [hf, fracV_is q, fracV_is p, fracV_is f] at TD
                      replace TD := Lib.hid TD
                      have HC0 := Lib.hid c0
                      have HC1 := Lib.hid c1
                      have HD0 := Lib.hid d0
                      have HD1 := Lib.hid d1
                      have HFIT := Lib.hid hff
                      clear c0 c1 d0 d1 hq hf hfq hfp hff
                      go_upto_region 19 with fail
                      go_cut [11, 12, 89] (fun v11 v12 v89 wx => v11 = .int .i64 (j : Int) ∧ v89 = .int .i64 (j : Int) ∧ ∃ b12, v12 = .pointer (some ⟨b12, 0, none⟩) ∧ D < b12 ∧ wx.heap[b12]? = some (.cells #[.string (numS f), .string (denS f)] 24 (0, 0)) ∧ ElI W base bm bo R D n gm go (rowsM inv i m m j) (outR inv i m out j) dp wx)
                      case first =>
                        as_aux_lemma =>
                          have LTD := Lib.hid (heap_lt HI.out.det)
                          go_wp2_with fail
                          have hok : okB 17 (elim_anyKs19 q p f n bm C i j gi gj Ci Cj) = true := by kernel_rfl
                          have hna := noAny_of (ks := (elim_anyKs19 q p f n bm C i j gi gj Ci Cj)) (by kernel_rfl)
                          have hla := lasts_of hna
                          refine wp_region_facts_abs (row := none) (w := wc) 17 0 17 [] (elim_anyKs19 q p f n bm C i j gi gj Ci Cj) [some 115, some 116, some 117, some 118, some 119, some 120, some 121, some 122, some 123, some 124, some 125, some 126, some 127, some 128, some 129, some 12, none] [(0, .slice (some ⟨bm, 0, none⟩) n C), (11, .int .i64 (j : Int)), (9, .int .i64 (i : Int))] 220 (by kernel_rfl) (by kernel_rfl) (by kernel_rfl) rfl rfl (by decide) rfl (by kernel_rfl) rfl (Nat.le_of_eq rfl) rfl ?ho [u115, u116, u117, u118, u119, u120, u121, u122, u123, u124, u125, u126, u127, u128, u129, u12, undef] ?h00 (Fs.start rfl rfl) ?hs ?hd
                          case ho =>
                            intro k x hk
                            match k, hk with
                            | 0, hk => have hk := Option.some.inj hk; subst hk; rfl
                            | 1, hk => have hk := Option.some.inj hk; subst hk; rfl
                            | 2, hk => have hk := Option.some.inj hk; subst hk; rfl
                            | _ + 3, hk => exact absurd hk (by simp)
                          case h00 => simp only [putO, layL]
                          case hs =>
                            rintro A listed vs Wr hF hR i hi hun hpre
                            obtain ⟨s0, s1, s2, s3, s4, s5, s6, s7, s8, s9, s10, s11, s12, s13, s14, s15, s16, hvs⟩ := exl_of 17 vs (fun l => vs = l) hF.len rfl
                            subst hvs
                            have hge := Nat.zero_le i
                            rcases Nat.lt_or_ge i 8 with hlt | hgt
                            · replace hi := hlt
                              clear hlt
                              rcases Nat.lt_or_ge i 4 with hlt | hgt
                              · replace hi := hlt
                                clear hlt
                                rcases Nat.lt_or_ge i 2 with hlt | hgt
                                · replace hi := hlt
                                  clear hlt
                                  rcases Nat.lt_or_ge i 1 with hlt | hgt
                                  · replace hi := hlt
                                    clear hlt
                                    obtain rfl := eqi hi hge
                                    have ro0 : A.tmps[0]? = some (.slice (some ⟨bm, 0, none⟩) n C) := hR.out 0 _ rfl
                                    refine step_of ⟨some 115, _, _, _, _, _⟩ rfl (fun K' hK => ?_)
                                    go_simp
                                    exact hK.out _ _ ⟨_, hF.pure hok hla hpre rfl (Below.refl _ _), rfl⟩
                                  · replace hge : 1 ≤ i := hgt
                                    clear hgt
                                    obtain rfl := eqi hi hge
                                    have ro11 : A.tmps[11]? = some (.int .i64 (j : Int)) := hR.out 1 _ rfl
                                    refine step_of ⟨some 116, _, _, _, _, _⟩ rfl (fun K' hK => ?_)
                                    go_simp
                                    exact hK.out _ _ ⟨_, hF.pure hok hla hpre rfl (Below.refl _ _), rfl⟩
                                · replace hge : 2 ≤ i := hgt
                                  clear hgt
                                  rcases Nat.lt_or_ge i 3 with hlt | hgt
                                  · replace hi := hlt
                                    clear hlt
                                    obtain rfl := eqi hi hge
                                    have p0 := hpre 0 (by kernel_rfl)
                                    have e0 : s0 = .slice (some ⟨bm, 0, none⟩) n C := hF.get 0 _ rfl (.inr p0)
                                    subst e0
                                    have r0 : A.tmps[115]? = some (.slice (some ⟨bm, 0, none⟩) n C) := hR.own 0 _ _ rfl rfl
                                    have p1 := hpre 1 (by kernel_rfl)
                                    have e1 : s1 = .int .i64 (j : Int) := hF.get 1 _ rfl (.inr p1)
                                    subst e1
                                    have r1 : A.tmps[116]? = some (.int .i64 (j : Int)) := hR.own 1 _ _ rfl rfl
                                    refine step_of ⟨some 117, _, _, _, _, _⟩ rfl (fun K' hK => ?_)
                                    go_simp
                                    exact hK.out _ _ ⟨_, hF.pure hok hla hpre rfl (Below.refl _ _), rfl⟩
                                  · replace hge : 3 ≤ i := hgt
                                    clear hgt
                                    obtain rfl := eqi hi hge
                                    have p2 := hpre 2 (by kernel_rfl)
                                    have e2 : s2 = .pointer (some ⟨bm, j, none⟩) := hF.get 2 _ rfl (.inr p2)
                                    subst e2
                                    have r2 : A.tmps[117]? = some (.pointer (some ⟨bm, j, none⟩)) := hR.own 2 _ _ rfl rfl
                                    have y0 := cell_below HYgj.out (below_none hF.low)
                                    refine step_of ⟨some 118, _, _, _, _, _⟩ rfl (fun K' hK => ?_)
                                    go_simp
                                    exact hK.out _ _ ⟨_, hF.pure hok hla hpre rfl (Below.refl _ _), rfl⟩
                              · replace hge : 4 ≤ i := hgt
                                clear hgt
                                rcases Nat.lt_or_ge i 6 with hlt | hgt
                                · replace hi := hlt
                                  clear hlt
                                  rcases Nat.lt_or_ge i 5 with hlt | hgt
                                  · replace hi := hlt
                                    clear hlt
                                    obtain rfl := eqi hi hge
                                    have ro9 : A.tmps[9]? = some (.int .i64 (i : Int)) := hR.out 2 _ rfl
                                    refine step_of ⟨some 119, _, _, _, _, _⟩ rfl (fun K' hK => ?_)
                                    go_simp
                                    exact hK.out _ _ ⟨_, hF.pure hok hla hpre rfl (Below.refl _ _), rfl⟩
                                  · replace hge : 5 ≤ i := hgt
                                    clear hgt
                                    obtain rfl := eqi hi hge
                                    have p3 := hpre 3 (by kernel_rfl)
                                    have e3 : s3 = .slice (some ⟨gj, 0, none⟩) n Cj := hF.get 3 _ rfl (.inr p3)
                                    subst e3
                                    have r3 : A.tmps[118]? = some (.slice (some ⟨gj, 0, none⟩) n Cj) := hR.own 3 _ _ rfl rfl
                                    have p4 := hpre 4 (by kernel_rfl)
                                    have e4 : s4 = .int .i64 (i : Int) := hF.get 4 _ rfl (.inr p4)
                                    subst e4
                                    have r4 : A.tmps[119]? = some (.int .i64 (i : Int)) := hR.own 4 _ _ rfl rfl
                                    refine step_of ⟨some 120, _, _, _, _, _⟩ rfl (fun K' hK => ?_)
                                    go_simp
                                    exact hK.out _ _ ⟨_, hF.pure hok hla hpre rfl (Below.refl _ _), rfl⟩
                                · replace hge : 6 ≤ i := hgt
                                  clear hgt
                                  rcases Nat.lt_or_ge i 7 with hlt | hgt
                                  · replace hi := hlt
                                    clear hlt
                                    obtain rfl := eqi hi hge
                                    have p5 := hpre 5 (by kernel_rfl)
                                    have e5 : s5 = .pointer (some ⟨gj, i * 2, none⟩) := hF.get 5 _ rfl (.inr p5)
                                    subst e5
                                    have r5 : A.tmps[120]? = some (.pointer (some ⟨gj, i * 2, none⟩)) := hR.own 5 _ _ rfl rfl
                                    have c0 := cell_below HC0.out (below_none hF.low)
                                    have c1 := cell_below HC1.out (below_none hF.low)
                                    refine step_of ⟨some 121, _, _, _, _, _⟩ rfl (fun K' hK => ?_)
                                    go_simp
                                    exact hK.out _ _ ⟨_, hF.pure hok hla hpre rfl (Below.refl _ _), rfl⟩
                                  · replace hge : 7 ≤ i := hgt
                                    clear hgt
                                    obtain rfl := eqi hi hge
                                    have ro0 : A.tmps[0]? = some (.slice (some ⟨bm, 0, none⟩) n C) := hR.out 0 _ rfl
                                    refine step_of ⟨some 122, _, _, _, _, _⟩ rfl (fun K' hK => ?_)
                                    go_simp
                                    exact hK.out _ _ ⟨_, hF.pure hok hla hpre rfl (Below.refl _ _), rfl⟩
                            · replace hge : 8 ≤ i := hgt
                              clear hgt
                              rcases Nat.lt_or_ge i 12 with hlt | hgt
                              · replace hi := hlt
                                clear hlt
                                rcases Nat.lt_or_ge i 10 with hlt | hgt
                                · replace hi := hlt
                                  clear hlt
                                  rcases Nat.lt_or_ge i 9 with hlt | hgt
                                  · replace hi := hlt
                                    clear hlt
                                    obtain rfl := eqi hi hge
                                    have ro9 : A.tmps[9]? = some (.int .i64 (i : Int)) := hR.out 2 _ rfl
                                    refine step_of ⟨some 123, _, _, _, _, _⟩ rfl (fun K' hK => ?_)
                                    go_simp
                                    exact hK.out _ _ ⟨_, hF.pure hok hla hpre rfl (Below.refl _ _), rfl⟩
                                  · replace hge : 9 ≤ i := hgt
                                    clear hgt
                                    obtain rfl := eqi hi hge
                                    have p7 := hpre 7 (by kernel_rfl)
                                    have e7 : s7 = .slice (some ⟨bm, 0, none⟩) n C := hF.get 7 _ rfl (.inr p7)
                                    subst e7
                                    have r7 : A.tmps[122]? = some (.slice (some ⟨bm, 0, none⟩) n C) := hR.own 7 _ _ rfl rfl
                                    have p8 := hpre 8 (by kernel_rfl)
                                    have e8 : s8 = .int .i64 (i : Int) := hF.get 8 _ rfl (.inr p8)
                                    subst e8
                                    have r8 : A.tmps[123]? = some (.int .i64 (i : Int)) := hR.own 8 _ _ rfl rfl
                                    refine step_of ⟨some 124, _, _, _, _, _⟩ rfl (fun K' hK => ?_)
                                    go_simp
                                    exact hK.out _ _ ⟨_, hF.pure hok hla hpre rfl (Below.refl _ _), rfl⟩
                                · replace hge : 10 ≤ i := hgt
                                  clear hgt
                                  rcases Nat.lt_or_ge i 11 with hlt | hgt
                                  · replace hi := hlt
                                    clear hlt
                                    obtain rfl := eqi hi hge
                                    have p9 := hpre 9 (by kernel_rfl)
                                    have e9 : s9 = .pointer (some ⟨bm, i, none⟩) := hF.get 9 _ rfl (.inr p9)
                                    subst e9
                                    have r9 : A.tmps[124]? = some (.pointer (some ⟨bm, i, none⟩)) := hR.own 9 _ _ rfl rfl
                                    have y0 := cell_below HYgi.out (below_none hF.low)
                                    refine step_of ⟨some 125, _, _, _, _, _⟩ rfl (fun K' hK => ?_)
                                    go_simp
                                    exact hK.out _ _ ⟨_, hF.pure hok hla hpre rfl (Below.refl _ _), rfl⟩
                                  · replace hge : 11 ≤ i := hgt
                                    clear hgt
                                    obtain rfl := eqi hi hge
                                    have ro9 : A.tmps[9]? = some (.int .i64 (i : Int)) := hR.out 2 _ rfl
                                    refine step_of ⟨some 126, _, _, _, _, _⟩ rfl (fun K' hK => ?_)
                                    go_simp
                                    exact hK.out _ _ ⟨_, hF.pure hok hla hpre rfl (Below.refl _ _), rfl⟩
                              · replace hge : 12 ≤ i := hgt
                                clear hgt
                                rcases Nat.lt_or_ge i 14 with hlt | hgt
                                · replace hi := hlt
                                  clear hlt
                                  rcases Nat.lt_or_ge i 13 with hlt | hgt
                                  · replace hi := hlt
                                    clear hlt
                                    obtain rfl := eqi hi hge
                                    have p10 := hpre 10 (by kernel_rfl)
                                    have e10 : s10 = .slice (some ⟨gi, 0, none⟩) n Ci := hF.get 10 _ rfl (.inr p10)
                                    subst e10
                                    have r10 : A.tmps[125]? = some (.slice (some ⟨gi, 0, none⟩) n Ci) := hR.own 10 _ _ rfl rfl
                                    have p11 := hpre 11 (by kernel_rfl)
                                    have e11 : s11 = .int .i64 (i : Int) := hF.get 11 _ rfl (.inr p11)
                                    subst e11
                                    have r11 : A.tmps[126]? = some (.int .i64 (i : Int)) := hR.own 11 _ _ rfl rfl
                                    refine step_of ⟨some 127, _, _, _, _, _⟩ rfl (fun K' hK => ?_)
                                    go_simp
                                    exact hK.out _ _ ⟨_, hF.pure hok hla hpre rfl (Below.refl _ _), rfl⟩
                                  · replace hge : 13 ≤ i := hgt
                                    clear hgt
                                    obtain rfl := eqi hi hge
                                    have p12 := hpre 12 (by kernel_rfl)
                                    have e12 : s12 = .pointer (some ⟨gi, i * 2, none⟩) := hF.get 12 _ rfl (.inr p12)
                                    subst e12
                                    have r12 : A.tmps[127]? = some (.pointer (some ⟨gi, i * 2, none⟩)) := hR.own 12 _ _ rfl rfl
                                    have c0 := cell_below HD0.out (below_none hF.low)
                                    have c1 := cell_below HD1.out (below_none hF.low)
                                    refine step_of ⟨some 128, _, _, _, _, _⟩ rfl (fun K' hK => ?_)
                                    go_simp
                                    exact hK.out _ _ ⟨_, hF.pure hok hla hpre rfl (Below.refl _ _), rfl⟩
                                · replace hge : 14 ≤ i := hgt
                                  clear hgt
                                  rcases Nat.lt_or_ge i 15 with hlt | hgt
                                  · replace hi := hlt
                                    clear hlt
                                    obtain rfl := eqi hi hge
                                    have p6 := hpre 6 (by kernel_rfl)
                                    have e6 : s6 = .agg #[.string (numS q), .string (denS q)] := hF.get 6 _ rfl (.inr p6)
                                    subst e6
                                    have r6 : A.tmps[121]? = some (.agg #[.string (numS q), .string (denS q)]) := hR.own 6 _ _ rfl rfl
                                    have p13 := hpre 13 (by kernel_rfl)
                                    have e13 : s13 = .agg #[.string (numS p), .string (denS p)] := hF.get 13 _ rfl (.inr p13)
                                    subst e13
                                    have r13 : A.tmps[128]? = some (.agg #[.string (numS p), .string (denS p)]) := hR.own 13 _ _ rfl rfl
                                    refine step_of ⟨some 129, _, _, _, _, _⟩ rfl (fun K' hK => ?_)
                                    go_simp
                                    go_at_call 64
                                    (with_reducible refine (TD.out _ ((HI.out.step (below_none hF.low)).env HE0.out HP.out)).mono ?_)
                                    rintro e Wq ⟨rfl, hq⟩
                                    exact hK.out _ _ ⟨_, hF.pure hok hla hpre rfl hq, rfl⟩
                                  · replace hge : 15 ≤ i := hgt
                                    clear hgt
                                    rcases Nat.lt_or_ge i 16 with hlt | hgt
                                    · replace hi := hlt
                                      clear hlt
                                      obtain rfl := eqi hi hge
                                      refine step_of ⟨some 12, _, _, _, _, _⟩ rfl (fun K' hK => ?_)
                                      go_simp
                                      exact hK.out _ _ ⟨_, hF.box hok hla hpre hun rfl, rfl⟩
                                    · replace hge : 16 ≤ i := hgt
                                      clear hgt
                                      obtain rfl := eqi hi hge
                                      have p15 := hpre 15 (by kernel_rfl)
                                      obtain ⟨G, eG, _, hGl, hGB⟩ : ∃ G, s15 = .pointer (some ⟨G, 0, none⟩) ∧ (∀ k, none = some k → G = k) ∧ wc.heap.size ≤ G ∧ Wr.heap[G]? = some (.cells (if listed.getD 16 false = true then #[.string (numS f), .string (denS f)] else #[.string { data := #[] }, .string { data := #[] }]) 24 (0, 0)) := hF.get 15 _ rfl (.inr p15)
                                      subst eG
                                      rw [if_neg (bit_off hun)] at hGB
                                      have HGB := Lib.hid hGB
                                      clear hGB
                                      have r15 : A.tmps[12]? = some (.pointer (some ⟨G, 0, none⟩)) := hR.own 15 _ _ rfl rfl
                                      have p14 := hpre 14 (by kernel_rfl)
                                      have e14 : s14 = .agg #[.string (numS f), .string (denS f)] := hF.get 14 _ rfl (.inr p14)
                                      subst e14
                                      have r14 : A.tmps[129]? = some (.agg #[.string (numS f), .string (denS f)]) := hR.own 14 _ _ rfl rfl
                                      obtain ⟨⟨y0, y1⟩, g0, g1⟩ := two_at HGB.out
                                      refine step_of ⟨none, _, _, _, _, _⟩ rfl (fun K' hK => ?_)
                                      go_simp
                                      exact hK.out _ _ ⟨undef, hF.put hok hna hpre hun rfl undef rfl (.inr p15) rfl (set2_at HGB.out (.string (numS f)) (.string (denS f))) (fun k hk => set2_other _ _ (.string (numS f)) (.string (denS f)) hk) (put2_below hGl _ (.string (numS f)) (.string (denS f))), rfl⟩
                          case hd =>
                            rintro listed vs WA hF hall
                            obtain ⟨s0, s1, s2, s3, s4, s5, s6, s7, s8, s9, s10, s11, s12, s13, s14, s15, s16, hvs⟩ := exl_of 17 vs (fun l => vs = l) hF.len rfl
                            subst hvs
                            obtain ⟨b12, e15, _, gq, k15⟩ : ∃ G, s15 = .pointer (some ⟨G, 0, none⟩) ∧ (∀ k, none = some k → G = k) ∧ _ ≤ G ∧ WA.heap[G]? = some (.cells (if listed.getD 16 false = true then #[.string (numS f), .string (denS f)] else #[.string { data := #[] }, .string { data := #[] }]) 24 (0, 0)) := hF.get 15 _ rfl (.inr (hall 15 (by decide)))
                            subst e15
                            rw [if_pos (hall 16 (by decide))] at k15
                            have H12 := Lib.hid k15
                            clear k15
                            have ge12 := Lib.hid gq
                            clear gq
                            have hq := below_none hF.low
                            replace HI := Lib.hid (HI.out.step hq)
                            clear hq
                            clear hF hall hok hna hla
                            refine rest_end ?_
                            simp only [putO, layL]
                            have hD12 : D < b12 := Nat.lt_of_lt_of_le LTD.out ge12.out
                            have HB12 := Lib.hid hD12
                            go_wp2_with fail
                            go_meet
                            case rel => exact ⟨rfl, rfl, b12, rfl, HB12.out, H12.out, HI.out⟩
                      case rest =>
                        obtain ⟨rfl, rfl, b12, rfl, hb12, h12, hI⟩ := hcut
                        replace HI := Lib.hid hI
                        have H12 := Lib.hid h12
                        have HB12 := Lib.hid hb12
                        clear hI h12 hb12 HC0 HC1 HD0 HD1 HYgi HYgj TD
                        obtain ⟨mj, hmj⟩ : ∃ x, rowsM inv i m m j = x := ⟨_, rfl⟩
                        obtain ⟨oj, hoj⟩ : ∃ x, outR inv i m out j = x := ⟨_, rfl⟩
                        rw [hmj] at HI HJI HIIC HJC
                        rw [hoj] at HI
                        have HMJ := Lib.hid hmj
                        have HOJ := Lib.hid hoj
                        have HO1 := Lib.hid (show inv = true → ∀ c, oj j c = out j c ∧ oj i c = out i c from fun e c => by
                          rw [← hoj]
                          unfold outR
                          rw [if_pos e]
                          exact ⟨rowsM_of (by omega), rowsM_of (by omega)⟩)
                        clear hmj hoj
                        obtain ⟨FM, hFM⟩ : ∃ F : Nat → Rat, (fun c => m j c - f * m i c) = F := ⟨_, rfl⟩
                        obtain ⟨FO, hFO⟩ : ∃ F : Nat → Rat, (fun c => out j c - f * out i c) = F := ⟨_, rfl⟩
                        have HFM := Lib.hid (show ∀ c, m j c - f * m i c = FM c from fun c => by rw [← hFM])
                        have HFO := Lib.hid (show ∀ c, out j c - f * out i c = FO c from fun c => by rw [← hFO])
                        clear hFM hFO
                        have HJ0 := Lib.hid (show ElI W base bm bo R D n gm go (colsM mj j FM 0) (colsM oj j FO 0) dp _ by rw [colsM_zero, colsM_zero]; exact HI.out)
                        clear HI
                        go_wp2_with fail
                        go_loopg [13, 131] n (fun gh v13 v131 wx => ∃ c : Nat, v131 = .int .i64 (c : Int) ∧ c ≤ n ∧ gh = n - c ∧ wx.heap[b12]? = some (.cells #[.string (numS f), .string (denS f)] 24 (0, 0)) ∧ ElI W base bm bo R D n gm go (colsM mj j FM c) (colsM oj j FO (colN inv c)) dp wx)
                        case atStart => exact ⟨0, rfl, Nat.zero_le _, rfl, H12.out, by rw [colN_zero]; exact HJ0.out⟩
                        case round =>
                          clear HJ0 H12
                          obtain ⟨c, rfl, hc, hgc, h12, hI⟩ := hrel
                          have HI := Lib.hid hI
                          have H12 := Lib.hid h12
                          clear hI h12
                          by_cases hct : c < n
                          · skip
                            have hce : decide ((c : Int) < (n : Int)) = true := decide_eq_true (by omega)
                            have hce2 : decide (c < n) = true := decide_eq_true hct
                            have hc0 : (0 : Int) ≤ (c : Int) := by omega
                            have hc1 : (c : Int) < (n : Int) := by omega
                            have hcw : IntKind.i64.wrap ((c : Int) + 1) = (c : Int) + 1 := IntWalk.i64_in _ (by omega)
                            go_upto_region 23 with fail
                            go_cut [13, 131] (fun v13 v131 wx => v13 = .int .i64 (c : Int) ∧ v131 = .int .i64 (c : Int) ∧ wx.heap[b12]? = some (.cells #[.string (numS f), .string (denS f)] 24 (0, 0)) ∧ ElI W base bm bo R D n gm go (colsM mj j FM (c + 1)) (colsM oj j FO (colN inv c)) dp wx)
                            case first =>
                              as_aux_lemma =>
                                have hf1 := HBD.out.f_m OK.out h4 HDD.out HDM.out hlt hjt hct
                                have hf2 := HBD.out.f_m OK.out h4 HDD.out HDM.out hlt hlt hct
                                have hf3 := HBD.out.f_p OK.out h4 HDD.out HDM.out hlt HII.out hjt hct HX.out
                                have hf4 := HBD.out.f_s OK.out h4 HDD.out HDM.out hlt HII.out hjt hct HX.out
                                rw [HQ.out, HPP.out, HFF.out] at hf3 hf4
                                obtain ⟨c0, c1⟩ := (HI.out.m.rows j hjt).item hct
                                obtain ⟨d0, d1⟩ := (HI.out.m.rows i hlt).item hct
                                rw [colsM_at (.inr (Nat.le_refl c)), HJC.out] at c0 c1
                                rw [colsM_at (.inl (Ne.symm HNE.out)), HIIC.out] at d0 d1
                                obtain ⟨Cj, ygj⟩ := HI.out.m.hd.at hjt
                                obtain ⟨gj, egj⟩ : ∃ x, gm j = x := ⟨_, rfl⟩
                                rw [egj] at ygj
                                have HYgj := Lib.hid ygj
                                clear ygj
                                obtain ⟨Ci, ygi⟩ := HI.out.m.hd.at hlt
                                obtain ⟨gi, egi⟩ : ∃ x, gm i = x := ⟨_, rfl⟩
                                rw [egi] at ygi
                                have HYgi := Lib.hid ygi
                                clear ygi
                                rw [egj] at c0 c1
                                rw [egi] at d0 d1
                                have HEgj := Lib.hid egj
                                obtain ⟨x, hx⟩ : ∃ x, m j c = x := ⟨_, rfl⟩
                                obtain ⟨y, hy⟩ : ∃ x, m i c = x := ⟨_, rfl⟩
                                obtain ⟨fy, hfy⟩ : ∃ x, f * y = x := ⟨_, rfl⟩
                                obtain ⟨z, hz⟩ : ∃ x, FM c = x := ⟨_, rfl⟩
                                have hxz : x - fy = z := by rw [← hz, ← HFM.out, hx, hy, hfy]
                                rw [hx] at hf1 hf4 c0 c1
                                rw [hy] at hf2 hf3 hf4 d0 d1
                                rw [hfy] at hf3 hf4
                                rw [hxz] at hf4
                                have TM := (fun W' ge => fm_mul f y W' HFIT.out hf2 (by rw [hfy]; exact hf3) ge)
                                have TS := (fun W' ge => fm_sub x fy W' hf1 hf3 (by rw [hxz]; exact hf4) ge)
                                rw [hfy, fracV_is f, fracV_is y, fracV_is fy] at TM
                                rw [hxz, fracV_is x, fracV_is fy, fracV_is z] at TS
                                replace TM := Lib.hid TM
                                replace TS := Lib.hid TS
                                have HZ := Lib.hid hz
                                have HC0 := Lib.hid c0
                                have HC1 := Lib.hid c1
                                have HD0 := Lib.hid d0
                                have HD1 := Lib.hid d1
                                have HCC0 := Lib.hid hc0
                                clear c0 c1 d0 d1 hf1 hf2 hf3 hf4 hx hy hfy hz hxz egj egi
                                go_wp2_with fail
                                have hok : okB 24 (elim_anyKs23 f x y fy z n bm C i j c gi gj Ci Cj b12) = true := by kernel_rfl
                                have hna := noAny_of (ks := (elim_anyKs23 f x y fy z n bm C i j c gi gj Ci Cj b12)) (by kernel_rfl)
                                have hla := lasts_of hna
                                refine wp_region_facts_abs (row := none) (w := wr) 22 2 24 [22, 23] (elim_anyKs23 f x y fy z n bm C i j c gi gj Ci Cj b12) [some 134, some 135, some 136, some 137, some 138, some 139, some 140, some 141, some 142, some 143, some 144, some 145, some 146, some 147, some 148, some 149, some 150, some 151, some 152, some 153, some 154, some 155, some 156, none] [(0, .slice (some ⟨bm, 0, none⟩) n C), (11, .int .i64 (j : Int)), (13, .int .i64 (c : Int)), (12, .pointer (some ⟨b12, 0, none⟩)), (9, .int .i64 (i : Int))] 220 (by kernel_rfl) (by kernel_rfl) (by kernel_rfl) rfl rfl (by decide) rfl (by kernel_rfl) rfl (Nat.le_of_eq rfl) rfl ?ho [u134, u135, u136, u137, u138, u139, u140, u141, u142, u143, u144, u145, u146, u147, u148, u149, u150, u151, u152, u153, u154, u155, u156, undef] ?h00 (Fs.start rfl rfl) ?hs ?hd
                                case ho =>
                                  intro k x hk
                                  match k, hk with
                                  | 0, hk => have hk := Option.some.inj hk; subst hk; rfl
                                  | 1, hk => have hk := Option.some.inj hk; subst hk; rfl
                                  | 2, hk => have hk := Option.some.inj hk; subst hk; rfl
                                  | 3, hk => have hk := Option.some.inj hk; subst hk; rfl
                                  | 4, hk => have hk := Option.some.inj hk; subst hk; rfl
                                  | _ + 5, hk => exact absurd hk (by simp)
                                case h00 => simp only [putO, layL]
                                case hs =>
                                  rintro A listed vs Wr hF hR i hi hun hpre
                                  obtain ⟨s0, s1, s2, s3, s4, s5, s6, s7, s8, s9, s10, s11, s12, s13, s14, s15, s16, s17, s18, s19, s20, s21, s22, s23, hvs⟩ := exl_of 24 vs (fun l => vs = l) hF.len rfl
                                  subst hvs
                                  have hge := Nat.zero_le i
                                  rcases Nat.lt_or_ge i 11 with hlt | hgt
                                  · replace hi := hlt
                                    clear hlt
                                    rcases Nat.lt_or_ge i 5 with hlt | hgt
                                    · replace hi := hlt
                                      clear hlt
                                      rcases Nat.lt_or_ge i 2 with hlt | hgt
                                      · replace hi := hlt
                                        clear hlt
                                        rcases Nat.lt_or_ge i 1 with hlt | hgt
                                        · replace hi := hlt
                                          clear hlt
                                          obtain rfl := eqi hi hge
                                          have ro0 : A.tmps[0]? = some (.slice (some ⟨bm, 0, none⟩) n C) := hR.out 0 _ rfl
                                          refine step_of ⟨some 134, _, _, _, _, _⟩ rfl (fun K' hK => ?_)
                                          go_simp
                                          exact hK.out _ _ ⟨_, hF.pure hok hla hpre rfl (Below.refl _ _), rfl⟩
                                        · replace hge : 1 ≤ i := hgt
                                          clear hgt
                                          obtain rfl := eqi hi hge
                                          have ro11 : A.tmps[11]? = some (.int .i64 (j : Int)) := hR.out 1 _ rfl
                                          refine step_of ⟨some 135, _, _, _, _, _⟩ rfl (fun K' hK => ?_)
                                          go_simp
                                          exact hK.out _ _ ⟨_, hF.pure hok hla hpre rfl (Below.refl _ _), rfl⟩
                                      · replace hge : 2 ≤ i := hgt
                                        clear hgt
                                        rcases Nat.lt_or_ge i 3 with hlt | hgt
                                        · replace hi := hlt
                                          clear hlt
                                          obtain rfl := eqi hi hge
                                          have p0 := hpre 0 (by kernel_rfl)
                                          have e0 : s0 = .slice (some ⟨bm, 0, none⟩) n C := hF.get 0 _ rfl (.inr p0)
                                          subst e0
                                          have r0 : A.tmps[134]? = some (.slice (some ⟨bm, 0, none⟩) n C) := hR.own 0 _ _ rfl rfl
                                          have p1 := hpre 1 (by kernel_rfl)
                                          have e1 : s1 = .int .i64 (j : Int) := hF.get 1 _ rfl (.inr p1)
                                          subst e1
                                          have r1 : A.tmps[135]? = some (.int .i64 (j : Int)) := hR.own 1 _ _ rfl rfl
                                          refine step_of ⟨some 136, _, _, _, _, _⟩ rfl (fun K' hK => ?_)
                                          go_simp
                                          exact hK.out _ _ ⟨_, hF.pure hok hla hpre rfl (Below.refl _ _), rfl⟩
                                        · replace hge : 3 ≤ i := hgt
                                          clear hgt
                                          rcases Nat.lt_or_ge i 4 with hlt | hgt
                                          · replace hi := hlt
                                            clear hlt
                                            obtain rfl := eqi hi hge
                                            have p2 := hpre 2 (by kernel_rfl)
                                            have e2 : s2 = .pointer (some ⟨bm, j, none⟩) := hF.get 2 _ rfl (.inr p2)
                                            subst e2
                                            have r2 : A.tmps[136]? = some (.pointer (some ⟨bm, j, none⟩)) := hR.own 2 _ _ rfl rfl
                                            have y0 := cell_below HYgj.out (below_none hF.low)
                                            refine step_of ⟨some 137, _, _, _, _, _⟩ rfl (fun K' hK => ?_)
                                            go_simp
                                            exact hK.out _ _ ⟨_, hF.pure hok hla hpre rfl (Below.refl _ _), rfl⟩
                                          · replace hge : 4 ≤ i := hgt
                                            clear hgt
                                            obtain rfl := eqi hi hge
                                            have ro13 : A.tmps[13]? = some (.int .i64 (c : Int)) := hR.out 2 _ rfl
                                            refine step_of ⟨some 138, _, _, _, _, _⟩ rfl (fun K' hK => ?_)
                                            go_simp
                                            exact hK.out _ _ ⟨_, hF.pure hok hla hpre rfl (Below.refl _ _), rfl⟩
                                    · replace hge : 5 ≤ i := hgt
                                      clear hgt
                                      rcases Nat.lt_or_ge i 8 with hlt | hgt
                                      · replace hi := hlt
                                        clear hlt
                                        rcases Nat.lt_or_ge i 6 with hlt | hgt
                                        · replace hi := hlt
                                          clear hlt
                                          obtain rfl := eqi hi hge
                                          have ro0 : A.tmps[0]? = some (.slice (some ⟨bm, 0, none⟩) n C) := hR.out 0 _ rfl
                                          refine step_of ⟨some 139, _, _, _, _, _⟩ rfl (fun K' hK => ?_)
                                          go_simp
                                          exact hK.out _ _ ⟨_, hF.pure hok hla hpre rfl (Below.refl _ _), rfl⟩
                                        · replace hge : 6 ≤ i := hgt
                                          clear hgt
                                          rcases Nat.lt_or_ge i 7 with hlt | hgt
                                          · replace hi := hlt
                                            clear hlt
                                            obtain rfl := eqi hi hge
                                            have ro11 : A.tmps[11]? = some (.int .i64 (j : Int)) := hR.out 1 _ rfl
                                            refine step_of ⟨some 140, _, _, _, _, _⟩ rfl (fun K' hK => ?_)
                                            go_simp
                                            exact hK.out _ _ ⟨_, hF.pure hok hla hpre rfl (Below.refl _ _), rfl⟩
                                          · replace hge : 7 ≤ i := hgt
                                            clear hgt
                                            obtain rfl := eqi hi hge
                                            have p5 := hpre 5 (by kernel_rfl)
                                            have e5 : s5 = .slice (some ⟨bm, 0, none⟩) n C := hF.get 5 _ rfl (.inr p5)
                                            subst e5
                                            have r5 : A.tmps[139]? = some (.slice (some ⟨bm, 0, none⟩) n C) := hR.own 5 _ _ rfl rfl
                                            have p6 := hpre 6 (by kernel_rfl)
                                            have e6 : s6 = .int .i64 (j : Int) := hF.get 6 _ rfl (.inr p6)
                                            subst e6
                                            have r6 : A.tmps[140]? = some (.int .i64 (j : Int)) := hR.own 6 _ _ rfl rfl
                                            refine step_of ⟨some 141, _, _, _, _, _⟩ rfl (fun K' hK => ?_)
                                            go_simp
                                            exact hK.out _ _ ⟨_, hF.pure hok hla hpre rfl (Below.refl _ _), rfl⟩
                                      · replace hge : 8 ≤ i := hgt
                                        clear hgt
                                        rcases Nat.lt_or_ge i 9 with hlt | hgt
                                        · replace hi := hlt
                                          clear hlt
                                          obtain rfl := eqi hi hge
                                          have p7 := hpre 7 (by kernel_rfl)
                                          have e7 : s7 = .pointer (some ⟨bm, j, none⟩) := hF.get 7 _ rfl (.inr p7)
                                          subst e7
                                          have r7 : A.tmps[141]? = some (.pointer (some ⟨bm, j, none⟩)) := hR.own 7 _ _ rfl rfl
                                          have y0 := cell_below HYgj.out (below_none hF.low)
                                          refine step_of ⟨some 142, _, _, _, _, _⟩ rfl (fun K' hK => ?_)
                                          go_simp
                                          exact hK.out _ _ ⟨_, hF.pure hok hla hpre rfl (Below.refl _ _), rfl⟩
                                        · replace hge : 9 ≤ i := hgt
                                          clear hgt
                                          rcases Nat.lt_or_ge i 10 with hlt | hgt
                                          · replace hi := hlt
                                            clear hlt
                                            obtain rfl := eqi hi hge
                                            have ro13 : A.tmps[13]? = some (.int .i64 (c : Int)) := hR.out 2 _ rfl
                                            refine step_of ⟨some 143, _, _, _, _, _⟩ rfl (fun K' hK => ?_)
                                            go_simp
                                            exact hK.out _ _ ⟨_, hF.pure hok hla hpre rfl (Below.refl _ _), rfl⟩
                                          · replace hge : 10 ≤ i := hgt
                                            clear hgt
                                            obtain rfl := eqi hi hge
                                            have p8 := hpre 8 (by kernel_rfl)
                                            have e8 : s8 = .slice (some ⟨gj, 0, none⟩) n Cj := hF.get 8 _ rfl (.inr p8)
                                            subst e8
                                            have r8 : A.tmps[142]? = some (.slice (some ⟨gj, 0, none⟩) n Cj) := hR.own 8 _ _ rfl rfl
                                            have p9 := hpre 9 (by kernel_rfl)
                                            have e9 : s9 = .int .i64 (c : Int) := hF.get 9 _ rfl (.inr p9)
                                            subst e9
                                            have r9 : A.tmps[143]? = some (.int .i64 (c : Int)) := hR.own 9 _ _ rfl rfl
                                            refine step_of ⟨some 144, _, _, _, _, _⟩ rfl (fun K' hK => ?_)
                                            go_simp
                                            exact hK.out _ _ ⟨_, hF.pure hok hla hpre rfl (Below.refl _ _), rfl⟩
                                  · replace hge : 11 ≤ i := hgt
                                    clear hgt
                                    rcases Nat.lt_or_ge i 16 with hlt | hgt
                                    · replace hi := hlt
                                      clear hlt
                                      rcases Nat.lt_or_ge i 13 with hlt | hgt
                                      · replace hi := hlt
                                        clear hlt
                                        rcases Nat.lt_or_ge i 12 with hlt | hgt
                                        · replace hi := hlt
                                          clear hlt
                                          obtain rfl := eqi hi hge
                                          have p10 := hpre 10 (by kernel_rfl)
                                          have e10 : s10 = .pointer (some ⟨gj, c * 2, none⟩) := hF.get 10 _ rfl (.inr p10)
                                          subst e10
                                          have r10 : A.tmps[144]? = some (.pointer (some ⟨gj, c * 2, none⟩)) := hR.own 10 _ _ rfl rfl
                                          have c0 := cell_below HC0.out (below_none hF.low)
                                          have c1 := cell_below HC1.out (below_none hF.low)
                                          refine step_of ⟨some 145, _, _, _, _, _⟩ rfl (fun K' hK => ?_)
                                          go_simp
                                          exact hK.out _ _ ⟨_, hF.pure hok hla hpre rfl (Below.refl _ _), rfl⟩
                                        · replace hge : 12 ≤ i := hgt
                                          clear hgt
                                          obtain rfl := eqi hi hge
                                          have ro12 : A.tmps[12]? = some (.pointer (some ⟨b12, 0, none⟩)) := hR.out 3 _ rfl
                                          have hcc := (two_at (keep_block H12.out (below_none hF.low))).1
                                          have cH120 := hcc.1
                                          have cH121 := hcc.2
                                          clear hcc
                                          refine step_of ⟨some 146, _, _, _, _, _⟩ rfl (fun K' hK => ?_)
                                          go_simp
                                          exact hK.out _ _ ⟨_, hF.pure hok hla hpre rfl (Below.refl _ _), rfl⟩
                                      · replace hge : 13 ≤ i := hgt
                                        clear hgt
                                        rcases Nat.lt_or_ge i 14 with hlt | hgt
                                        · replace hi := hlt
                                          clear hlt
                                          obtain rfl := eqi hi hge
                                          have ro0 : A.tmps[0]? = some (.slice (some ⟨bm, 0, none⟩) n C) := hR.out 0 _ rfl
                                          refine step_of ⟨some 147, _, _, _, _, _⟩ rfl (fun K' hK => ?_)
                                          go_simp
                                          exact hK.out _ _ ⟨_, hF.pure hok hla hpre rfl (Below.refl _ _), rfl⟩
                                        · replace hge : 14 ≤ i := hgt
                                          clear hgt
                                          rcases Nat.lt_or_ge i 15 with hlt | hgt
                                          · replace hi := hlt
                                            clear hlt
                                            obtain rfl := eqi hi hge
                                            have ro9 : A.tmps[9]? = some (.int .i64 (i : Int)) := hR.out 4 _ rfl
                                            refine step_of ⟨some 148, _, _, _, _, _⟩ rfl (fun K' hK => ?_)
                                            go_simp
                                            exact hK.out _ _ ⟨_, hF.pure hok hla hpre rfl (Below.refl _ _), rfl⟩
                                          · replace hge : 15 ≤ i := hgt
                                            clear hgt
                                            obtain rfl := eqi hi hge
                                            have p13 := hpre 13 (by kernel_rfl)
                                            have e13 : s13 = .slice (some ⟨bm, 0, none⟩) n C := hF.get 13 _ rfl (.inr p13)
                                            subst e13
                                            have r13 : A.tmps[147]? = some (.slice (some ⟨bm, 0, none⟩) n C) := hR.own 13 _ _ rfl rfl
                                            have p14 := hpre 14 (by kernel_rfl)
                                            have e14 : s14 = .int .i64 (i : Int) := hF.get 14 _ rfl (.inr p14)
                                            subst e14
                                            have r14 : A.tmps[148]? = some (.int .i64 (i : Int)) := hR.own 14 _ _ rfl rfl
                                            refine step_of ⟨some 149, _, _, _, _, _⟩ rfl (fun K' hK => ?_)
                                            go_simp
                                            exact hK.out _ _ ⟨_, hF.pure hok hla hpre rfl (Below.refl _ _), rfl⟩
                                    · replace hge : 16 ≤ i := hgt
                                      clear hgt
                                      rcases Nat.lt_or_ge i 19 with hlt | hgt
                                      · replace hi := hlt
                                        clear hlt
                                        rcases Nat.lt_or_ge i 17 with hlt | hgt
                                        · replace hi := hlt
                                          clear hlt
                                          obtain rfl := eqi hi hge
                                          have p15 := hpre 15 (by kernel_rfl)
                                          have e15 : s15 = .pointer (some ⟨bm, i, none⟩) := hF.get 15 _ rfl (.inr p15)
                                          subst e15
                                          have r15 : A.tmps[149]? = some (.pointer (some ⟨bm, i, none⟩)) := hR.own 15 _ _ rfl rfl
                                          have y0 := cell_below HYgi.out (below_none hF.low)
                                          refine step_of ⟨some 150, _, _, _, _, _⟩ rfl (fun K' hK => ?_)
                                          go_simp
                                          exact hK.out _ _ ⟨_, hF.pure hok hla hpre rfl (Below.refl _ _), rfl⟩
                                        · replace hge : 17 ≤ i := hgt
                                          clear hgt
                                          rcases Nat.lt_or_ge i 18 with hlt | hgt
                                          · replace hi := hlt
                                            clear hlt
                                            obtain rfl := eqi hi hge
                                            have ro13 : A.tmps[13]? = some (.int .i64 (c : Int)) := hR.out 2 _ rfl
                                            refine step_of ⟨some 151, _, _, _, _, _⟩ rfl (fun K' hK => ?_)
                                            go_simp
                                            exact hK.out _ _ ⟨_, hF.pure hok hla hpre rfl (Below.refl _ _), rfl⟩
                                          · replace hge : 18 ≤ i := hgt
                                            clear hgt
                                            obtain rfl := eqi hi hge
                                            have p16 := hpre 16 (by kernel_rfl)
                                            have e16 : s16 = .slice (some ⟨gi, 0, none⟩) n Ci := hF.get 16 _ rfl (.inr p16)
                                            subst e16
                                            have r16 : A.tmps[150]? = some (.slice (some ⟨gi, 0, none⟩) n Ci) := hR.own 16 _ _ rfl rfl
                                            have p17 := hpre 17 (by kernel_rfl)
                                            have e17 : s17 = .int .i64 (c : Int) := hF.get 17 _ rfl (.inr p17)
                                            subst e17
                                            have r17 : A.tmps[151]? = some (.int .i64 (c : Int)) := hR.own 17 _ _ rfl rfl
                                            refine step_of ⟨some 152, _, _, _, _, _⟩ rfl (fun K' hK => ?_)
                                            go_simp
                                            exact hK.out _ _ ⟨_, hF.pure hok hla hpre rfl (Below.refl _ _), rfl⟩
                                      · replace hge : 19 ≤ i := hgt
                                        clear hgt
                                        rcases Nat.lt_or_ge i 20 with hlt | hgt
                                        · replace hi := hlt
                                          clear hlt
                                          obtain rfl := eqi hi hge
                                          have p18 := hpre 18 (by kernel_rfl)
                                          have e18 : s18 = .pointer (some ⟨gi, c * 2, none⟩) := hF.get 18 _ rfl (.inr p18)
                                          subst e18
                                          have r18 : A.tmps[152]? = some (.pointer (some ⟨gi, c * 2, none⟩)) := hR.own 18 _ _ rfl rfl
                                          have c0 := cell_below HD0.out (below_none hF.low)
                                          have c1 := cell_below HD1.out (below_none hF.low)
                                          refine step_of ⟨some 153, _, _, _, _, _⟩ rfl (fun K' hK => ?_)
                                          go_simp
                                          exact hK.out _ _ ⟨_, hF.pure hok hla hpre rfl (Below.refl _ _), rfl⟩
                                        · replace hge : 20 ≤ i := hgt
                                          clear hgt
                                          rcases Nat.lt_or_ge i 21 with hlt | hgt
                                          · replace hi := hlt
                                            clear hlt
                                            obtain rfl := eqi hi hge
                                            have p12 := hpre 12 (by kernel_rfl)
                                            have e12 : s12 = .agg #[.string (numS f), .string (denS f)] := hF.get 12 _ rfl (.inr p12)
                                            subst e12
                                            have r12 : A.tmps[146]? = some (.agg #[.string (numS f), .string (denS f)]) := hR.own 12 _ _ rfl rfl
                                            have p19 := hpre 19 (by kernel_rfl)
                                            have e19 : s19 = .agg #[.string (numS y), .string (denS y)] := hF.get 19 _ rfl (.inr p19)
                                            subst e19
                                            have r19 : A.tmps[153]? = some (.agg #[.string (numS y), .string (denS y)]) := hR.own 19 _ _ rfl rfl
                                            refine step_of ⟨some 154, _, _, _, _, _⟩ rfl (fun K' hK => ?_)
                                            go_simp
                                            go_at_call 132
                                            (with_reducible refine (TM.out _ ((HI.out.step (below_none hF.low)).env HE0.out HP.out)).mono ?_)
                                            rintro e Wq ⟨rfl, hq⟩
                                            exact hK.out _ _ ⟨_, hF.pure hok hla hpre rfl hq, rfl⟩
                                          · replace hge : 21 ≤ i := hgt
                                            clear hgt
                                            obtain rfl := eqi hi hge
                                            have p11 := hpre 11 (by kernel_rfl)
                                            have e11 : s11 = .agg #[.string (numS x), .string (denS x)] := hF.get 11 _ rfl (.inr p11)
                                            subst e11
                                            have r11 : A.tmps[145]? = some (.agg #[.string (numS x), .string (denS x)]) := hR.own 11 _ _ rfl rfl
                                            have p20 := hpre 20 (by kernel_rfl)
                                            have e20 : s20 = .agg #[.string (numS fy), .string (denS fy)] := hF.get 20 _ rfl (.inr p20)
                                            subst e20
                                            have r20 : A.tmps[154]? = some (.agg #[.string (numS fy), .string (denS fy)]) := hR.own 20 _ _ rfl rfl
                                            refine step_of ⟨some 155, _, _, _, _, _⟩ rfl (fun K' hK => ?_)
                                            go_simp
                                            go_at_call 135
                                            (with_reducible refine (TS.out _ ((HI.out.step (below_none hF.low)).env HE0.out HP.out)).mono ?_)
                                            rintro e Wq ⟨rfl, hq⟩
                                            exact hK.out _ _ ⟨_, hF.pure hok hla hpre rfl hq, rfl⟩
                                case hd =>
                                  rintro listed vs WB hF hall
                                  obtain ⟨s0, s1, s2, s3, s4, s5, s6, s7, s8, s9, s10, s11, s12, s13, s14, s15, s16, s17, s18, s19, s20, s21, s22, s23, hvs⟩ := exl_of 24 vs (fun l => vs = l) hF.len rfl
                                  subst hvs
                                  have e3 : s3 = .slice (some ⟨gj, 0, none⟩) n Cj := hF.get 3 _ rfl (.inr (hall 3 (by decide)))
                                  subst e3
                                  have e4 : s4 = .int .i64 (c : Int) := hF.get 4 _ rfl (.inr (hall 4 (by decide)))
                                  subst e4
                                  have e21 : s21 = .agg #[.string (numS z), .string (denS z)] := hF.get 21 _ rfl (.inr (hall 21 (by decide)))
                                  subst e21
                                  have hq := below_none hF.low
                                  replace H12 := Lib.hid (keep_block H12.out hq)
                                  replace HI := Lib.hid (HI.out.step hq)
                                  clear hq
                                  clear hF hall hok hna hla
                                  simp only [putO, layL]
                                  obtain ⟨y0, y1⟩ := (HI.out.m.rows j hjt).item hct
                                  have z0 := (HI.out.m.rows j hjt).free (c * 2)
                                  have z1 := (HI.out.m.rows j hjt).free (c * 2 + 1)
                                  rw [HEgj.out] at y0 y1 z0 z1
                                  refine rest_one 22 ⟨some 156, _, _, _, _, _⟩ rfl (by kernel_rfl) rfl (fun K' hK => ?_)
                                  go_simp
                                  refine hK.out _ _ ?_
                                  refine rest_one 23 ⟨none, _, _, _, _, _⟩ rfl (by kernel_rfl) rfl (fun K' hK => ?_)
                                  go_simp
                                  refine hK.out _ _ ?_
                                  refine rest_end ?_
                                  clear y0 y1 z0 z1
                                  have hq2 := HI.out.setm hjt hct (FM c)
                                  have h12 := (HI.out.var (c := c) H12.out HB12.out hjt z).1
                                  rw [← colsM_succ mj j FM c, HEgj.out, HZ.out] at hq2
                                  rw [HEgj.out] at h12
                                  have HI2 := Lib.hid hq2
                                  have H122 := Lib.hid h12
                                  clear hq2 h12 HI H12 TM TS HC0 HC1 HD0 HD1
                                  go_wp2_with fail
                                  go_meet
                                  case rel => exact ⟨rfl, rfl, H122.out, HI2.out⟩
                            case rest =>
                              obtain ⟨rfl, rfl, h12, hI⟩ := hcut
                              replace HI := Lib.hid hI
                              replace H12 := Lib.hid h12
                              clear hI h12
                              by_cases hv : inv = true
                              · subst hv
                                as_aux_lemma =>
                                  have hI2 := HI.out
                                  rw [show colN true c = c from rfl] at hI2
                                  replace HI := Lib.hid hI2
                                  clear hI2
                                  go_upto_region 25 with fail
                                  have hf1 := HBD.out.f_o OK.out h4 rfl hlt hjt hct
                                  have hf2 := HBD.out.f_o OK.out h4 rfl hlt hlt hct
                                  have hf3 := HBD.out.f_op OK.out h4 HDD.out rfl hlt HII.out hjt hct
                                  have hf4 := HBD.out.f_os OK.out h4 HDD.out rfl hlt HII.out hjt hct
                                  rw [HQ.out, HPP.out, HFF.out] at hf3 hf4
                                  obtain ⟨c0, c1⟩ := (HI.out.o.rows j hjt).item hct
                                  obtain ⟨d0, d1⟩ := (HI.out.o.rows i hlt).item hct
                                  rw [colsM_at (.inr (Nat.le_refl c)), (HO1.out rfl c).1] at c0 c1
                                  rw [colsM_at (.inl (Ne.symm HNE.out)), (HO1.out rfl c).2] at d0 d1
                                  obtain ⟨Cj, ygj⟩ := HI.out.o.hd.at hjt
                                  obtain ⟨gj, egj⟩ : ∃ x, go j = x := ⟨_, rfl⟩
                                  rw [egj] at ygj
                                  have HYgj := Lib.hid ygj
                                  clear ygj
                                  obtain ⟨Ci, ygi⟩ := HI.out.o.hd.at hlt
                                  obtain ⟨gi, egi⟩ : ∃ x, go i = x := ⟨_, rfl⟩
                                  rw [egi] at ygi
                                  have HYgi := Lib.hid ygi
                                  clear ygi
                                  rw [egj] at c0 c1
                                  rw [egi] at d0 d1
                                  have HEgj := Lib.hid egj
                                  obtain ⟨x, hx⟩ : ∃ x, out j c = x := ⟨_, rfl⟩
                                  obtain ⟨y, hy⟩ : ∃ x, out i c = x := ⟨_, rfl⟩
                                  obtain ⟨fy, hfy⟩ : ∃ x, f * y = x := ⟨_, rfl⟩
                                  obtain ⟨z, hz⟩ : ∃ x, FO c = x := ⟨_, rfl⟩
                                  have hxz : x - fy = z := by rw [← hz, ← HFO.out, hx, hy, hfy]
                                  rw [hx] at hf1 hf4 c0 c1
                                  rw [hy] at hf2 hf3 hf4 d0 d1
                                  rw [hfy] at hf3 hf4
                                  rw [hxz] at hf4
                                  have TM := (fun W' ge => fm_mul f y W' HFIT.out hf2 (by rw [hfy]; exact hf3) ge)
                                  have TS := (fun W' ge => fm_sub x fy W' hf1 hf3 (by rw [hxz]; exact hf4) ge)
                                  rw [hfy, fracV_is f, fracV_is y, fracV_is fy] at TM
                                  rw [hxz, fracV_is x, fracV_is fy, fracV_is z] at TS
                                  replace TM := Lib.hid TM
                                  replace TS := Lib.hid TS
                                  have HZ := Lib.hid hz
                                  have HC0 := Lib.hid c0
                                  have HC1 := Lib.hid c1
                                  have HD0 := Lib.hid d0
                                  have HD1 := Lib.hid d1
                                  have HCC0 := Lib.hid hc0
                                  clear c0 c1 d0 d1 hf1 hf2 hf3 hf4 hx hy hfy hz hxz egj egi
                                  go_wp2_with fail
                                  have hok : okB 24 (elim_anyKs25 f x y fy z n bo C i j c gi gj Ci Cj b12) = true := by kernel_rfl
                                  have hna := noAny_of (ks := (elim_anyKs25 f x y fy z n bo C i j c gi gj Ci Cj b12)) (by kernel_rfl)
                                  have hla := lasts_of hna
                                  refine wp_region_facts_abs (row := none) (w := wc) 22 2 24 [22, 23] (elim_anyKs25 f x y fy z n bo C i j c gi gj Ci Cj b12) [some 158, some 159, some 160, some 161, some 162, some 163, some 164, some 165, some 166, some 167, some 168, some 169, some 170, some 171, some 172, some 173, some 174, some 175, some 176, some 177, some 178, some 179, some 180, none] [(7, .slice (some ⟨bo, 0, none⟩) n n), (11, .int .i64 (j : Int)), (13, .int .i64 (c : Int)), (12, .pointer (some ⟨b12, 0, none⟩)), (9, .int .i64 (i : Int))] 220 (by kernel_rfl) (by kernel_rfl) (by kernel_rfl) rfl rfl (by decide) rfl (by kernel_rfl) rfl (Nat.le_of_eq rfl) rfl ?ho [u158, u159, u160, u161, u162, u163, u164, u165, u166, u167, u168, u169, u170, u171, u172, u173, u174, u175, u176, u177, u178, u179, u180, undef] ?h00 (Fs.start rfl rfl) ?hs ?hd
                                  case ho =>
                                    intro k x hk
                                    match k, hk with
                                    | 0, hk => have hk := Option.some.inj hk; subst hk; rfl
                                    | 1, hk => have hk := Option.some.inj hk; subst hk; rfl
                                    | 2, hk => have hk := Option.some.inj hk; subst hk; rfl
                                    | 3, hk => have hk := Option.some.inj hk; subst hk; rfl
                                    | 4, hk => have hk := Option.some.inj hk; subst hk; rfl
                                    | _ + 5, hk => exact absurd hk (by simp)
                                  case h00 => simp only [putO, layL]
                                  case hs =>
                                    rintro A listed vs Wr hF hR i hi hun hpre
                                    obtain ⟨s0, s1, s2, s3, s4, s5, s6, s7, s8, s9, s10, s11, s12, s13, s14, s15, s16, s17, s18, s19, s20, s21, s22, s23, hvs⟩ := exl_of 24 vs (fun l => vs = l) hF.len rfl
                                    subst hvs
                                    have hge := Nat.zero_le i
                                    rcases Nat.lt_or_ge i 11 with hlt | hgt
                                    · replace hi := hlt
                                      clear hlt
                                      rcases Nat.lt_or_ge i 5 with hlt | hgt
                                      · replace hi := hlt
                                        clear hlt
                                        rcases Nat.lt_or_ge i 2 with hlt | hgt
                                        · replace hi := hlt
                                          clear hlt
                                          rcases Nat.lt_or_ge i 1 with hlt | hgt
                                          · replace hi := hlt
                                            clear hlt
                                            obtain rfl := eqi hi hge
                                            have ro7 : A.tmps[7]? = some (.slice (some ⟨bo, 0, none⟩) n n) := hR.out 0 _ rfl
                                            refine step_of ⟨some 158, _, _, _, _, _⟩ rfl (fun K' hK => ?_)
                                            go_simp
                                            exact hK.out _ _ ⟨_, hF.pure hok hla hpre rfl (Below.refl _ _), rfl⟩
                                          · replace hge : 1 ≤ i := hgt
                                            clear hgt
                                            obtain rfl := eqi hi hge
                                            have ro11 : A.tmps[11]? = some (.int .i64 (j : Int)) := hR.out 1 _ rfl
                                            refine step_of ⟨some 159, _, _, _, _, _⟩ rfl (fun K' hK => ?_)
                                            go_simp
                                            exact hK.out _ _ ⟨_, hF.pure hok hla hpre rfl (Below.refl _ _), rfl⟩
                                        · replace hge : 2 ≤ i := hgt
                                          clear hgt
                                          rcases Nat.lt_or_ge i 3 with hlt | hgt
                                          · replace hi := hlt
                                            clear hlt
                                            obtain rfl := eqi hi hge
                                            have p0 := hpre 0 (by kernel_rfl)
                                            have e0 : s0 = .slice (some ⟨bo, 0, none⟩) n n := hF.get 0 _ rfl (.inr p0)
                                            subst e0
                                            have r0 : A.tmps[158]? = some (.slice (some ⟨bo, 0, none⟩) n n) := hR.own 0 _ _ rfl rfl
                                            have p1 := hpre 1 (by kernel_rfl)
                                            have e1 : s1 = .int .i64 (j : Int) := hF.get 1 _ rfl (.inr p1)
                                            subst e1
                                            have r1 : A.tmps[159]? = some (.int .i64 (j : Int)) := hR.own 1 _ _ rfl rfl
                                            refine step_of ⟨some 160, _, _, _, _, _⟩ rfl (fun K' hK => ?_)
                                            go_simp
                                            exact hK.out _ _ ⟨_, hF.pure hok hla hpre rfl (Below.refl _ _), rfl⟩
                                          · replace hge : 3 ≤ i := hgt
                                            clear hgt
                                            rcases Nat.lt_or_ge i 4 with hlt | hgt
                                            · replace hi := hlt
                                              clear hlt
                                              obtain rfl := eqi hi hge
                                              have p2 := hpre 2 (by kernel_rfl)
                                              have e2 : s2 = .pointer (some ⟨bo, j, none⟩) := hF.get 2 _ rfl (.inr p2)
                                              subst e2
                                              have r2 : A.tmps[160]? = some (.pointer (some ⟨bo, j, none⟩)) := hR.own 2 _ _ rfl rfl
                                              have y0 := cell_below HYgj.out (below_none hF.low)
                                              refine step_of ⟨some 161, _, _, _, _, _⟩ rfl (fun K' hK => ?_)
                                              go_simp
                                              exact hK.out _ _ ⟨_, hF.pure hok hla hpre rfl (Below.refl _ _), rfl⟩
                                            · replace hge : 4 ≤ i := hgt
                                              clear hgt
                                              obtain rfl := eqi hi hge
                                              have ro13 : A.tmps[13]? = some (.int .i64 (c : Int)) := hR.out 2 _ rfl
                                              refine step_of ⟨some 162, _, _, _, _, _⟩ rfl (fun K' hK => ?_)
                                              go_simp
                                              exact hK.out _ _ ⟨_, hF.pure hok hla hpre rfl (Below.refl _ _), rfl⟩
                                      · replace hge : 5 ≤ i := hgt
                                        clear hgt
                                        rcases Nat.lt_or_ge i 8 with hlt | hgt
                                        · replace hi := hlt
                                          clear hlt
                                          rcases Nat.lt_or_ge i 6 with hlt | hgt
                                          · replace hi := hlt
                                            clear hlt
                                            obtain rfl := eqi hi hge
                                            have ro7 : A.tmps[7]? = some (.slice (some ⟨bo, 0, none⟩) n n) := hR.out 0 _ rfl
                                            refine step_of ⟨some 163, _, _, _, _, _⟩ rfl (fun K' hK => ?_)
                                            go_simp
                                            exact hK.out _ _ ⟨_, hF.pure hok hla hpre rfl (Below.refl _ _), rfl⟩
                                          · replace hge : 6 ≤ i := hgt
                                            clear hgt
                                            rcases Nat.lt_or_ge i 7 with hlt | hgt
                                            · replace hi := hlt
                                              clear hlt
                                              obtain rfl := eqi hi hge
                                              have ro11 : A.tmps[11]? = some (.int .i64 (j : Int)) := hR.out 1 _ rfl
                                              refine step_of ⟨some 164, _, _, _, _, _⟩ rfl (fun K' hK => ?_)
                                              go_simp
                                              exact hK.out _ _ ⟨_, hF.pure hok hla hpre rfl (Below.refl _ _), rfl⟩
                                            · replace hge : 7 ≤ i := hgt
                                              clear hgt
                                              obtain rfl := eqi hi hge
                                              have p5 := hpre 5 (by kernel_rfl)
                                              have e5 : s5 = .slice (some ⟨bo, 0, none⟩) n n := hF.get 5 _ rfl (.inr p5)
                                              subst e5
                                              have r5 : A.tmps[163]? = some (.slice (some ⟨bo, 0, none⟩) n n) := hR.own 5 _ _ rfl rfl
                                              have p6 := hpre 6 (by kernel_rfl)
                                              have e6 : s6 = .int .i64 (j : Int) := hF.get 6 _ rfl (.inr p6)
                                              subst e6
                                              have r6 : A.tmps[164]? = some (.int .i64 (j : Int)) := hR.own 6 _ _ rfl rfl
                                              refine step_of ⟨some 165, _, _, _, _, _⟩ rfl (fun K' hK => ?_)
                                              go_simp
                                              exact hK.out _ _ ⟨_, hF.pure hok hla hpre rfl (Below.refl _ _), rfl⟩
                                        · replace hge : 8 ≤ i := hgt
                                          clear hgt
                                          rcases Nat.lt_or_ge i 9 with hlt | hgt
                                          · replace hi := hlt
                                            clear hlt
                                            obtain rfl := eqi hi hge
                                            have p7 := hpre 7 (by kernel_rfl)
                                            have e7 : s7 = .pointer (some ⟨bo, j, none⟩) := hF.get 7 _ rfl (.inr p7)
                                            subst e7
                                            have r7 : A.tmps[165]? = some (.pointer (some ⟨bo, j, none⟩)) := hR.own 7 _ _ rfl rfl
                                            have y0 := cell_below HYgj.out (below_none hF.low)
                                            refine step_of ⟨some 166, _, _, _, _, _⟩ rfl (fun K' hK => ?_)
                                            go_simp
                                            exact hK.out _ _ ⟨_, hF.pure hok hla hpre rfl (Below.refl _ _), rfl⟩
                                          · replace hge : 9 ≤ i := hgt
                                            clear hgt
                                            rcases Nat.lt_or_ge i 10 with hlt | hgt
                                            · replace hi := hlt
                                              clear hlt
                                              obtain rfl := eqi hi hge
                                              have ro13 : A.tmps[13]? = some (.int .i64 (c : Int)) := hR.out 2 _ rfl
                                              refine step_of ⟨some 167, _, _, _, _, _⟩ rfl (fun K' hK => ?_)
                                              go_simp
                                              exact hK.out _ _ ⟨_, hF.pure hok hla hpre rfl (Below.refl _ _), rfl⟩
                                            · replace hge : 10 ≤ i := hgt
                                              clear hgt
                                              obtain rfl := eqi hi hge
                                              have p8 := hpre 8 (by kernel_rfl)
                                              have e8 : s8 = .slice (some ⟨gj, 0, none⟩) n Cj := hF.get 8 _ rfl (.inr p8)
                                              subst e8
                                              have r8 : A.tmps[166]? = some (.slice (some ⟨gj, 0, none⟩) n Cj) := hR.own 8 _ _ rfl rfl
                                              have p9 := hpre 9 (by kernel_rfl)
                                              have e9 : s9 = .int .i64 (c : Int) := hF.get 9 _ rfl (.inr p9)
                                              subst e9
                                              have r9 : A.tmps[167]? = some (.int .i64 (c : Int)) := hR.own 9 _ _ rfl rfl
                                              refine step_of ⟨some 168, _, _, _, _, _⟩ rfl (fun K' hK => ?_)
                                              go_simp
                                              exact hK.out _ _ ⟨_, hF.pure hok hla hpre rfl (Below.refl _ _), rfl⟩
                                    · replace hge : 11 ≤ i := hgt
                                      clear hgt
                                      rcases Nat.lt_or_ge i 16 with hlt | hgt
                                      · replace hi := hlt
                                        clear hlt
                                        rcases Nat.lt_or_ge i 13 with hlt | hgt
                                        · replace hi := hlt
                                          clear hlt
                                          rcases Nat.lt_or_ge i 12 with hlt | hgt
                                          · replace hi := hlt
                                            clear hlt
                                            obtain rfl := eqi hi hge
                                            have p10 := hpre 10 (by kernel_rfl)
                                            have e10 : s10 = .pointer (some ⟨gj, c * 2, none⟩) := hF.get 10 _ rfl (.inr p10)
                                            subst e10
                                            have r10 : A.tmps[168]? = some (.pointer (some ⟨gj, c * 2, none⟩)) := hR.own 10 _ _ rfl rfl
                                            have c0 := cell_below HC0.out (below_none hF.low)
                                            have c1 := cell_below HC1.out (below_none hF.low)
                                            refine step_of ⟨some 169, _, _, _, _, _⟩ rfl (fun K' hK => ?_)
                                            go_simp
                                            exact hK.out _ _ ⟨_, hF.pure hok hla hpre rfl (Below.refl _ _), rfl⟩
                                          · replace hge : 12 ≤ i := hgt
                                            clear hgt
                                            obtain rfl := eqi hi hge
                                            have ro12 : A.tmps[12]? = some (.pointer (some ⟨b12, 0, none⟩)) := hR.out 3 _ rfl
                                            have hcc := (two_at (keep_block H12.out (below_none hF.low))).1
                                            have cH120 := hcc.1
                                            have cH121 := hcc.2
                                            clear hcc
                                            refine step_of ⟨some 170, _, _, _, _, _⟩ rfl (fun K' hK => ?_)
                                            go_simp
                                            exact hK.out _ _ ⟨_, hF.pure hok hla hpre rfl (Below.refl _ _), rfl⟩
                                        · replace hge : 13 ≤ i := hgt
                                          clear hgt
                                          rcases Nat.lt_or_ge i 14 with hlt | hgt
                                          · replace hi := hlt
                                            clear hlt
                                            obtain rfl := eqi hi hge
                                            have ro7 : A.tmps[7]? = some (.slice (some ⟨bo, 0, none⟩) n n) := hR.out 0 _ rfl
                                            refine step_of ⟨some 171, _, _, _, _, _⟩ rfl (fun K' hK => ?_)
                                            go_simp
                                            exact hK.out _ _ ⟨_, hF.pure hok hla hpre rfl (Below.refl _ _), rfl⟩
                                          · replace hge : 14 ≤ i := hgt
                                            clear hgt
                                            rcases Nat.lt_or_ge i 15 with hlt | hgt
                                            · replace hi := hlt
                                              clear hlt
                                              obtain rfl := eqi hi hge
                                              have ro9 : A.tmps[9]? = some (.int .i64 (i : Int)) := hR.out 4 _ rfl
                                              refine step_of ⟨some 172, _, _, _, _, _⟩ rfl (fun K' hK => ?_)
                                              go_simp
                                              exact hK.out _ _ ⟨_, hF.pure hok hla hpre rfl (Below.refl _ _), rfl⟩
                                            · replace hge : 15 ≤ i := hgt
                                              clear hgt
                                              obtain rfl := eqi hi hge
                                              have p13 := hpre 13 (by kernel_rfl)
                                              have e13 : s13 = .slice (some ⟨bo, 0, none⟩) n n := hF.get 13 _ rfl (.inr p13)
                                              subst e13
                                              have r13 : A.tmps[171]? = some (.slice (some ⟨bo, 0, none⟩) n n) := hR.own 13 _ _ rfl rfl
                                              have p14 := hpre 14 (by kernel_rfl)
                                              have e14 : s14 = .int .i64 (i : Int) := hF.get 14 _ rfl (.inr p14)
                                              subst e14
                                              have r14 : A.tmps[172]? = some (.int .i64 (i : Int)) := hR.own 14 _ _ rfl rfl
                                              refine step_of ⟨some 173, _, _, _, _, _⟩ rfl (fun K' hK => ?_)
                                              go_simp
                                              exact hK.out _ _ ⟨_, hF.pure hok hla hpre rfl (Below.refl _ _), rfl⟩
                                      · replace hge : 16 ≤ i := hgt
                                        clear hgt
                                        rcases Nat.lt_or_ge i 19 with hlt | hgt
                                        · replace hi := hlt
                                          clear hlt
                                          rcases Nat.lt_or_ge i 17 with hlt | hgt
                                          · replace hi := hlt
                                            clear hlt
                                            obtain rfl := eqi hi hge
                                            have p15 := hpre 15 (by kernel_rfl)
                                            have e15 : s15 = .pointer (some ⟨bo, i, none⟩) := hF.get 15 _ rfl (.inr p15)
                                            subst e15
                                            have r15 : A.tmps[173]? = some (.pointer (some ⟨bo, i, none⟩)) := hR.own 15 _ _ rfl rfl
                                            have y0 := cell_below HYgi.out (below_none hF.low)
                                            refine step_of ⟨some 174, _, _, _, _, _⟩ rfl (fun K' hK => ?_)
                                            go_simp
                                            exact hK.out _ _ ⟨_, hF.pure hok hla hpre rfl (Below.refl _ _), rfl⟩
                                          · replace hge : 17 ≤ i := hgt
                                            clear hgt
                                            rcases Nat.lt_or_ge i 18 with hlt | hgt
                                            · replace hi := hlt
                                              clear hlt
                                              obtain rfl := eqi hi hge
                                              have ro13 : A.tmps[13]? = some (.int .i64 (c : Int)) := hR.out 2 _ rfl
                                              refine step_of ⟨some 175, _, _, _, _, _⟩ rfl (fun K' hK => ?_)
                                              go_simp
                                              exact hK.out _ _ ⟨_, hF.pure hok hla hpre rfl (Below.refl _ _), rfl⟩
                                            · replace hge : 18 ≤ i := hgt
                                              clear hgt
                                              obtain rfl := eqi hi hge
                                              have p16 := hpre 16 (by kernel_rfl)
                                              have e16 : s16 = .slice (some ⟨gi, 0, none⟩) n Ci := hF.get 16 _ rfl (.inr p16)
                                              subst e16
                                              have r16 : A.tmps[174]? = some (.slice (some ⟨gi, 0, none⟩) n Ci) := hR.own 16 _ _ rfl rfl
                                              have p17 := hpre 17 (by kernel_rfl)
                                              have e17 : s17 = .int .i64 (c : Int) := hF.get 17 _ rfl (.inr p17)
                                              subst e17
                                              have r17 : A.tmps[175]? = some (.int .i64 (c : Int)) := hR.own 17 _ _ rfl rfl
                                              refine step_of ⟨some 176, _, _, _, _, _⟩ rfl (fun K' hK => ?_)
                                              go_simp
                                              exact hK.out _ _ ⟨_, hF.pure hok hla hpre rfl (Below.refl _ _), rfl⟩
                                        · replace hge : 19 ≤ i := hgt
                                          clear hgt
                                          rcases Nat.lt_or_ge i 20 with hlt | hgt
                                          · replace hi := hlt
                                            clear hlt
                                            obtain rfl := eqi hi hge
                                            have p18 := hpre 18 (by kernel_rfl)
                                            have e18 : s18 = .pointer (some ⟨gi, c * 2, none⟩) := hF.get 18 _ rfl (.inr p18)
                                            subst e18
                                            have r18 : A.tmps[176]? = some (.pointer (some ⟨gi, c * 2, none⟩)) := hR.own 18 _ _ rfl rfl
                                            have c0 := cell_below HD0.out (below_none hF.low)
                                            have c1 := cell_below HD1.out (below_none hF.low)
                                            refine step_of ⟨some 177, _, _, _, _, _⟩ rfl (fun K' hK => ?_)
                                            go_simp
                                            exact hK.out _ _ ⟨_, hF.pure hok hla hpre rfl (Below.refl _ _), rfl⟩
                                          · replace hge : 20 ≤ i := hgt
                                            clear hgt
                                            rcases Nat.lt_or_ge i 21 with hlt | hgt
                                            · replace hi := hlt
                                              clear hlt
                                              obtain rfl := eqi hi hge
                                              have p12 := hpre 12 (by kernel_rfl)
                                              have e12 : s12 = .agg #[.string (numS f), .string (denS f)] := hF.get 12 _ rfl (.inr p12)
                                              subst e12
                                              have r12 : A.tmps[170]? = some (.agg #[.string (numS f), .string (denS f)]) := hR.own 12 _ _ rfl rfl
                                              have p19 := hpre 19 (by kernel_rfl)
                                              have e19 : s19 = .agg #[.string (numS y), .string (denS y)] := hF.get 19 _ rfl (.inr p19)
                                              subst e19
                                              have r19 : A.tmps[177]? = some (.agg #[.string (numS y), .string (denS y)]) := hR.own 19 _ _ rfl rfl
                                              refine step_of ⟨some 178, _, _, _, _, _⟩ rfl (fun K' hK => ?_)
                                              go_simp
                                              go_at_call 132
                                              (with_reducible refine (TM.out _ ((HI.out.step (below_none hF.low)).env HE0.out HP.out)).mono ?_)
                                              rintro e Wq ⟨rfl, hq⟩
                                              exact hK.out _ _ ⟨_, hF.pure hok hla hpre rfl hq, rfl⟩
                                            · replace hge : 21 ≤ i := hgt
                                              clear hgt
                                              obtain rfl := eqi hi hge
                                              have p11 := hpre 11 (by kernel_rfl)
                                              have e11 : s11 = .agg #[.string (numS x), .string (denS x)] := hF.get 11 _ rfl (.inr p11)
                                              subst e11
                                              have r11 : A.tmps[169]? = some (.agg #[.string (numS x), .string (denS x)]) := hR.own 11 _ _ rfl rfl
                                              have p20 := hpre 20 (by kernel_rfl)
                                              have e20 : s20 = .agg #[.string (numS fy), .string (denS fy)] := hF.get 20 _ rfl (.inr p20)
                                              subst e20
                                              have r20 : A.tmps[178]? = some (.agg #[.string (numS fy), .string (denS fy)]) := hR.own 20 _ _ rfl rfl
                                              refine step_of ⟨some 179, _, _, _, _, _⟩ rfl (fun K' hK => ?_)
                                              go_simp
                                              go_at_call 135
                                              (with_reducible refine (TS.out _ ((HI.out.step (below_none hF.low)).env HE0.out HP.out)).mono ?_)
                                              rintro e Wq ⟨rfl, hq⟩
                                              exact hK.out _ _ ⟨_, hF.pure hok hla hpre rfl hq, rfl⟩
                                  case hd =>
                                    rintro listed vs WB hF hall
                                    obtain ⟨s0, s1, s2, s3, s4, s5, s6, s7, s8, s9, s10, s11, s12, s13, s14, s15, s16, s17, s18, s19, s20, s21, s22, s23, hvs⟩ := exl_of 24 vs (fun l => vs = l) hF.len rfl
                                    subst hvs
                                    have e3 : s3 = .slice (some ⟨gj, 0, none⟩) n Cj := hF.get 3 _ rfl (.inr (hall 3 (by decide)))
                                    subst e3
                                    have e4 : s4 = .int .i64 (c : Int) := hF.get 4 _ rfl (.inr (hall 4 (by decide)))
                                    subst e4
                                    have e21 : s21 = .agg #[.string (numS z), .string (denS z)] := hF.get 21 _ rfl (.inr (hall 21 (by decide)))
                                    subst e21
                                    have hq := below_none hF.low
                                    replace H12 := Lib.hid (keep_block H12.out hq)
                                    replace HI := Lib.hid (HI.out.step hq)
                                    clear hq
                                    clear hF hall hok hna hla
                                    simp only [putO, layL]
                                    obtain ⟨y0, y1⟩ := (HI.out.o.rows j hjt).item hct
                                    have z0 := (HI.out.o.rows j hjt).free (c * 2)
                                    have z1 := (HI.out.o.rows j hjt).free (c * 2 + 1)
                                    rw [HEgj.out] at y0 y1 z0 z1
                                    refine rest_one 22 ⟨some 180, _, _, _, _, _⟩ rfl (by kernel_rfl) rfl (fun K' hK => ?_)
                                    go_simp
                                    refine hK.out _ _ ?_
                                    refine rest_one 23 ⟨none, _, _, _, _, _⟩ rfl (by kernel_rfl) rfl (fun K' hK => ?_)
                                    go_simp
                                    refine hK.out _ _ ?_
                                    refine rest_end ?_
                                    clear y0 y1 z0 z1
                                    have hq2 := HI.out.seto hjt hct (FO c)
                                    have h12 := (HI.out.var (c := c) H12.out HB12.out hjt z).2
                                    rw [← colsM_succ oj j FO c, HEgj.out, HZ.out] at hq2
                                    rw [HEgj.out] at h12
                                    have HI2 := Lib.hid hq2
                                    have H122 := Lib.hid h12
                                    clear hq2 h12 HI H12 TM TS HC0 HC1 HD0 HD1
                                    go_wp2
                                    go_roundg (n - (c + 1))
                                    case measure => omega
                                    case rel => exact ⟨c + 1, by go_num, by omega, by omega, H122.out, HI2.out⟩
                              · have hv2 : inv = false := (Bool.not_eq_true inv).mp hv
                                as_aux_lemma =>
                                  subst hv2
                                  go_wp2
                                  go_roundg (n - (c + 1))
                                  case measure => omega
                                  case rel => exact ⟨c + 1, by go_num, by omega, by omega, H12.out, HI.out⟩
                          · have hce : decide ((c : Int) < (n : Int)) = false := decide_eq_false (by omega)
                            have hce2 : decide (c < n) = false := decide_eq_false hct
                            as_aux_lemma =>
                              have hcn : c = n := by omega
                              rw [hcn] at HI
                              clear hct hcn
                              have hd := row_done (n := n) HNE.out HX.out (by rw [HQ.out, HPP.out, HFF.out]) HMJ.out HOJ.out HFM.out HFO.out
                              have HI2 : Hid (ElI W base bm bo R D n gm go (rowsM inv i m m (j + 1)) (outR inv i m out (j + 1)) dp wr) := Lib.hid (HI.out.congr hd.1 hd.2)
                              clear hd HI
                              go_wp2
                              go_roundg (n - (j + 1))
                              case measure => omega
                              case rel => exact ⟨j + 1, by go_num, by omega, by omega, HI2.out⟩
                · have hje : decide ((j : Int) < (n : Int)) = false := decide_eq_false (by omega)
                  have hje2 : decide (j < n) = false := decide_eq_false hjt
                  have hjn : j = n := by omega
                  rw [hjn] at HI
                  have HS2 := Lib.hid (HS.out.next h4 hlt HII.out)
                  have HBD2 := Lib.hid (HBD.out.next HS.out OK.out h4 hlt HII.out HDD.out HDM.out)
                  have HEQ := Lib.hid (show d * m i i = dp by rw [HPP.out, HDP.out])
                  clear hjt hjn
                  go_wp2
                  go_roundg (n - (i + 1))
                  case measure => omega
                  case rel => exact ⟨i + 1, gm, go, rowsM inv i m m n, outR inv i m out n, s, dp, by go_num, by omega, by omega, HI.out, by rw [← HEQ.out]; exact HS2.out, by rw [← HEQ.out]; exact HBD2.out⟩
        · have hke : ((k : Int) == (n : Int)) = true := by simp only [beq_iff_eq]; omega
          have hke2 : decide ((k : Int) = (n : Int)) = true := decide_eq_true (by omega)
          have hdet := HS.out.none h4 hlt (fun r h0 h1 => HZ.out r h0 (by omega))
          have HDET := Lib.hid hdet
          have HE := Lib.hid (HI.out.env HE0.out HP.out)
          clear hkn hdet
          go_wp2_with fail
          refine (T0.out _ HE.out).mono ?_
          rintro e w5 ⟨rfl, hb⟩
          replace HI := Lib.hid (HI.out.step hb)
          clear hb HE
          obtain ⟨⟨x0, x1⟩, f0, f1⟩ := two_at HI.out.res
          have hset := set2_at HI.out.res (.string (numS q0)) (.string (denS q0))
          obtain ⟨⟨r0, r1⟩, _⟩ := two_at hset
          have HL := Lib.hid (HI.out.low.trans (put2_below HI.out.ge.2.1 w5 (.string (numS q0)) (.string (denS q0))))
          clear hset HI
          go_wp2
          refine bodyPost_ret (v := .tuple #[.agg #[.string (numS q0), .string (denS q0)], .slice none 0 0]) (by simp [results, Tryz.results171, go_sem, r0, r1]) rfl ⟨.inl ⟨HDET.out, by rw [HQ0.out]⟩, HL.out⟩
    · have hde : decide ((i : Int) < (n : Int)) = false := decide_eq_false (by omega)
      have hde2 : decide (i < n) = false := decide_eq_false hlt
      have hin : i = n := by omega
      rw [hin] at HS HBD
      clear hlt hin
      have HDN := Lib.hid (HS.out.done h4)
      go_upto_region 29 with fail
      by_cases hv : inv = true
      · subst hv
        as_aux_lemma =>
          have HNZ := Lib.hid HS.out.piv
          have HOI := Lib.hid (show ElI W base bm bo R D n gm go m (divM out m 0) d _ by rw [divM_zero]; exact HI.out)
          clear HI
          go_wp2_with fail
          go_loopg [14, 15] n (fun gh v14 v15 wx => ∃ k : Nat, v14 = .int .i64 (k : Int) ∧ k ≤ n ∧ gh = n - k ∧ ElI W base bm bo R D n gm go m (divM out m k) d wx)
          case atStart => exact ⟨0, rfl, Nat.zero_le _, rfl, HOI.out⟩
          case round =>
            clear HOI
            obtain ⟨k, rfl, hk, hgk, hI⟩ := hrel
            have HI := Lib.hid hI
            clear hI
            by_cases hkt : k < n
            · skip
              have hke : decide ((k : Int) < (n : Int)) = true := decide_eq_true (by omega)
              have hke2 : decide (k < n) = true := decide_eq_true hkt
              have hk0 : (0 : Int) ≤ (k : Int) := by omega
              have hk1 : (k : Int) < (n : Int) := by omega
              have hkw : IntKind.i64.wrap ((k : Int) + 1) = (k : Int) + 1 := IntWalk.i64_in _ (by omega)
              obtain ⟨ok', hok'⟩ : ∃ x, divM out m k = x := ⟨_, rfl⟩
              obtain ⟨FV, hFV⟩ : ∃ F : Nat → Rat, (fun c => out k c / m k k) = F := ⟨_, rfl⟩
              have HOK := Lib.hid hok'
              have HFV := Lib.hid (show ∀ c, out k c / m k k = FV c from fun c => by rw [← hFV])
              have HKC := Lib.hid (show ∀ c, ok' k c = out k c from fun c => by rw [← hok']; exact if_neg (by omega))
              rw [hok'] at HI
              clear hok' hFV
              have HJ0 := Lib.hid (show ElI W base bm bo R D n gm go m (colsM ok' k FV 0) d _ by rw [colsM_zero]; exact HI.out)
              clear HI
              go_wp2_with fail
              go_loopg [15, 193] n (fun gh v15 v193 wx => ∃ c : Nat, v193 = .int .i64 (c : Int) ∧ c ≤ n ∧ gh = n - c ∧ ElI W base bm bo R D n gm go m (colsM ok' k FV c) d wx)
              case atStart => exact ⟨0, rfl, Nat.zero_le _, rfl, HJ0.out⟩
              case round =>
                clear HJ0
                obtain ⟨c, rfl, hc, hgc, hI⟩ := hrel
                have HI := Lib.hid hI
                clear hI
                by_cases hct : c < n
                · skip
                  have hce : decide ((c : Int) < (n : Int)) = true := decide_eq_true (by omega)
                  have hce2 : decide (c < n) = true := decide_eq_true hct
                  have hc0 : (0 : Int) ≤ (c : Int) := by omega
                  have hc1 : (c : Int) < (n : Int) := by omega
                  have hcw : IntKind.i64.wrap ((c : Int) + 1) = (c : Int) + 1 := IntWalk.i64_in _ (by omega)
                  have hf1 := HBD.out.f_eo OK.out h1 h4 hkt hct
                  obtain ⟨hf3, hf2⟩ := HBD.out.f_e OK.out h4 HDD.out HDM.out HNZ.out hkt hct
                  obtain ⟨c0, c1⟩ := (HI.out.o.rows k hkt).item hct
                  obtain ⟨d0, d1⟩ := (HI.out.m.rows k hkt).item hkt
                  rw [colsM_at (.inr (Nat.le_refl c)), HKC.out] at c0 c1
                  have hpz := HNZ.out k hkt
                  obtain ⟨C1, y1⟩ := HI.out.o.hd.at hkt
                  obtain ⟨C2, y2⟩ := HI.out.m.hd.at hkt
                  obtain ⟨go1, ego⟩ : ∃ x, go k = x := ⟨_, rfl⟩
                  obtain ⟨gm1, egm⟩ : ∃ x, gm k = x := ⟨_, rfl⟩
                  rw [ego] at y1 c0 c1
                  rw [egm] at y2 d0 d1
                  obtain ⟨x, hx⟩ : ∃ x, out k c = x := ⟨_, rfl⟩
                  obtain ⟨y, hy⟩ : ∃ x, m k k = x := ⟨_, rfl⟩
                  obtain ⟨z, hz⟩ : ∃ x, FV c = x := ⟨_, rfl⟩
                  have hxz : x / y = z := by rw [← hz, ← HFV.out, hx, hy]
                  rw [hx] at hf1 hf3 c0 c1
                  rw [hy] at hf2 hf3 hpz d0 d1
                  rw [hxz] at hf3
                  have TD := (fun W' ge => fm_div x y W' hf1 hf2 hpz (by rw [hxz]; exact hf3) ge)
                  rw [hxz, fracV_is x, fracV_is y, fracV_is z] at TD
                  replace TD := Lib.hid TD
                  have HZ := Lib.hid hz
                  have HEG := Lib.hid ego
                  have HY1 := Lib.hid y1
                  have HY2 := Lib.hid y2
                  have HC0 := Lib.hid c0
                  have HC1 := Lib.hid c1
                  have HD0 := Lib.hid d0
                  have HD1 := Lib.hid d1
                  clear c0 c1 d0 d1 y1 y2 hf1 hf2 hf3 hx hy hz hxz ego egm hpz
                  go_upto_region 35 with fail
                  as_aux_lemma =>
                    go_wp2_with fail
                    have hok : okB 22 (elim_anyKs35 x y z n bm bo C k c go1 gm1 C1 C2) = true := by kernel_rfl
                    have hna := noAny_of (ks := (elim_anyKs35 x y z n bm bo C k c go1 gm1 C1 C2)) (by kernel_rfl)
                    have hla := lasts_of hna
                    refine wp_region_facts_abs (row := none) (w := wr) 20 2 22 [20, 21] (elim_anyKs35 x y z n bm bo C k c go1 gm1 C1 C2) [some 196, some 197, some 198, some 199, some 200, some 201, some 202, some 203, some 204, some 205, some 206, some 207, some 208, some 209, some 210, some 211, some 212, some 213, some 214, some 215, some 216, none] [(7, .slice (some ⟨bo, 0, none⟩) n n), (14, .int .i64 (k : Int)), (15, .int .i64 (c : Int)), (0, .slice (some ⟨bm, 0, none⟩) n C)] 220 (by kernel_rfl) (by kernel_rfl) (by kernel_rfl) rfl rfl (by decide) rfl (by kernel_rfl) rfl (Nat.le_of_eq rfl) rfl ?ho [u196, u197, u198, u199, u200, u201, u202, u203, u204, u205, u206, u207, u208, u209, u210, u211, u212, u213, u214, u215, u216, undef] ?h00 (Fs.start rfl rfl) ?hs ?hd
                    case ho =>
                      intro k x hk
                      match k, hk with
                      | 0, hk => have hk := Option.some.inj hk; subst hk; rfl
                      | 1, hk => have hk := Option.some.inj hk; subst hk; rfl
                      | 2, hk => have hk := Option.some.inj hk; subst hk; rfl
                      | 3, hk => have hk := Option.some.inj hk; subst hk; rfl
                      | _ + 4, hk => exact absurd hk (by simp)
                    case h00 => simp only [putO, layL]
                    case hs =>
                      rintro A listed vs Wr hF hR i hi hun hpre
                      obtain ⟨s0, s1, s2, s3, s4, s5, s6, s7, s8, s9, s10, s11, s12, s13, s14, s15, s16, s17, s18, s19, s20, s21, hvs⟩ := exl_of 22 vs (fun l => vs = l) hF.len rfl
                      subst hvs
                      have hge := Nat.zero_le i
                      rcases Nat.lt_or_ge i 10 with hlt | hgt
                      · replace hi := hlt
                        clear hlt
                        rcases Nat.lt_or_ge i 5 with hlt | hgt
                        · replace hi := hlt
                          clear hlt
                          rcases Nat.lt_or_ge i 2 with hlt | hgt
                          · replace hi := hlt
                            clear hlt
                            rcases Nat.lt_or_ge i 1 with hlt | hgt
                            · replace hi := hlt
                              clear hlt
                              obtain rfl := eqi hi hge
                              have ro7 : A.tmps[7]? = some (.slice (some ⟨bo, 0, none⟩) n n) := hR.out 0 _ rfl
                              refine step_of ⟨some 196, _, _, _, _, _⟩ rfl (fun K' hK => ?_)
                              go_simp
                              exact hK.out _ _ ⟨_, hF.pure hok hla hpre rfl (Below.refl _ _), rfl⟩
                            · replace hge : 1 ≤ i := hgt
                              clear hgt
                              obtain rfl := eqi hi hge
                              have ro14 : A.tmps[14]? = some (.int .i64 (k : Int)) := hR.out 1 _ rfl
                              refine step_of ⟨some 197, _, _, _, _, _⟩ rfl (fun K' hK => ?_)
                              go_simp
                              exact hK.out _ _ ⟨_, hF.pure hok hla hpre rfl (Below.refl _ _), rfl⟩
                          · replace hge : 2 ≤ i := hgt
                            clear hgt
                            rcases Nat.lt_or_ge i 3 with hlt | hgt
                            · replace hi := hlt
                              clear hlt
                              obtain rfl := eqi hi hge
                              have p0 := hpre 0 (by kernel_rfl)
                              have e0 : s0 = .slice (some ⟨bo, 0, none⟩) n n := hF.get 0 _ rfl (.inr p0)
                              subst e0
                              have r0 : A.tmps[196]? = some (.slice (some ⟨bo, 0, none⟩) n n) := hR.own 0 _ _ rfl rfl
                              have p1 := hpre 1 (by kernel_rfl)
                              have e1 : s1 = .int .i64 (k : Int) := hF.get 1 _ rfl (.inr p1)
                              subst e1
                              have r1 : A.tmps[197]? = some (.int .i64 (k : Int)) := hR.own 1 _ _ rfl rfl
                              refine step_of ⟨some 198, _, _, _, _, _⟩ rfl (fun K' hK => ?_)
                              go_simp
                              exact hK.out _ _ ⟨_, hF.pure hok hla hpre rfl (Below.refl _ _), rfl⟩
                            · replace hge : 3 ≤ i := hgt
                              clear hgt
                              rcases Nat.lt_or_ge i 4 with hlt | hgt
                              · replace hi := hlt
                                clear hlt
                                obtain rfl := eqi hi hge
                                have p2 := hpre 2 (by kernel_rfl)
                                have e2 : s2 = .pointer (some ⟨bo, k, none⟩) := hF.get 2 _ rfl (.inr p2)
                                subst e2
                                have r2 : A.tmps[198]? = some (.pointer (some ⟨bo, k, none⟩)) := hR.own 2 _ _ rfl rfl
                                have y0 := cell_below HY1.out (below_none hF.low)
                                refine step_of ⟨some 199, _, _, _, _, _⟩ rfl (fun K' hK => ?_)
                                go_simp
                                exact hK.out _ _ ⟨_, hF.pure hok hla hpre rfl (Below.refl _ _), rfl⟩
                              · replace hge : 4 ≤ i := hgt
                                clear hgt
                                obtain rfl := eqi hi hge
                                have ro15 : A.tmps[15]? = some (.int .i64 (c : Int)) := hR.out 2 _ rfl
                                refine step_of ⟨some 200, _, _, _, _, _⟩ rfl (fun K' hK => ?_)
                                go_simp
                                exact hK.out _ _ ⟨_, hF.pure hok hla hpre rfl (Below.refl _ _), rfl⟩
                        · replace hge : 5 ≤ i := hgt
                          clear hgt
                          rcases Nat.lt_or_ge i 7 with hlt | hgt
                          · replace hi := hlt
                            clear hlt
                            rcases Nat.lt_or_ge i 6 with hlt | hgt
                            · replace hi := hlt
                              clear hlt
                              obtain rfl := eqi hi hge
                              have ro7 : A.tmps[7]? = some (.slice (some ⟨bo, 0, none⟩) n n) := hR.out 0 _ rfl
                              refine step_of ⟨some 201, _, _, _, _, _⟩ rfl (fun K' hK => ?_)
                              go_simp
                              exact hK.out _ _ ⟨_, hF.pure hok hla hpre rfl (Below.refl _ _), rfl⟩
                            · replace hge : 6 ≤ i := hgt
                              clear hgt
                              obtain rfl := eqi hi hge
                              have ro14 : A.tmps[14]? = some (.int .i64 (k : Int)) := hR.out 1 _ rfl
                              refine step_of ⟨some 202, _, _, _, _, _⟩ rfl (fun K' hK => ?_)
                              go_simp
                              exact hK.out _ _ ⟨_, hF.pure hok hla hpre rfl (Below.refl _ _), rfl⟩
                          · replace hge : 7 ≤ i := hgt
                            clear hgt
                            rcases Nat.lt_or_ge i 8 with hlt | hgt
                            · replace hi := hlt
                              clear hlt
                              obtain rfl := eqi hi hge
                              have p5 := hpre 5 (by kernel_rfl)
                              have e5 : s5 = .slice (some ⟨bo, 0, none⟩) n n := hF.get 5 _ rfl (.inr p5)
                              subst e5
                              have r5 : A.tmps[201]? = some (.slice (some ⟨bo, 0, none⟩) n n) := hR.own 5 _ _ rfl rfl
                              have p6 := hpre 6 (by kernel_rfl)
                              have e6 : s6 = .int .i64 (k : Int) := hF.get 6 _ rfl (.inr p6)
                              subst e6
                              have r6 : A.tmps[202]? = some (.int .i64 (k : Int)) := hR.own 6 _ _ rfl rfl
                              refine step_of ⟨some 203, _, _, _, _, _⟩ rfl (fun K' hK => ?_)
                              go_simp
                              exact hK.out _ _ ⟨_, hF.pure hok hla hpre rfl (Below.refl _ _), rfl⟩
                            · replace hge : 8 ≤ i := hgt
                              clear hgt
                              rcases Nat.lt_or_ge i 9 with hlt | hgt
                              · replace hi := hlt
                                clear hlt
                                obtain rfl := eqi hi hge
                                have p7 := hpre 7 (by kernel_rfl)
                                have e7 : s7 = .pointer (some ⟨bo, k, none⟩) := hF.get 7 _ rfl (.inr p7)
                                subst e7
                                have r7 : A.tmps[203]? = some (.pointer (some ⟨bo, k, none⟩)) := hR.own 7 _ _ rfl rfl
                                have y0 := cell_below HY1.out (below_none hF.low)
                                refine step_of ⟨some 204, _, _, _, _, _⟩ rfl (fun K' hK => ?_)
                                go_simp
                                exact hK.out _ _ ⟨_, hF.pure hok hla hpre rfl (Below.refl _ _), rfl⟩
                              · replace hge : 9 ≤ i := hgt
                                clear hgt
                                obtain rfl := eqi hi hge
                                have ro15 : A.tmps[15]? = some (.int .i64 (c : Int)) := hR.out 2 _ rfl
                                refine step_of ⟨some 205, _, _, _, _, _⟩ rfl (fun K' hK => ?_)
                                go_simp
                                exact hK.out _ _ ⟨_, hF.pure hok hla hpre rfl (Below.refl _ _), rfl⟩
                      · replace hge : 10 ≤ i := hgt
                        clear hgt
                        rcases Nat.lt_or_ge i 15 with hlt | hgt
                        · replace hi := hlt
                          clear hlt
                          rcases Nat.lt_or_ge i 12 with hlt | hgt
                          · replace hi := hlt
                            clear hlt
                            rcases Nat.lt_or_ge i 11 with hlt | hgt
                            · replace hi := hlt
                              clear hlt
                              obtain rfl := eqi hi hge
                              have p8 := hpre 8 (by kernel_rfl)
                              have e8 : s8 = .slice (some ⟨go1, 0, none⟩) n C1 := hF.get 8 _ rfl (.inr p8)
                              subst e8
                              have r8 : A.tmps[204]? = some (.slice (some ⟨go1, 0, none⟩) n C1) := hR.own 8 _ _ rfl rfl
                              have p9 := hpre 9 (by kernel_rfl)
                              have e9 : s9 = .int .i64 (c : Int) := hF.get 9 _ rfl (.inr p9)
                              subst e9
                              have r9 : A.tmps[205]? = some (.int .i64 (c : Int)) := hR.own 9 _ _ rfl rfl
                              refine step_of ⟨some 206, _, _, _, _, _⟩ rfl (fun K' hK => ?_)
                              go_simp
                              exact hK.out _ _ ⟨_, hF.pure hok hla hpre rfl (Below.refl _ _), rfl⟩
                            · replace hge : 11 ≤ i := hgt
                              clear hgt
                              obtain rfl := eqi hi hge
                              have p10 := hpre 10 (by kernel_rfl)
                              have e10 : s10 = .pointer (some ⟨go1, c * 2, none⟩) := hF.get 10 _ rfl (.inr p10)
                              subst e10
                              have r10 : A.tmps[206]? = some (.pointer (some ⟨go1, c * 2, none⟩)) := hR.own 10 _ _ rfl rfl
                              have c0 := cell_below HC0.out (below_none hF.low)
                              have c1 := cell_below HC1.out (below_none hF.low)
                              refine step_of ⟨some 207, _, _, _, _, _⟩ rfl (fun K' hK => ?_)
                              go_simp
                              exact hK.out _ _ ⟨_, hF.pure hok hla hpre rfl (Below.refl _ _), rfl⟩
                          · replace hge : 12 ≤ i := hgt
                            clear hgt
                            rcases Nat.lt_or_ge i 13 with hlt | hgt
                            · replace hi := hlt
                              clear hlt
                              obtain rfl := eqi hi hge
                              have ro0 : A.tmps[0]? = some (.slice (some ⟨bm, 0, none⟩) n C) := hR.out 3 _ rfl
                              refine step_of ⟨some 208, _, _, _, _, _⟩ rfl (fun K' hK => ?_)
                              go_simp
                              exact hK.out _ _ ⟨_, hF.pure hok hla hpre rfl (Below.refl _ _), rfl⟩
                            · replace hge : 13 ≤ i := hgt
                              clear hgt
                              rcases Nat.lt_or_ge i 14 with hlt | hgt
                              · replace hi := hlt
                                clear hlt
                                obtain rfl := eqi hi hge
                                have ro14 : A.tmps[14]? = some (.int .i64 (k : Int)) := hR.out 1 _ rfl
                                refine step_of ⟨some 209, _, _, _, _, _⟩ rfl (fun K' hK => ?_)
                                go_simp
                                exact hK.out _ _ ⟨_, hF.pure hok hla hpre rfl (Below.refl _ _), rfl⟩
                              · replace hge : 14 ≤ i := hgt
                                clear hgt
                                obtain rfl := eqi hi hge
                                have p12 := hpre 12 (by kernel_rfl)
                                have e12 : s12 = .slice (some ⟨bm, 0, none⟩) n C := hF.get 12 _ rfl (.inr p12)
                                subst e12
                                have r12 : A.tmps[208]? = some (.slice (some ⟨bm, 0, none⟩) n C) := hR.own 12 _ _ rfl rfl
                                have p13 := hpre 13 (by kernel_rfl)
                                have e13 : s13 = .int .i64 (k : Int) := hF.get 13 _ rfl (.inr p13)
                                subst e13
                                have r13 : A.tmps[209]? = some (.int .i64 (k : Int)) := hR.own 13 _ _ rfl rfl
                                refine step_of ⟨some 210, _, _, _, _, _⟩ rfl (fun K' hK => ?_)
                                go_simp
                                exact hK.out _ _ ⟨_, hF.pure hok hla hpre rfl (Below.refl _ _), rfl⟩
                        · replace hge : 15 ≤ i := hgt
                          clear hgt
                          rcases Nat.lt_or_ge i 17 with hlt | hgt
                          · replace hi := hlt
                            clear hlt
                            rcases Nat.lt_or_ge i 16 with hlt | hgt
                            · replace hi := hlt
                              clear hlt
                              obtain rfl := eqi hi hge
                              have p14 := hpre 14 (by kernel_rfl)
                              have e14 : s14 = .pointer (some ⟨bm, k, none⟩) := hF.get 14 _ rfl (.inr p14)
                              subst e14
                              have r14 : A.tmps[210]? = some (.pointer (some ⟨bm, k, none⟩)) := hR.own 14 _ _ rfl rfl
                              have y0 := cell_below HY2.out (below_none hF.low)
                              refine step_of ⟨some 211, _, _, _, _, _⟩ rfl (fun K' hK => ?_)
                              go_simp
                              exact hK.out _ _ ⟨_, hF.pure hok hla hpre rfl (Below.refl _ _), rfl⟩
                            · replace hge : 16 ≤ i := hgt
                              clear hgt
                              obtain rfl := eqi hi hge
                              have ro14 : A.tmps[14]? = some (.int .i64 (k : Int)) := hR.out 1 _ rfl
                              refine step_of ⟨some 212, _, _, _, _, _⟩ rfl (fun K' hK => ?_)
                              go_simp
                              exact hK.out _ _ ⟨_, hF.pure hok hla hpre rfl (Below.refl _ _), rfl⟩
                          · replace hge : 17 ≤ i := hgt
                            clear hgt
                            rcases Nat.lt_or_ge i 18 with hlt | hgt
                            · replace hi := hlt
                              clear hlt
                              obtain rfl := eqi hi hge
                              have p15 := hpre 15 (by kernel_rfl)
                              have e15 : s15 = .slice (some ⟨gm1, 0, none⟩) n C2 := hF.get 15 _ rfl (.inr p15)
                              subst e15
                              have r15 : A.tmps[211]? = some (.slice (some ⟨gm1, 0, none⟩) n C2) := hR.own 15 _ _ rfl rfl
                              have p16 := hpre 16 (by kernel_rfl)
                              have e16 : s16 = .int .i64 (k : Int) := hF.get 16 _ rfl (.inr p16)
                              subst e16
                              have r16 : A.tmps[212]? = some (.int .i64 (k : Int)) := hR.own 16 _ _ rfl rfl
                              refine step_of ⟨some 213, _, _, _, _, _⟩ rfl (fun K' hK => ?_)
                              go_simp
                              exact hK.out _ _ ⟨_, hF.pure hok hla hpre rfl (Below.refl _ _), rfl⟩
                            · replace hge : 18 ≤ i := hgt
                              clear hgt
                              rcases Nat.lt_or_ge i 19 with hlt | hgt
                              · replace hi := hlt
                                clear hlt
                                obtain rfl := eqi hi hge
                                have p17 := hpre 17 (by kernel_rfl)
                                have e17 : s17 = .pointer (some ⟨gm1, k * 2, none⟩) := hF.get 17 _ rfl (.inr p17)
                                subst e17
                                have r17 : A.tmps[213]? = some (.pointer (some ⟨gm1, k * 2, none⟩)) := hR.own 17 _ _ rfl rfl
                                have c0 := cell_below HD0.out (below_none hF.low)
                                have c1 := cell_below HD1.out (below_none hF.low)
                                refine step_of ⟨some 214, _, _, _, _, _⟩ rfl (fun K' hK => ?_)
                                go_simp
                                exact hK.out _ _ ⟨_, hF.pure hok hla hpre rfl (Below.refl _ _), rfl⟩
                              · replace hge : 19 ≤ i := hgt
                                clear hgt
                                obtain rfl := eqi hi hge
                                have p11 := hpre 11 (by kernel_rfl)
                                have e11 : s11 = .agg #[.string (numS x), .string (denS x)] := hF.get 11 _ rfl (.inr p11)
                                subst e11
                                have r11 : A.tmps[207]? = some (.agg #[.string (numS x), .string (denS x)]) := hR.own 11 _ _ rfl rfl
                                have p18 := hpre 18 (by kernel_rfl)
                                have e18 : s18 = .agg #[.string (numS y), .string (denS y)] := hF.get 18 _ rfl (.inr p18)
                                subst e18
                                have r18 : A.tmps[214]? = some (.agg #[.string (numS y), .string (denS y)]) := hR.own 18 _ _ rfl rfl
                                refine step_of ⟨some 215, _, _, _, _, _⟩ rfl (fun K' hK => ?_)
                                go_simp
                                go_at_call 64
                                (with_reducible refine (TD.out _ ((HI.out.step (below_none hF.low)).env HE0.out HP.out)).mono ?_)
                                rintro e Wq ⟨rfl, hq⟩
                                exact hK.out _ _ ⟨_, hF.pure hok hla hpre rfl hq, rfl⟩
                    case hd =>
                      rintro listed vs WB hF hall
                      obtain ⟨s0, s1, s2, s3, s4, s5, s6, s7, s8, s9, s10, s11, s12, s13, s14, s15, s16, s17, s18, s19, s20, s21, hvs⟩ := exl_of 22 vs (fun l => vs = l) hF.len rfl
                      subst hvs
                      have e3 : s3 = .slice (some ⟨go1, 0, none⟩) n C1 := hF.get 3 _ rfl (.inr (hall 3 (by decide)))
                      subst e3
                      have e4 : s4 = .int .i64 (c : Int) := hF.get 4 _ rfl (.inr (hall 4 (by decide)))
                      subst e4
                      have e19 : s19 = .agg #[.string (numS z), .string (denS z)] := hF.get 19 _ rfl (.inr (hall 19 (by decide)))
                      subst e19
                      have hq := below_none hF.low
                      replace HI := Lib.hid (HI.out.step hq)
                      clear hq
                      clear hF hall hok hna hla
                      simp only [putO, layL]
                      obtain ⟨y0, y1⟩ := (HI.out.o.rows k hkt).item hct
                      have z0 := (HI.out.o.rows k hkt).free (c * 2)
                      have z1 := (HI.out.o.rows k hkt).free (c * 2 + 1)
                      rw [HEG.out] at y0 y1 z0 z1
                      refine rest_one 20 ⟨some 216, _, _, _, _, _⟩ rfl (by kernel_rfl) rfl (fun K' hK => ?_)
                      go_simp
                      refine hK.out _ _ ?_
                      refine rest_one 21 ⟨none, _, _, _, _, _⟩ rfl (by kernel_rfl) rfl (fun K' hK => ?_)
                      go_simp
                      refine hK.out _ _ ?_
                      refine rest_end ?_
                      clear y0 y1 z0 z1
                      have hq2 := HI.out.seto hkt hct (FV c)
                      rw [← colsM_succ ok' k FV c, HEG.out, HZ.out] at hq2
                      have HI2 := Lib.hid hq2
                      clear hq2 HI TD HC0 HC1 HD0 HD1
                      go_wp2
                      go_roundg (n - (c + 1))
                      case measure => omega
                      case rel => exact ⟨c + 1, by go_num, by omega, by omega, HI2.out⟩
                · have hce : decide ((c : Int) < (n : Int)) = false := decide_eq_false (by omega)
                  have hce2 : decide (c < n) = false := decide_eq_false hct
                  have hcn : c = n := by omega
                  rw [hcn] at HI
                  have HI2 := Lib.hid (HI.out.congr (out' := divM out m (k + 1)) (fun _ _ _ _ => rfl) (fun r c' hr hc' => by rw [← HOK.out]; exact divM_row HFV.out r hc'))
                  clear hct hcn HI
                  go_wp2
                  go_roundg (n - (k + 1))
                  case measure => omega
                  case rel => exact ⟨k + 1, by go_num, by omega, by omega, HI2.out⟩
            · have hke : decide ((k : Int) < (n : Int)) = false := decide_eq_false (by omega)
              have hke2 : decide (k < n) = false := decide_eq_false hkt
              have hki : k = n := by omega
              rw [hki] at HI
              clear hkt hki
              have HV := Lib.hid (HS.out.inverse h4)
              have HMV := Lib.hid HI.out.o
              obtain ⟨⟨x0, x1⟩, f0, f1⟩ := two_at HI.out.res
              obtain ⟨⟨e0, e1⟩, _⟩ := two_at HI.out.det
              have hset := set2_at HI.out.res (.string (numS d)) (.string (denS d))
              obtain ⟨⟨r0, r1⟩, _⟩ := two_at hset
              have HL := Lib.hid (HI.out.low.trans (put2_below HI.out.ge.2.1 wr (.string (numS d)) (.string (denS d))))
              have HMO := Lib.hid (HI.out.o.keep (set2_other wr R (.string (numS d)) (.string (denS d)) (by have := HI.out.lo.1; omega)) (fun r hr => set2_other wr R (.string (numS d)) (.string (denS d)) (by have := HI.out.lo.2.2 r hr; omega)))
              clear hset
              go_wp2
              refine bodyPost_ret (v := .tuple #[.agg #[.string (numS d), .string (denS d)], .slice (some ⟨bo, 0, none⟩) n n]) (by simp [results, Tryz.results171, go_sem, r0, r1]) rfl ⟨.inr ⟨HDN.out.2, bo, go, fun r c => out r c / m r r, by rw [HDN.out.1], HBR.out, fun _ => ⟨HMO.out.congr (fun r c hr hc => by unfold divM; rw [if_pos hr]), HV.out.1, HV.out.2, fun r c hr hc => (HBD.out.f_e OK.out h4 HDD.out HDM.out HNZ.out hr hc).1⟩⟩, HL.out⟩
      · have hv2 : inv = false := (Bool.not_eq_true inv).mp hv
        subst hv2
        have hi9 : (0 : Int) < (n : Int) := by omega
        have hd9 : decide ((0 : Int) < (n : Int)) = true := decide_eq_true (by omega)
        have hd8 : decide (0 < n) = true := decide_eq_true (by omega)
        obtain ⟨⟨x0, x1⟩, f0, f1⟩ := two_at HI.out.res
        obtain ⟨⟨e0, e1⟩, _⟩ := two_at HI.out.det
        have hset := set2_at HI.out.res (.string (numS d)) (.string (denS d))
        obtain ⟨⟨r0, r1⟩, _⟩ := two_at hset
        have HL := Lib.hid (HI.out.low.trans (put2_below HI.out.ge.2.1 wr (.string (numS d)) (.string (denS d))))
        clear hset hv
        go_wp2_with fail
        go_loopg [14, 15] 0 (fun gh v14 v15 wx => v14 = .int .i64 0 ∧ wx = wr)
        case atStart => exact ⟨rfl, rfl⟩
        case round =>
          obtain ⟨rfl, rfl⟩ := hrel
          go_wp2
          refine bodyPost_ret (v := .tuple #[.agg #[.string (numS d), .string (denS d)], .slice (some ⟨bo, 0, none⟩) n n]) (by simp [results, Tryz.results171, go_sem, r0, r1]) rfl ⟨.inr ⟨HDN.out.2, bo, go, out, by rw [HDN.out.1], HBR.out, fun h => by cases h⟩, HL.out⟩
end Go.Proofs.YtgponoogifeopaaGreatDoor.Num.Mt
