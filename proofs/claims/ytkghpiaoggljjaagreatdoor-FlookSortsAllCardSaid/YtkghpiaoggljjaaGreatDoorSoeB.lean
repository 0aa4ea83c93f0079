/- Numbers as texts of digits, fractions, values and the functions of fmath: contracts of the program's functions, joined from smaller texts. Conditions stand at each theorem. -/
import Derived.Test.YtkghpiaoggljjaaGreatDoorSocB
import Derived.Test.YtkghpiaoggljjaaGreatDoorSoeA
import Derived.Test.YtkghpiaoggljjaaGreatDoorNumG
import Derived.BigQuiet
import Derived.Test.YtkghpiaoggljjaaGreatDoorSodB
set_option linter.unusedVariables false
set_option linter.unusedSimpArgs false

/- package flook: picked: some rows of an array of numbers. Conditions: sizes from 1 on; the numbers lie in memory. -/
namespace Go.Proofs.YtkghpiaoggljjaaGreatDoor.Num.Fl
open Go.RowKit Go.Lib Num
attribute [local irreducible] wpOp
/-- row i; the rows d 0 .. d (k - 1) behind one another -/
def rowAt (qs : List Rat) (s i : Nat) : List Rat := (qs.drop (i * s)).take s
def pickL (qs : List Rat) (s : Nat) (d : Nat → Nat) (k : Nat) : List Rat := (List.range k).flatMap fun i => rowAt qs s (d i)
theorem pickL_succ (qs : List Rat) (s : Nat) (d : Nat → Nat) (k : Nat) : pickL qs s d (k + 1) = pickL qs s d k ++ rowAt qs s (d k) := by
 unfold pickL
 rw [List.range_succ, List.flatMap_append]; simp
theorem rowAt_len {qs : List Rat} {r s i L : Nat} (hL : r * s = L) (hq : qs.length = L) (hi : i < r) : (rowAt qs s i).length = s := by
 have : (i + 1) * s ≤ r * s := Nat.mul_le_mul hi (Nat.le_refl _)
 rw [Nat.add_mul, Nat.one_mul] at this
 simp only [rowAt, List.length_take, List.length_drop]
 omega
theorem pickL_len {qs : List Rat} {r s L : Nat} {d : Nat → Nat} (hL : r * s = L) (hq : qs.length = L) : ∀ k, (∀ i, i < k → d i < r) → (pickL qs s d k).length = k * s
 | 0, _ => by simp [pickL]
 | k + 1, h => by rw [pickL_succ, List.length_append, pickL_len hL hq k (fun i hi => h i (by omega)), rowAt_len hL hq (h k (by omega)), Nat.add_mul, Nat.one_mul]
theorem rowAt_vals {W : World} {g i s a : Nat} {qs : List Rat} (h : ValsAt W g 0 (numVals qs)) (ha : i * s = a) (hl : a ≤ qs.length) : ValsAt W g (a * 9) (numVals (rowAt qs s i)) := by
 unfold rowAt
 rw [ha]
 refine vals_mid (A := qs.take a) (B := (qs.drop a).take s) (C := (qs.drop a).drop s) ?_ (by rw [List.length_take]; omega)
 rw [List.append_assoc, List.take_append_drop, List.take_append_drop]
 exact h
theorem flat_app (a b : List Rat) : flat (numVals (a ++ b)) = flat (numVals a) ++ flat (numVals b) := by simp [numVals, flat]
/-- the source (block A), the result (the next one), the array that is built (the one behind it), its row -/
structure PkI (w : World) (r s m : Nat) (src bv v : Value) (n : Nat) (xs : List Value) (W : World) : Prop where
 src : W.heap[w.heap.size]? = some (.cells #[.int .i64 (r : Int), .int .i64 (s : Int), src] 69 (0, 0))
 res : W.heap[w.heap.size + 1]? = some (.cells #[.int .i64 0, .int .i64 0, .slice none 0 0] 69 (0, 0))
 box : W.heap[w.heap.size + 1 + 1]? = some (.cells #[.int .i64 (m : Int), .int .i64 (s : Int), bv] 69 (0, 0))
 low : Below w.heap.size w W
 own : W.ownsRow w.heap.size 27 9 v n xs
section
variable {w W W' : World} {r s m n n' : Nat} {src bv v v' : Value} {xs ys : List Value}
theorem PkI.ge_own (h : PkI w r s m src bv v n xs W) : ∀ b, v.ownBlock = some b → w.heap.size ≤ b := by
 intro b hb
 rcases h.own.2 with ⟨rfl, _⟩ | ⟨g, cap, cur, rfl, hg, _⟩
 ·simp [Value.ownBlock] at hb
 ·simp [Value.ownBlock] at hb; omega
theorem PkI.ne {B : Nat} {c : Array Value} (h : PkI w r s m src bv v n xs W) (hB : W.heap[B]? = some (.cells c 69 (0, 0))) : v.ownBlock ≠ some B := by
 rcases h.own.2 with ⟨rfl, _⟩ | ⟨g, cap, cur, rfl, hg, hc, _⟩
 ·simp [Value.ownBlock]
 ·intro eb
  have eb : g = B := by simpa [Value.ownBlock] using eb
  subst eb
  rw [hc] at hB
  injection hB with hB
  injection hB with _ ht
  exact absurd ht (by decide)
theorem PkI.step (h : PkI w r s m src bv v n xs W) (hb : Below W.heap.size W W') : PkI w r s m src bv v n xs W' :=
 ⟨keep_block h.src hb, keep_block h.res hb, keep_block h.box hb, h.low.trans (hb.mono h.low.size), h.own.kept (only_of_below hb none) (by cases v.ownBlock <;> simp)⟩
theorem PkI.push (h : PkI w r s m src bv v n xs W) (ho : W'.ownsRow w.heap.size 27 9 v' n' ys) (hg : W.grownBy W' v.ownBlock) : PkI w r s m src bv v' n' ys W' :=
 ⟨(hg.block _ (heap_lt h.src) (fun e => h.ne h.src e.symm)).trans h.src, (hg.block _ (heap_lt h.res) (fun e => h.ne h.res e.symm)).trans h.res, (hg.block _ (heap_lt h.box) (fun e => h.ne h.box e.symm)).trans h.box, h.low.grown hg h.low.size h.ge_own, ho⟩
theorem PkI.store (h : PkI w r s m src bv v n xs W) : PkI w r s m src v v n xs (W.setCell ⟨w.heap.size + 1 + 1, 2, none⟩ v) := by
 refine ⟨?_, ?_, ?_, h.low.setCell (p := ⟨w.heap.size + 1 + 1, 2, none⟩) (show w.heap.size ≤ w.heap.size + 1 + 1 by omega) _, ownsRow_setCell_other h.own (a := ⟨w.heap.size + 1 + 1, 2, none⟩) (h.ne h.box) v⟩
 ·exact (Below.heap_setCell _ _ _ _ (show w.heap.size ≠ w.heap.size + 1 + 1 by omega)).trans h.src
 ·exact (Below.heap_setCell _ _ _ _ (show w.heap.size + 1 ≠ w.heap.size + 1 + 1 by omega)).trans h.res
 ·have := heap_setCell_at h.box 2 v
  rw [this]; rfl
end
/-- the three blocks made -/
theorem PkI.start (w : World) (r s m : Nat) (src : Value) :
  PkI w r s m src (.slice none 0 0) (.slice none 0 0) 0 [] (((w.alloc (.cells #[.int .i64 (r : Int), .int .i64 (s : Int), src] 69)).alloc (.cells #[.int .i64 0, .int .i64 0, .slice none 0 0] 69)).alloc (.cells #[.int .i64 (m : Int), .int .i64 (s : Int), .slice none 0 0] 69)) := by
 obtain ⟨hx, hr, hb⟩ := two_new w (.cells #[.int .i64 (r : Int), .int .i64 (s : Int), src] 69) (.cells #[.int .i64 0, .int .i64 0, .slice none 0 0] 69)
 have h := heap_alloc_new ((w.alloc (.cells #[.int .i64 (r : Int), .int .i64 (s : Int), src] 69)).alloc (.cells #[.int .i64 0, .int .i64 0, .slice none 0 0] 69)) (.cells #[.int .i64 (m : Int), .int .i64 (s : Int), .slice none 0 0] 69)
 simp only [World.size_alloc] at h
 exact ⟨new_keep hx, new_keep hr, h, hb.alloc hb.size _, World.ownsRow_nil _ _ _ _⟩
/-- the result is written -/
theorem PkI.finish {w W : World} {r s m n lg cap : Nat} {src bv : Value} {xs : List Value} (h : PkI w r s m src bv (.slice (some ⟨lg, 0, none⟩) n cap) n xs W) (x y z : Value) :
  Below w.heap.size w (((W.setCell ⟨w.heap.size + 1, 0, none⟩ x).setCell ⟨w.heap.size + 1, 1, none⟩ y).setCell ⟨w.heap.size + 1, 2, none⟩ z) :=
 ((h.low.setCell (p := ⟨w.heap.size + 1, 0, none⟩) (Nat.le_succ _) x).setCell (p := ⟨w.heap.size + 1, 1, none⟩) (Nat.le_succ _) y).setCell (p := ⟨w.heap.size + 1, 2, none⟩) (Nat.le_succ _) z
set_option linter.unusedVariables false in
/-- what the operations of region 6 yield -/
def pickKs6 (r s m g L C i a n cv B1 B3 : Nat) (av : Option Addr) : List RK :=
 [.pure (.pointer (some ⟨B3, 2, none⟩)),
  .pure (.slice av n cv),
  .pure (.agg #[.int .i64 (r : Int), .int .i64 (s : Int), .slice (some ⟨g, 0, none⟩) L C]),
  .pure (.int .i64 (i : Int)),
  .pure (.slice (some ⟨g, a * 9, none⟩) s (C - a)),
  .put 0,
  .put 0,
  .put 0]
set_option linter.unusedSimpArgs false in
set_option linter.unusedVariables false in
set_option maxHeartbeats 4000000 in
set_option maxRecDepth 100000 in
theorem picked_arr (r s m g L C B cb : Nat) (d : Nat → Nat) (qs : List Rat) (w : World) (h1 : 1 ≤ m) (h2 : 1 ≤ s) (hms : m * s ≤ 1000) (hL : r * s = L) (hq : qs.length = L) (hLC : L ≤ C) (h9 : L ≤ 1000) (hd : ∀ i, i < m → d i < r) (hrow : ∀ i, i < m → w.cell? ⟨B, i, none⟩ = some (.int .i64 ((d i : Nat) : Int))) (hv : ValsAt w g 0 (numVals qs)) :
  Calls Tryz.prog 133 #[gridC (r : Int) (s : Int) (some ⟨g, 0, none⟩) L C, .slice (some ⟨B, 0, none⟩) m cb] w fun e w' => ∃ lg cap, e = .returned (gridC (m : Int) (s : Int) (some ⟨lg, 0, none⟩) (m * s) cap) ∧ Below w.heap.size w w' ∧ ValsAt w' lg 0 (numVals (pickL qs s d m)) ∧ w.heap.size ≤ lg ∧ m * s ≤ cap := by
 have TR := Lib.hid (fun i W hi => row_arr r s i g L C W hi h2 hL hLC h9)
 unfold gridC at TR ⊢
 obtain ⟨i0, hi0', hz0, hz1, hz2⟩ := info_val
 have QhL := Lib.hid hL
 have Qhq := Lib.hid hq
 have HV := Lib.hid hv
 have HD := Lib.hid hd
 have HROW := Lib.hid hrow
 have hm9 : m ≤ 1000 := by
  have : m ≤ m * s := Nat.le_mul_of_pos_right m h2
  omega
 have hs9 : s ≤ 1000 := by
  have : s ≤ m * s := Nat.le_mul_of_pos_left s h1
  omega
 have HMS := Lib.hid hms
 have ds : decide ((0 : Int) < (s : Int)) = true := decide_eq_true (by omega)
 have ds2 : decide (0 < s) = true := decide_eq_true (by omega)
 have hs0 : ((s : Int) = 0) = False := eq_false (by omega)
 have hs1 : (s = 0) = False := eq_false (by omega)
 have hs2 : decide (s = 0) = false := decide_eq_false (by omega)
 have hqq : (m : Int) ≤ (100000 : Int) / (s : Int) := by
  refine (Int.le_ediv_iff_mul_le (by omega)).2 ?_
  have h := hms
  have h3 : ((m * s : Nat) : Int) ≤ 1000 := by exact_mod_cast h
  rw [Int.natCast_mul] at h3
  omega
 have hqt : (100000 : Int).tdiv (s : Int) = (100000 : Int) / (s : Int) := Int.tdiv_eq_ediv_of_nonneg (by omega)
 have hqb : (100000 : Int) / (s : Int) ≤ 100000 := Int.ediv_le_self _ (by omega)
 obtain ⟨q9, hq9⟩ : ∃ q, (100000 : Int) / (s : Int) = q := ⟨_, rfl⟩
 rw [hq9] at hqq hqt hqb
 have hqw : IntKind.i64.wrap q9 = q9 := IntWalk.i64_in _ (by omega)
 have hqd : decide (q9 < (m : Int)) = false := decide_eq_false (by omega)
 have hx := new_keep (o' := .cells #[.int .i64 (m : Int), .int .i64 (s : Int), .slice none 0 0] 69) (new_keep (o' := .cells #[.int .i64 0, .int .i64 0, .slice none 0 0] 69) (heap_alloc_new w (.cells #[.int .i64 (r : Int), .int .i64 (s : Int), .slice (some ⟨g, 0, none⟩) L C] 69)))
 clear hL hq hv hd hrow hms hq9 hqb hqq hLC
 go_enter Tryz.func133, Tryz.ntmps133
 go_upto_region 1 with fail
 obtain ⟨⟨x0, x1, x2⟩, _⟩ := three_at (new_keep (o' := .cells #[.int .i64 0, .int .i64 0, .slice none 0 0] 69) (heap_alloc_new w (.cells #[.int .i64 (r : Int), .int .i64 (s : Int), .slice (some ⟨g, 0, none⟩) L C] 69)))
 go_upto_region 2 with fail
 have HI := Lib.hid (PkI.start w r s m (.slice (some ⟨g, 0, none⟩) L C))
 obtain ⟨W1, hW1⟩ : ∃ Z, (((w.alloc (.cells #[.int .i64 (r : Int), .int .i64 (s : Int), .slice (some ⟨g, 0, none⟩) L C] 69)).alloc (.cells #[.int .i64 0, .int .i64 0, .slice none 0 0] 69)).alloc (.cells #[.int .i64 (m : Int), .int .i64 (s : Int), .slice none 0 0] 69)) = Z := ⟨_, rfl⟩
 rw [hW1] at HI
 have EW := Lib.hid hW1
 clear hW1 x0 x1 x2 hx
 rw [EW.out]
 obtain ⟨⟨x0, x1, x2⟩, _⟩ := three_at HI.out.src
 go_wp2_with fail
 refine (stop_no 5 _).mono ?_
 rintro e w6 ⟨rfl, hw⟩
 replace hw := hw.symm
 subst hw
 go_upto_region 4 with fail
 clear x0 x1 x2 EW
 go_loopg [7, 27] m (fun gh v7 v27 wx => ∃ (k : Nat) (v : Value), v27 = .int .i64 (k : Int) ∧ k ≤ m ∧ gh = m - k ∧ PkI w r s m (.slice (some ⟨g, 0, none⟩) L C) v v (k * s) (flat (numVals (pickL qs s d k))) wx)
 case atStart => exact ⟨0, _, rfl, Nat.zero_le _, rfl, by rw [Nat.zero_mul]; exact HI.out⟩
 case round =>
  clear HI
  obtain ⟨k, v, rfl, hk, rfl, hi⟩ := hrel
  have HI := Lib.hid hi
  by_cases hlt : k < m
  ·skip
   have hd1 : decide ((k : Int) < (m : Int)) = true := decide_eq_true (by omega)
   have hd2 : decide (k < m) = true := decide_eq_true hlt
   have hwk : IntKind.i64.wrap ((k : Int) + 1) = (k : Int) + 1 := IntWalk.i64_in _ (by omega)
   have hc := cell_below (HROW.out k hlt) HI.out.low
   have hdr := HD.out k hlt
   have HTK := Lib.hid (pickL_succ qs s d k)
   obtain ⟨i, hdi⟩ : ∃ i, d k = i := ⟨_, rfl⟩
   rw [hdi] at hc hdr HTK
   obtain ⟨a, ha⟩ : ∃ a, i * s = a := ⟨_, rfl⟩
   have haL : a + s ≤ L := by
    have : (i + 1) * s ≤ r * s := Nat.mul_le_mul hdr (Nat.le_refl _)
    rw [Nat.add_mul, Nat.one_mul, QhL.out] at this
    omega
   have TR2 := Lib.hid (fun W => TR.out i W hdr)
   rw [ha] at TR2
   have HNEW := Lib.hid (fun W (h : ValsAt W g 0 (numVals qs)) => rowAt_vals (i := i) (s := s) h ha (by rw [Qhq.out]; omega))
   have HNL := Lib.hid (rowAt_len QhL.out Qhq.out hdr)
   obtain ⟨nw, hnw⟩ : ∃ x, rowAt qs s i = x := ⟨_, rfl⟩
   rw [hnw] at HNEW HNL HTK
   obtain ⟨xs, hxs⟩ : ∃ xs, flat (numVals (pickL qs s d k)) = xs := ⟨_, rfl⟩
   have HXS := Lib.hid hxs
   rw [hxs] at HI
   obtain ⟨av, cv, hu⟩ := owns_form HI.out.own
   subst hu
   obtain ⟨n, hn⟩ : ∃ n, k * s = n := ⟨_, rfl⟩
   have hn9 : n + s ≤ 1000 := by
    have h3 : (k + 1) * s ≤ m * s := Nat.mul_le_mul hlt (Nat.le_refl _)
    rw [Nat.add_mul, Nat.one_mul] at h3
    have := HMS.out
    omega
   have HKE := Lib.hid (show (k + 1) * s = n + s by rw [Nat.add_mul, Nat.one_mul, hn])
   rw [hn] at HI
   have hml : n + s ≤ maxLen := by unfold maxLen; omega
   have H1 := Lib.hid HI.out.src
   have H3 := Lib.hid HI.out.box
   have hi0 : (0 : Int) ≤ (k : Int) := by omega
   have hi1 : (k : Int) < (m : Int) := by omega
   have HDR := Lib.hid hdr
   clear hi ha hdi hnw hxs hn haL hdr
   obtain ⟨B1, hB1⟩ : ∃ B, w.heap.size = B := ⟨_, rfl⟩
   obtain ⟨B3, hB3⟩ : ∃ B, w.heap.size + 1 + 1 = B := ⟨_, rfl⟩
   have EB1 := Lib.hid hB1
   have EB3 := Lib.hid hB3
   clear hB1 hB3
   rw [EB1.out] at H1
   rw [EB3.out] at H3
   go_upto_region 6 with fail
   rw [EB3.out, EB1.out]
   clear hc
   go_wp2_with fail
   have hok : okB 8 (pickKs6 r s m g L C i a n cv B1 B3 av) = true := by kernel_rfl
   have hna := noAny_of (ks := (pickKs6 r s m g L C i a n cv B1 B3 av)) (by kernel_rfl)
   have hla := lasts_of hna
   refine wp_region_facts_abs_r (row := none) (w := wr) 5 5 3 8 [5, 6, 7] (pickKs6 r s m g L C i a n cv B1 B3 av) [some 31, some 32, some 33, some 34, some 35, some 36, some 37, none] [(5, .pointer (some ⟨B3, 0, none⟩)), (2, .pointer (some ⟨B1, 0, none⟩)), (7, .int .i64 (i : Int))] 40 (by kernel_rfl) (by kernel_rfl) (by kernel_rfl) rfl rfl (by decide) rfl (by kernel_rfl) rfl (Nat.le_of_eq rfl) rfl ?ho [u31, u32, u33, u34, u35, u36, u37, undef] ?h00 (Fs.start rfl rfl) ?hs ?hd
   case ho =>
    intro k x hk
    match k, hk with
    | 0, hk => have hk := Option.some.inj hk; subst hk; rfl
    | 1, hk => have hk := Option.some.inj hk; subst hk; rfl
    | 2, hk => have hk := Option.some.inj hk; subst hk; rfl
    | _ + 3, hk => exact absurd hk (by simp)
   case h00 => simp only [putO, layL]
   case hs =>
    rintro A listed vs Wr hF hR i hi hun hpre
    obtain ⟨s0, s1, s2, s3, s4, s5, s6, s7, hvs⟩ := exl_of 8 vs (fun l => vs = l) hF.len rfl
    subst hvs
    have hge := Nat.zero_le i
    rcases Nat.lt_or_ge i 2 with hi | hge
    ·rcases Nat.lt_or_ge i 1 with hi | hge
     ·obtain rfl := eqi hi hge
      have ro5 : A.tmps[5]? = some (.pointer (some ⟨B3, 0, none⟩)) := hR.out 0 _ rfl
      refine step_of ⟨some 31, _, _, _, _, _⟩ rfl (fun K' hK => ?_)
      go_simp
      exact hK.out _ _ ⟨_, hF.pure hok hla hpre rfl (Below.refl _ _), rfl⟩
     obtain rfl := eqi hi hge
     have p0 := hpre 0 (by kernel_rfl)
     have e0 : s0 = .pointer (some ⟨B3, 2, none⟩) := hF.get 0 _ rfl (.inr p0)
     subst e0
     have r0 : A.tmps[31]? = some (.pointer (some ⟨B3, 2, none⟩)) := hR.own 0 _ _ rfl rfl
     have hcc := (three_at (keep_block H3.out (below_none hF.low))).1
     have cH30 := hcc.1
     have cH31 := hcc.2.1
     have cH32 := hcc.2.2
     clear hcc
     refine step_of ⟨some 32, _, _, _, _, _⟩ rfl (fun K' hK => ?_)
     go_simp
     exact hK.out _ _ ⟨_, hF.pure hok hla hpre rfl (Below.refl _ _), rfl⟩
    rcases Nat.lt_or_ge i 3 with hi | hge
    ·obtain rfl := eqi hi hge
     have ro2 : A.tmps[2]? = some (.pointer (some ⟨B1, 0, none⟩)) := hR.out 1 _ rfl
     have hcc := (three_at (keep_block H1.out (below_none hF.low))).1
     have cH10 := hcc.1
     have cH11 := hcc.2.1
     have cH12 := hcc.2.2
     clear hcc
     refine step_of ⟨some 33, _, _, _, _, _⟩ rfl (fun K' hK => ?_)
     go_simp
     exact hK.out _ _ ⟨_, hF.pure hok hla hpre rfl (Below.refl _ _), rfl⟩
    rcases Nat.lt_or_ge i 4 with hi | hge
    ·obtain rfl := eqi hi hge
     have ro7 : A.tmps[7]? = some (.int .i64 (i : Int)) := hR.out 2 _ rfl
     refine step_of ⟨some 34, _, _, _, _, _⟩ rfl (fun K' hK => ?_)
     go_simp
     exact hK.out _ _ ⟨_, hF.pure hok hla hpre rfl (Below.refl _ _), rfl⟩
    obtain rfl := eqi hi hge
    have p2 := hpre 2 (by kernel_rfl)
    have e2 : s2 = .agg #[.int .i64 (r : Int), .int .i64 (s : Int), .slice (some ⟨g, 0, none⟩) L C] := hF.get 2 _ rfl (.inr p2)
    subst e2
    have r2 : A.tmps[33]? = some (.agg #[.int .i64 (r : Int), .int .i64 (s : Int), .slice (some ⟨g, 0, none⟩) L C]) := hR.own 2 _ _ rfl rfl
    have p3 := hpre 3 (by kernel_rfl)
    have e3 : s3 = .int .i64 (i : Int) := hF.get 3 _ rfl (.inr p3)
    subst e3
    have r3 : A.tmps[34]? = some (.int .i64 (i : Int)) := hR.own 3 _ _ rfl rfl
    refine step_of ⟨some 35, _, _, _, _, _⟩ rfl (fun K' hK => ?_)
    go_simp
    go_at_call 128
    (with_reducible refine (TR2.out _).mono ?_)
    rintro e Wq ⟨rfl, hq⟩
    exact hK.out _ _ ⟨_, hF.pure hok hla hpre rfl hq, rfl⟩
   case hd =>
    rintro listed vs WA hF hall
    obtain ⟨s0, s1, s2, s3, s4, s5, s6, s7, hvs⟩ := exl_of 8 vs (fun l => vs = l) hF.len rfl
    subst hvs
    have e1 : s1 = .slice av n cv := hF.get 1 _ rfl (.inr (hall 1 (by decide)))
    subst e1
    have e4 : s4 = .slice (some ⟨g, a * 9, none⟩) s (C - a) := hF.get 4 _ rfl (.inr (hall 4 (by decide)))
    subst e4
    have hq := below_none hF.low
    replace H1 := Lib.hid (keep_block H1.out hq)
    replace H3 := Lib.hid (keep_block H3.out hq)
    replace HI := Lib.hid (HI.out.step hq)
    clear hq
    clear hF hall hok hla hna
    simp only [putO, layL]
    have HOW := Lib.hid HI.out.own
    refine rest_one 5 ⟨some 36, _, _, _, _, _⟩ rfl (by kernel_rfl) rfl (fun K' hK => ?_)
    refine step_append_rowx rfl _ _ 25 rfl w.heap.size 27 i0 _ 9 112 Tryz.underlying25 hi0' hz0 hz1 hz2 rfl (by decide) (.slice av n cv) n xs (by simp [Act.eval, Act.put]) HOW.out ⟨g, a * 9, none⟩ s (C - a) (flat (numVals nw)) (by simp [Act.eval, Act.put]) (by rw [flat_len, numVals_len, HNL.out]) (HNEW.out _ (HV.out.below HI.out.low)) (flat_one _) hml (by omega) HI.out.low.size ?_
    intro v5 w5 hown5 hgrow5
    obtain ⟨a5, c5, hu5⟩ := owns_form hown5
    subst hu5
    have HT5 := Lib.hid (HI.out.push hown5 hgrow5)
    clear hown5 hgrow5 HOW
    refine hK.out _ _ ?_
    refine rest_one 6 ⟨some 37, _, _, _, _, _⟩ rfl (by kernel_rfl) rfl (fun K' hK => ?_)
    go_simp
    refine hK.out _ _ ?_
    refine rest_one 7 ⟨none, _, _, _, _, _⟩ rfl (by kernel_rfl) rfl (fun K' hK => ?_)
    obtain ⟨⟨x0, x1, x2⟩, y0, y1, y2⟩ := three_at HT5.out.box
    rw [EB3.out] at x0 x1 x2 y0 y1 y2
    go_simp
    clear x0 x1 x2 y0 y1 y2
    refine hK.out _ _ ?_
    have HU := Lib.hid HT5.out.store
    rw [← HXS.out, ← flat_app, ← HTK.out] at HU
    refine rest_end ?_
    go_wp2
    rw [← EB3.out, ← EB1.out]
    go_roundg (m - (k + 1))
    case measure => omega
    case rel => exact ⟨k + 1, .slice a5 (n + s) c5, by go_num, by omega, by omega, by rw [HKE.out]; exact HU.out⟩
  ·skip
   have hd1 : decide ((k : Int) < (m : Int)) = false := decide_eq_false (by omega)
   have hd2 : decide (k < m) = false := decide_eq_false hlt
   have hjs : k = m := by omega
   rw [hjs] at hi
   have hown := hi.own
   obtain ⟨lg, cap, rfl, hlg, hcap, hva⟩ := vals_of_owns (vs := numVals (pickL qs s d m)) hown (by rw [numVals_len, pickL_len QhL.out Qhq.out m HD.out]) (Nat.mul_pos h1 h2)
   have HVA := Lib.hid hva
   have HLG := Lib.hid hlg
   have HCP := Lib.hid hcap
   replace HI := Lib.hid hi
   clear hown hlg hva hcap hi hjs
   obtain ⟨⟨x0, x1, x2⟩, _⟩ := three_at HI.out.box
   obtain ⟨⟨r0, r1, r2⟩, g0, g1, g2⟩ := three_at HI.out.res
   obtain ⟨⟨z0, z1, z2⟩, _⟩ := three_at (set3_at HI.out.res (.int .i64 (m : Int)) (.int .i64 (s : Int)) (.slice (some ⟨lg, 0, none⟩) (m * s) cap))
   have HLL := Lib.hid (HI.out.finish (.int .i64 (m : Int)) (.int .i64 (s : Int)) (.slice (some ⟨lg, 0, none⟩) (m * s) cap))
   have HVB := Lib.hid (vals_other HVA.out (set3_other wr (w.heap.size + 1) (.int .i64 (m : Int)) (.int .i64 (s : Int)) (.slice (some ⟨lg, 0, none⟩) (m * s) cap) (fun e => HI.out.ne HI.out.res (by rw [e]; rfl))))
   go_wp2
   refine bodyPost_ret (v := .agg #[.int .i64 (m : Int), .int .i64 (s : Int), .slice (some ⟨lg, 0, none⟩) (m * s) cap]) (by simp [results, Tryz.results133, go_sem, z0, z1, z2]) rfl ⟨lg, cap, rfl, HLL.out, HVB.out, HLG.out, HCP.out⟩
end Go.Proofs.YtkghpiaoggljjaaGreatDoor.Num.Fl

/- The row in order as a list; the numbers of a table in order of a column. Plain: of no program. -/
namespace Go.Proofs.YtkghpiaoggljjaaGreatDoor.Num
open Go.Proofs.YtkghpiaoggljjaaGreatDoor.Num.Fl Go.Proofs.YtkghpiaoggljjaaGreatDoor.Num.Mt

def leS (cf : Nat → Nat → Int) (a b : Nat) : Bool := decide (cf a b < 0 ∨ (cf a b = 0 ∧ a ≤ b))
/-- the places below r in order -/
def sortL (cf : Nat → Nat → Int) (r : Nat) : List Nat := (List.range r).mergeSort (leS cf)
section
variable {cf : Nat → Nat → Int}
theorem sortL_perm (r : Nat) : (sortL cf r).Perm (List.range r) := List.mergeSort_perm _ _
theorem sortL_len (r : Nat) : (sortL cf r).length = r := by rw [(sortL_perm r).length_eq, List.length_range]
theorem sortL_lt (r : Nat) : ∀ x ∈ sortL cf r, x < r := fun _ hx => List.mem_range.1 ((sortL_perm r).mem_iff.1 hx)
theorem sortL_pair (h : ∀ n, Ord cf n) (r : Nat) : (sortL cf r).Pairwise (Lt cf) := by
 have ht : ∀ a b c, leS cf a b = true → leS cf b c = true → leS cf a c = true := by
  intro a b c h1 h2
  have ha : a < a + b + c + 1 := by omega
  have hb : b < a + b + c + 1 := by omega
  have hc : c < a + b + c + 1 := by omega
  have H := h (a + b + c + 1)
  have e1 := H.trans a b c ha hb hc
  have e2 := H.anti a c ha hc
  have e3 := H.trans b c a hb hc ha
  have e4 := H.trans c a b hc ha hb
  have e5 := H.anti a b ha hb
  have e6 := H.anti b c hb hc
  have e7 := H.zero a b ha hb
  have e8 := H.zero b c hb hc
  have e9 := H.zero a c ha hc
  simp only [leS, decide_eq_true_eq] at h1 h2 ⊢
  omega
 have htot : ∀ a b, (leS cf a b || leS cf b a) = true := by
  intro a b
  have H := h (a + b + 1)
  have e5 := H.anti a b (by omega) (by omega)
  have e7 := H.zero a b (by omega) (by omega)
  simp only [leS, Bool.or_eq_true, decide_eq_true_eq]
  omega
 have hp := List.pairwise_mergeSort ht htot (List.range r)
 have hn : (sortL cf r).Nodup := (sortL_perm r).nodup_iff.2 List.nodup_range
 refine (hp.and hn).imp ?_
 rintro a b ⟨h1, h2⟩
 simp only [leS, decide_eq_true_eq] at h1
 unfold Lt
 omega
theorem rowL_pair {d : Nat → Nat} {r : Nat} (h : SortedOn cf d 0 r) : (rowL d r).Pairwise (Lt cf) := by
 rw [List.pairwise_iff_getElem]
 intro i j hi hj hij
 rw [rowL_at, rowL_at]
 rw [rowL_len] at hj
 exact h i j (Nat.zero_le _) hij hj
theorem rowL_id (r : Nat) : rowL (fun i => i) r = List.range r := by simp [rowL]
theorem sortL_of (h : ∀ n, Ord cf n) {d : Nat → Nat} {r : Nat} (m : Mv d (fun i => i) r 0 r) (s : SortedOn cf d 0 r) : rowL d r = sortL cf r := by
 have hp : (rowL d r).Perm (List.range r) := by rw [← rowL_id]; exact m.perm
 exact sorted_one (h r) (hp.trans (sortL_perm r).symm) (fun x hx => List.mem_range.1 (hp.mem_iff.1 hx)) (rowL_pair s) (sortL_pair h r)
theorem sortL_self (h : ∀ n, Ord cf n) {r : Nat} (s : ∀ i j, i < j → j < r → Lt cf i j) : sortL cf r = List.range r := by
 rw [← sortL_of h (Mv.refl (fun i => i) r 0 r) (fun i j _ h1 h2 => s i j h1 h2), rowL_id]
end
/-- the rows of a table of s columns in order of l -/
def rowsL (qs : List Rat) (s : Nat) (l : List Nat) : List Rat := l.flatMap (Fl.rowAt qs s)
theorem pickL_eq (qs : List Rat) (s : Nat) (d : Nat → Nat) (r : Nat) : pickL qs s d r = rowsL qs s (rowL d r) := by
 unfold pickL rowsL rowL
 rw [List.flatMap_map]
theorem cmpR_cases (p q : Rat) : (p < q ∧ cmpR p q = -1) ∨ (p = q ∧ cmpR p q = 0) ∨ (q < p ∧ cmpR p q = 1) := by
 unfold cmpR
 grind
theorem cfS_ord (qs : List Rat) (s c : Nat) (k : Int) (_hk : k = 1 ∨ k = -1) (n : Nat) : Ord (cfS qs s c k) n := by
 have key : ∀ x y, (qs.getD (x * s + c) 0 < qs.getD (y * s + c) 0 ∧ cfS qs s c k x y = -k) ∨ (qs.getD (x * s + c) 0 = qs.getD (y * s + c) 0 ∧ cfS qs s c k x y = 0) ∨ (qs.getD (y * s + c) 0 < qs.getD (x * s + c) 0 ∧ cfS qs s c k x y = k) := by
  intro x y
  unfold cfS
  rcases cmpR_cases (qs.getD (x * s + c) 0) (qs.getD (y * s + c) 0) with ⟨h, e⟩ | ⟨h, e⟩ | ⟨h, e⟩
  ·exact .inl ⟨h, by rw [e]; omega⟩
  ·exact .inr (.inl ⟨h, by rw [e]; omega⟩)
  ·exact .inr (.inr ⟨h, by rw [e]; omega⟩)
 generalize cfS qs s c k = cf at key ⊢
 generalize hf : (fun x : Nat => qs.getD (x * s + c) 0) = f
 replace key : ∀ x y, (f x < f y ∧ cf x y = -k) ∨ (f x = f y ∧ cf x y = 0) ∨ (f y < f x ∧ cf x y = k) := by rw [← hf]; exact key
 refine ⟨fun x y _ _ => ?_, fun x y _ _ => ?_, fun x y z _ _ _ h1 h2 => ?_⟩
 ·have := key x y; have := key y x; grind
 ·have := key x y; have := key y x; grind
 ·have := key x y; have := key y z; have := key x z; grind
end Go.Proofs.YtkghpiaoggljjaaGreatDoor.Num

/- Walk of package fmath's gcd of whole numbers. Conditions: both lie in 0 .. 2^62. -/
namespace Go.Proofs.YtkghpiaoggljjaaGreatDoor.Num
open Go.RowKit Go.Lib

end Go.Proofs.YtkghpiaoggljjaaGreatDoor.Num

/- Walk of package fmath's within. Conditions: none. -/
namespace Go.Proofs.YtkghpiaoggljjaaGreatDoor.Num
open Go.RowKit Go.Lib

end Go.Proofs.YtkghpiaoggljjaaGreatDoor.Num

/- Walk of package fmath's wholes, at whole numbers in 0 .. 10^15. Conditions: the tables lie as they are laid. -/
namespace Go.Proofs.YtkghpiaoggljjaaGreatDoor.Num
open Go.RowKit Go.Lib

def intsV (ns : List Int) : List Value := ns.map fun n => Value.int .i64 n
theorem intsV_snoc (ns : List Int) (n : Int) : intsV (ns ++ [n]) = intsV ns ++ [.int .i64 n] := by simp [intsV]
theorem info_int : ∃ i0, Tryz.prog.info? 3 = some i0 ∧ i0.zero = some (.int .i64 0) ∧ i0.size = 1 ∧ i0.bytes = 8 := info_parts (by kernel_rfl)
/-- whole numbers one behind the other in memory -/
def IntsAt (W : World) (g : Nat) (ns : List Int) : Prop := ∀ i (h : i < ns.length), W.cell? ⟨g, i, none⟩ = some (.int .i64 ns[i])
theorem ints_at {B L : Nat} {v : Value} {ns : List Int} {W : World} (h : W.ownsRow B 3 1 v L (intsV ns)) (hL : ns.length = L) (h0 : 0 < L) : ∃ g cap, v = .slice (some ⟨g, 0, none⟩) L cap ∧ B ≤ g ∧ L ≤ cap ∧ IntsAt W g ns := by
 rcases h.2 with ⟨_, h0'⟩ | ⟨g, cap, cur, rfl, hb, hg, hc1, hc2, hcs, htk⟩
 ·omega
 ·refine ⟨g, cap, rfl, hb, hc1, fun i hi => ?_⟩
  have h1 : (intsV ns)[i]? = some (.int .i64 ns[i]) := by simp [intsV, hi]
  rw [← htk] at h1
  rw [List.getElem?_take_of_lt (by omega)] at h1
  rw [Lib.cell_of_heap hg]; simpa using h1
structure WhI (W0 : World) (b gg B : Nat) (qs : List Rat) (v : Value) (done : List Int) (W : World) : Prop where
 row : FracsAt W gg qs
 env : Env W
 grown : W0.grownBy W (some b)
 own : W.ownsRow B 3 1 v done.length (intsV done)
 low : B ≤ W.heap.size
end Go.Proofs.YtkghpiaoggljjaaGreatDoor.Num

/- package flook: sorted: the rows of an array in the order of a comparison. Conditions: sizes from 1 on, at most thirty rows; the numbers lie in memory; the comparison is an order that makes memory alone. -/
namespace Go.Proofs.YtkghpiaoggljjaaGreatDoor.Num.Fl
open Go.RowKit Go.Lib Num

/-- the source (block A), the result (the next one), the places' row -/
structure SoI (w : World) (r s : Nat) (src v : Value) (n : Nat) (xs : List Value) (W : World) : Prop where
 src : W.heap[w.heap.size]? = some (.cells #[.int .i64 (r : Int), .int .i64 (s : Int), src] 69 (0, 0))
 res : W.heap[w.heap.size + 1]? = some (.cells #[.int .i64 0, .int .i64 0, .slice none 0 0] 69 (0, 0))
 low : Below w.heap.size w W
 own : W.ownsRow (w.heap.size + 2) 3 1 v n xs
section
variable {w W W' : World} {r s n n' : Nat} {src v v' : Value} {xs ys : List Value}
theorem SoI.ge_own (h : SoI w r s src v n xs W) : ∀ b, v.ownBlock = some b → w.heap.size + 2 ≤ b := by
 intro b hb
 rcases h.own.2 with ⟨rfl, _⟩ | ⟨g, cap, cur, rfl, hg, _⟩
 ·simp [Value.ownBlock] at hb
 ·simp [Value.ownBlock] at hb; omega
theorem SoI.step (h : SoI w r s src v n xs W) (hb : Below W.heap.size W W') : SoI w r s src v n xs W' :=
 ⟨keep_block h.src hb, keep_block h.res hb, h.low.trans (hb.mono h.low.size), h.own.kept (only_of_below hb none) (by cases v.ownBlock <;> simp)⟩
theorem SoI.push (h : SoI w r s src v n xs W) (ho : W'.ownsRow (w.heap.size + 2) 3 1 v' n' ys) (hg : W.grownBy W' v.ownBlock) : SoI w r s src v' n' ys W' :=
 ⟨(hg.block _ (heap_lt h.src) (fun e => by have := h.ge_own _ e.symm; omega)).trans h.src, (hg.block _ (heap_lt h.res) (fun e => by have := h.ge_own _ e.symm; omega)).trans h.res, h.low.grown hg h.low.size (fun b e => by have := h.ge_own b e; omega), ho⟩
end
theorem SoI.start (w : World) (r s : Nat) (src : Value) :
  SoI w r s src (.slice none 0 0) 0 [] ((w.alloc (.cells #[.int .i64 (r : Int), .int .i64 (s : Int), src] 69)).alloc (.cells #[.int .i64 0, .int .i64 0, .slice none 0 0] 69)) := by
 obtain ⟨hx, hr, hb⟩ := two_new w (.cells #[.int .i64 (r : Int), .int .i64 (s : Int), src] 69) (.cells #[.int .i64 0, .int .i64 0, .slice none 0 0] 69)
 exact ⟨hx, hr, hb, World.ownsRow_nil _ _ _ _⟩
/-- the first n whole numbers -/
def upTo (n : Nat) : List Int := (List.range n).map fun i : Nat => (i : Int)
theorem upTo_succ (n : Nat) : upTo (n + 1) = upTo n ++ [(n : Int)] := by simp [upTo, List.range_succ]
theorem upTo_len (n : Nat) : (upTo n).length = n := by simp [upTo]
set_option maxHeartbeats 8000000 in
set_option maxRecDepth 100000 in
theorem sorted_arr (r s g L C f : Nat) (cb : Array Value) (cf : Nat → Nat → Int) (qs : List Rat) (w : World) (h1 : 1 ≤ r) (h30 : r ≤ 30) (h2 : 1 ≤ s) (hL : r * s = L) (hq : qs.length = L) (hLC : L ≤ C) (h9 : L ≤ 1000) (hO : ∀ n, Ord cf n) (eg : ∀ args w, (callFunc f args).run Tryz.prog w = .ok (.enter f args) w)
  (hcmp : ∀ W, Below w.heap.size w W → ∀ x y, x < r → y < r → Calls Tryz.prog f (#[.int .i64 (x : Int), .int .i64 (y : Int)] ++ cb) W fun e w' => e = .returned (.int .i64 (cf x y)) ∧ Below W.heap.size W w') (hv : ValsAt w g 0 (numVals qs)) :
  Calls Tryz.prog 141 #[gridC (r : Int) (s : Int) (some ⟨g, 0, none⟩) L C, .func (.func f) #[] cb] w fun e w' => ∃ lg cap, e = .returned (gridC (r : Int) (s : Int) (some ⟨lg, 0, none⟩) L cap) ∧ Below w.heap.size w w' ∧ ValsAt w' lg 0 (numVals (rowsL qs s (sortL cf r))) ∧ w.heap.size ≤ lg ∧ L ≤ cap := by
 obtain ⟨i0, hi0', hz0, hz1, hz2⟩ := info_int
 have TP := Lib.hid (fun B cb d W (hd : ∀ i, i < r → d i < r) (hrow : ∀ i, i < r → W.cell? ⟨B, i, none⟩ = some (.int .i64 ((d i : Nat) : Int))) (hv : ValsAt W g 0 (numVals qs)) => picked_arr r s r g L C B cb d qs W h1 h2 (by omega) hL hq hLC h9 hd hrow hv)
 rw [hL] at TP
 unfold gridC at TP ⊢
 have HO := Lib.hid hO
 have HV := Lib.hid hv
 have HC := Lib.hid hcmp
 have HI := Lib.hid (SoI.start w r s (.slice (some ⟨g, 0, none⟩) L C))
 obtain ⟨W1, hW1⟩ : ∃ Z, (w.alloc (.cells #[.int .i64 (r : Int), .int .i64 (s : Int), .slice (some ⟨g, 0, none⟩) L C] 69)).alloc (.cells #[.int .i64 0, .int .i64 0, .slice none 0 0] 69) = Z := ⟨_, rfl⟩
 rw [hW1] at HI
 have EW := Lib.hid hW1
 clear hL hq hv hcmp hO hLC h9 hW1
 go_enter Tryz.func141, Tryz.ntmps141
 go_upto_region 1 with fail
 rw [EW.out]
 obtain ⟨⟨x0, x1, x2⟩, _⟩ := three_at HI.out.src
 go_upto_region 3 with fail
 clear x0 x1 x2 EW
 go_loopg [5, 6, 9] r (fun gh v5 v6 v9 wx => ∃ (k : Nat), v9 = .int .i64 (k : Int) ∧ k ≤ r ∧ gh = r - k ∧ SoI w r s (.slice (some ⟨g, 0, none⟩) L C) v5 k (intsV (upTo k)) wx)
 case atStart => exact ⟨0, rfl, Nat.zero_le _, rfl, HI.out⟩
 case round =>
  clear HI
  obtain ⟨k, rfl, hk, rfl, hi⟩ := hrel
  by_cases hlt : k < r
  ·have hd1 : decide ((k : Int) < (r : Int)) = true := decide_eq_true (by omega)
   have hd2 : decide (k < r) = true := decide_eq_true hlt
   have hwk : IntKind.i64.wrap ((k : Int) + 1) = (k : Int) + 1 := IntWalk.i64_in _ (by omega)
   have HI := Lib.hid (hi.step ((Below.refl wr.heap.size wr).alloc (Nat.le_refl _) (.cells #[.int .i64 (k : Int)] 3)))
   have hown := HI.out.own
   obtain ⟨av, cv, hu⟩ := owns_form hown
   subst hu
   have HOW := Lib.hid hown
   clear hown hi
   have hml : k + 1 ≤ maxLen := by unfold maxLen; omega
   have HNW := Lib.hid (World.news_of_block (cs := #[.int .i64 (k : Int)]) (t := 3) (fr := (0, 0)) (heap_alloc_new wr (.cells #[.int .i64 (k : Int)] 3)))
   have HBS := Lib.hid (show w.heap.size + 2 ≤ (wr.alloc (.cells #[.int .i64 (k : Int)] 3)).heap.size from heap_lt HI.out.res)
   go_wp2_with (at_builtin; refine wpList_append_own _ rfl _ _ 22 rfl (w.heap.size + 2) 3 i0 _ 1 8 Tryz.underlying22 hi0' hz0 hz1 hz2 rfl (by decide) (.slice av k cv) k (intsV (upTo k)) rfl HOW.out ⟨wr.heap.size, 0, none⟩ 1 1 [.int .i64 (k : Int)] rfl rfl HNW.out (by simp [Value.oneCell']) hml (by omega) HBS.out ?_)
   intro v5 w5 hown5 hgrow5 _
   have HN := Lib.hid (HI.out.push (v' := v5) (n' := k + 1) (ys := intsV (upTo (k + 1))) (by rw [upTo_succ, intsV_snoc]; exact hown5) hgrow5)
   clear hown5 hgrow5
   go_wp2
   go_roundg (r - (k + 1))
   case measure => omega
   case rel => exact ⟨k + 1, by go_num, by omega, by omega, HN.out⟩
  ·have hd1 : decide ((k : Int) < (r : Int)) = false := decide_eq_false (by omega)
   have hd2 : decide (k < r) = false := decide_eq_false hlt
   obtain rfl : k = r := by omega
   obtain ⟨B, cap, rfl, hB, hcap, hin⟩ := ints_at hi.own (upTo_len k) (by omega)
   have HI := Lib.hid hi
   have hBl : B < wr.heap.size := (World.block_lt_of_cell? _ _ (hin 0 (by rw [upTo_len]; omega)) : (⟨B, 0, none⟩ : Addr).block < _)
   have HBG := Lib.hid hB
   have HS0 := Lib.hid (show Mt.SI wr B k (fun i => i) wr from ⟨fun i h => ⟨by
     have := hin i (by rw [upTo_len]; exact h)
     rw [this]; simp [upTo], hi.own.frozenAt i⟩, only_refl wr _, hBl⟩)
   have HGW := Lib.hid (fun W (hg : wr.grownBy W (some B)) => show Below w.heap.size w W from hi.low.grown hg hi.low.size (fun b e => by injection e with e; omega))
   have HCM := Lib.hid (show Mt.CmpOk f cb cf wr B k from fun W hg x y hx hy => HC.out W (HGW.out W hg) x y hx hy)
   have HSORT := Lib.hid (Mt.sort_any wr B k cap f cb cf (HO.out k) eg HCM.out h30 HS0.out)
   clear hi hin hcap hB hBl
   go_wp2_with fail
   refine HSORT.out.mono ?_
   rintro e w2 ⟨rfl, d, hs, hm, ht⟩
   have HS := Lib.hid hs
   have HD := Lib.hid (hm.bound (Nat.le_refl _) (fun i h => h))
   have HEQ := Lib.hid (sortL_of HO.out hm ht)
   have HLW := Lib.hid (HGW.out w2 hs.low)
   have HRS := Lib.hid ((kept_block HI.out.res hs.low (by have := HBG.out; omega)))
   have HSR := Lib.hid ((kept_block HI.out.src hs.low (by have := HBG.out; omega)))
   have HPK := Lib.hid (TP.out B cap d w2 HD.out (fun i h => (HS.out.row i h).1) (HV.out.below HLW.out))
   rw [pickL_eq, HEQ.out] at HPK
   clear hs hm ht
   obtain ⟨⟨x0, x1, x2⟩, _⟩ := three_at HSR.out
   go_wp2_with fail
   refine HPK.out.mono ?_
   rintro e w3 ⟨lg, cap3, rfl, hb, hva, hlg, hcp⟩
   have HVA := Lib.hid hva
   have HLG := Lib.hid (show w.heap.size ≤ lg by have := HLW.out.size; omega)
   have HLT := Lib.hid (show lg ≠ w.heap.size + 1 by have := heap_lt HRS.out; omega)
   have HCP := Lib.hid hcp
   replace HRS := Lib.hid (keep_block HRS.out hb)
   replace HLW := Lib.hid (HLW.out.trans (hb.mono HLW.out.size))
   clear hva hlg hcp hb x0 x1 x2
   obtain ⟨⟨r0, r1, r2⟩, g0, g1, g2⟩ := three_at HRS.out
   obtain ⟨⟨z0, z1, z2⟩, _⟩ := three_at (set3_at HRS.out (.int .i64 (k : Int)) (.int .i64 (s : Int)) (.slice (some ⟨lg, 0, none⟩) L cap3))
   have HLL := Lib.hid (((HLW.out.setCell (p := ⟨w.heap.size + 1, 0, none⟩) (Nat.le_succ _) (.int .i64 (k : Int))).setCell (p := ⟨w.heap.size + 1, 1, none⟩) (Nat.le_succ _) (.int .i64 (s : Int))).setCell (p := ⟨w.heap.size + 1, 2, none⟩) (Nat.le_succ _) (.slice (some ⟨lg, 0, none⟩) L cap3))
   have HVB := Lib.hid (vals_other HVA.out (set3_other w3 (w.heap.size + 1) (.int .i64 (k : Int)) (.int .i64 (s : Int)) (.slice (some ⟨lg, 0, none⟩) L cap3) HLT.out))
   go_wp2
   refine bodyPost_ret (v := .agg #[.int .i64 (k : Int), .int .i64 (s : Int), .slice (some ⟨lg, 0, none⟩) L cap3]) (by simp [results, Tryz.results141, go_sem, z0, z1, z2]) rfl ⟨lg, cap3, rfl, HLL.out, HVB.out, HLG.out, HCP.out⟩
end Go.Proofs.YtkghpiaoggljjaaGreatDoor.Num.Fl

/- package flook: way, and sort at an array, a column and a way. Conditions: sizes from 1 on, at most thirty rows; the numbers fit; the tables lie as they are laid. -/
namespace Go.Proofs.YtkghpiaoggljjaaGreatDoor.Num.Fl
open Go.RowKit Go.Lib Num
set_option maxHeartbeats 4000000 in
set_option maxRecDepth 100000 in
/-- no argument is left: the flag stays -/
theorem flag_none (b L C : Nat) (A : Option Addr) (o0 : Bool) (w : World) (h : ArgsAt w b A L C L) (hL : L ≤ 1000000000) :
  Calls Tryz.prog 127 #[.pointer (some ⟨b, 0, none⟩), .bool o0] w fun e w' => e = .returned (.bool o0) ∧ Below w.heap.size w w' := by
 have TM := Lib.hid (fun W g => more_any b A L C L W g hL)
 rw [decide_eq_false (Nat.lt_irrefl L)] at TM
 have HA := Lib.hid h
 clear h hL
 go_enter Tryz.func127, Tryz.ntmps127
 go_wp2_with fail
 refine (TM.out _ HA.out).mono ?_
 rintro e W0 ⟨rfl, hb⟩
 have HB := Lib.hid hb
 clear hb
 go_wp2
 go_ret
 exact ⟨rfl, HB.out⟩

set_option maxHeartbeats 4000000 in
theorem way_ok (k : Int) (hk : k = 1 ∨ k = -1) (w : World) : Calls Tryz.prog 140 #[.int .i64 k] w fun e w' => e = .returned (.int .i64 k) ∧ w' = w := by
 rcases hk with rfl | rfl
 ·go_enter Tryz.func140, Tryz.ntmps140
  go_wp2_with fail
  refine (stop_no 2 _).mono ?_
  rintro e w1 ⟨rfl, hw⟩
  replace hw := hw.symm
  subst hw
  go_wp2
  go_ret
  exact ⟨rfl, rfl⟩
 ·go_enter Tryz.func140, Tryz.ntmps140
  go_wp2_with fail
  refine (stop_no 2 _).mono ?_
  rintro e w1 ⟨rfl, hw⟩
  replace hw := hw.symm
  subst hw
  go_wp2
  go_ret
  exact ⟨rfl, rfl⟩
set_option maxHeartbeats 8000000 in
set_option maxRecDepth 100000 in
theorem sort_fn (r s c b g C gi L Ci : Nat) (k : Int) (qs : List Rat) (w : World) (hk : k = 1 ∨ k = -1) (h1 : 1 ≤ r) (h30 : r ≤ 30) (h2 : 1 ≤ s) (hs9 : s ≤ 100) (hc : c < s) (hL : r * s = L) (hq : qs.length = L) (h9 : L ≤ 1000) (hLC : L ≤ Ci) (hfit : ∀ q ∈ qs, fits q = true) (ha : ArgsAt w b (some ⟨g, 0, none⟩) 3 C 0) (hv : ValsAt w g 0 [arrVal' (r : Int) (s : Int) gi L Ci, numVal' (((c + 1 : Nat) : Int) : Rat), numVal' ((k : Int) : Rat)]) (hav : ValsAt w gi 0 (numVals qs)) (hne : g ≠ b) (hgi : gi ≠ b) (hE : Env w) (hP : Past b) :
  Calls Tryz.prog 67 #[.pointer (some ⟨b, 0, none⟩)] w fun e w' => ∃ lg cap, e = .returned (.agg #[.int .i64 5, .string { data := #[] }, .string { data := #[] }, .string { data := #[] }, .bool false, .int .i64 0, .int .i64 (r : Int), .int .i64 (s : Int), .slice (some ⟨lg, 0, none⟩) L cap]) ∧ ValsAt w' lg 0 (numVals (rowsL qs s (sortL (Mt.cfS qs s c k) r))) ∧ (w.heap.size ≤ lg ∧ L ≤ cap) ∧ w.grownBy w' (some b) := by
 have h0L : 0 < L := by rw [← hL]; exact Nat.mul_pos h1 h2
 obtain ⟨vs, hvs⟩ : ∃ vs, [arrVal' (r : Int) (s : Int) gi L Ci, numVal' (((c + 1 : Nat) : Int) : Rat), numVal' ((k : Int) : Rat)] = vs := ⟨_, rfl⟩
 have hvl : vs.length = 3 := by rw [← hvs]; rfl
 rw [hvs] at hv
 have HI := Lib.hid (IxI.start (gi := gi) (qs := qs) (by rw [hvl]; exact ha) hv (by omega) hav (by omega) (by omega) (by omega) hne hgi hE hP)
 have TV0 := Lib.hid (fun W (h : IxI w b g C vs gi qs 0 W) => h.value (r : Int) (s : Int) Ci (by omega) (by subst hvs; rw [hq]; rfl))
 have TV1 := Lib.hid (fun W (h : IxI w b g C vs gi qs 1 W) => h.wholeOr ((c + 1 : Nat) : Int) 1 (by omega) (by subst hvs; rfl) (by omega))
 have TV2 := Lib.hid (fun W (h : IxI w b g C vs gi qs 2 W) => h.wholeOr k 1 (by omega) (by subst hvs; rfl) (by rcases hk with e | e <;> rw [e] <;> decide))
 have TF := Lib.hid (fun W (h : IxI w b g C vs gi qs 3 W) => flag_none b 3 C (some ⟨g, 0, none⟩) false W (by have := h.args; rw [hvl] at this; exact this) (by decide))
 have TG := Lib.hid (fun W => grid_arr (r : Int) (s : Int) gi L Ci W)
 unfold arrC gridC at TG
 rw [hq] at TV0
 have HQ := Lib.hid hq
 have HRS := Lib.hid hL
 have HFIT := Lib.hid hfit
 obtain ⟨nn, hnn⟩ : ∃ n, c + 1 = n := ⟨_, rfl⟩
 have hns : nn ≤ s := by omega
 have hn1 : 1 ≤ nn := by omega
 rw [hnn] at TV1
 have HNN := Lib.hid hnn
 have d1 : decide ((nn : Int) < 1) = false := decide_eq_false (by omega)
 have d2 : decide ((s : Int) < (nn : Int)) = false := decide_eq_false (by omega)
 have d2n : decide (s < nn) = false := decide_eq_false (by omega)
 clear ha hv hav hne hgi hE hP hq hL hvs hvl hfit hnn
 go_enter Tryz.func67, Tryz.ntmps67
 go_wp2_with fail
 refine (TV0.out _ HI.out).mono ?_
 rintro e w1 ⟨rfl, hI⟩
 replace HI := Lib.hid hI
 clear hI
 go_wp2_with fail
 refine (TG.out _).mono ?_
 rintro e w2 ⟨rfl, hb⟩
 replace HI := Lib.hid (HI.out.step hb)
 clear hb
 have L3 := Lib.hid (heap_lt HI.out.res)
 have H3 := Lib.hid (heap_alloc_new w2 (.cells #[.int .i64 (r : Int), .int .i64 (s : Int), .slice (some ⟨gi, 0, none⟩) L Ci] 69))
 replace HI := Lib.hid (HI.out.step ((Below.refl w2.heap.size w2).alloc (Nat.le_refl _) (.cells #[.int .i64 (r : Int), .int .i64 (s : Int), .slice (some ⟨gi, 0, none⟩) L Ci] 69)))
 obtain ⟨B3, hB3⟩ : ∃ B, w2.heap.size = B := ⟨_, rfl⟩
 obtain ⟨W1, hW1⟩ : ∃ Z, w2.alloc (.cells #[.int .i64 (r : Int), .int .i64 (s : Int), .slice (some ⟨gi, 0, none⟩) L Ci] 69) = Z := ⟨_, rfl⟩
 rw [hW1] at H3 HI
 rw [hB3] at H3 L3
 have EW := Lib.hid hW1
 have EB := Lib.hid hB3
 clear hW1 hB3
 go_upto_region 2 with fail
 rw [EW.out, EB.out]
 go_wp2_with fail
 refine (TV1.out _ HI.out).mono ?_
 rintro e w3 ⟨rfl, hI, hg⟩
 replace H3 := Lib.hid (kept_block H3.out hg (by have := L3.out; have := HI.out.bl; omega))
 replace HI := Lib.hid hI
 clear hI hg
 go_wp2_with fail
 refine (TV2.out _ HI.out).mono ?_
 rintro e w4 ⟨rfl, hI, hg⟩
 replace H3 := Lib.hid (kept_block H3.out hg (by have := L3.out; have := HI.out.bl; omega))
 replace HI := Lib.hid hI
 clear hI hg
 go_wp2_with fail
 refine (TF.out _ HI.out).mono ?_
 rintro e w5 ⟨rfl, hb⟩
 replace H3 := Lib.hid (keep_block H3.out hb)
 replace HI := Lib.hid (HI.out.step hb)
 clear hb
 go_upto_region 3 with fail
 have L5 := Lib.hid (heap_lt H3.out)
 obtain ⟨hn, hkk, hb⟩ := two_new w5 (.cells #[.int .i64 (nn : Int)] 3) (.cells #[.int .i64 k] 3)
 have HN := Lib.hid hn
 have HK := Lib.hid hkk
 replace H3 := Lib.hid (keep_block H3.out hb)
 replace HI := Lib.hid (HI.out.step hb)
 clear hn hkk hb
 obtain ⟨BN, hBN⟩ : ∃ B, w5.heap.size = B := ⟨_, rfl⟩
 obtain ⟨BK, hBK⟩ : ∃ B, w5.heap.size + 1 = B := ⟨_, rfl⟩
 obtain ⟨W6, hW6⟩ : ∃ Z, ((w5.alloc (.cells #[.int .i64 (nn : Int)] 3)).alloc (.cells #[.int .i64 k] 3)) = Z := ⟨_, rfl⟩
 rw [hW6] at HN HK H3 HI ⊢
 rw [hBK] at HK ⊢
 rw [hBN] at HN ⊢
 have LN := Lib.hid (show B3 < BN by have := L5.out; omega)
 have LK := Lib.hid (show B3 < BK by have := L5.out; omega)
 have LS := Lib.hid (show w.heap.size < B3 from L3.out)
 clear hBN hBK hW6 L5
 have hmf : ∀ (fn : Fn) (first cap : Array Value) (w : World), (Instr.makeFunc fn first cap).run Tryz.prog w = .ok (.func fn first cap) w := fun _ _ _ _ => rfl
 obtain ⟨⟨x0, x1, x2⟩, _⟩ := three_at H3.out
 have xn := Lib.cell_of_heap HN.out 0
 have xk := Lib.cell_of_heap HK.out 0
 have TS := Lib.hid (sorted_arr r s gi L Ci 142 #[.pointer (some ⟨B3, 0, none⟩), .pointer (some ⟨BN, 0, none⟩), .pointer (some ⟨BK, 0, none⟩)] (Mt.cfS qs s c k) qs W6 h1 h30 h2 HRS.out HQ.out hLC h9 (cfS_ord qs s c k hk) (fun _ _ => by kernel_rfl)
  (fun W' hb x y hx hy => Mt.sort1_any r s c x y gi L Ci B3 BN BK k qs W' hk HRS.out HQ.out h9 HFIT.out hx hy hc (keep_block H3.out hb) (by rw [HNN.out]; exact keep_block HN.out hb) (keep_block HK.out hb) (HI.out.step hb).arr (HI.out.step hb).env) HI.out.arr)
 unfold gridC at TS
 go_wp2_with fail
 refine (stop_no 2 _).mono ?_
 rintro e w6 ⟨rfl, hw⟩
 replace hw := hw.symm
 subst hw
 go_wp2_with fail
 refine (way_ok k hk _).mono ?_
 rintro e w6 ⟨rfl, hw⟩
 replace hw := hw.symm
 subst hw
 go_wp2_with fail
 refine TS.out.mono ?_
 rintro e w7 ⟨lg, cap, rfl, hb, hva, hlg, hcp⟩
 have HVA := Lib.hid hva
 have HLG := Lib.hid (show B3 < lg ∧ L ≤ cap from ⟨by have := heap_lt HK.out; have := LK.out; omega, hcp⟩)
 replace H3 := Lib.hid (keep_block H3.out hb)
 replace HI := Lib.hid (HI.out.step hb)
 clear hva hlg hcp hb x0 x1 x2 xn xk hmf
 obtain ⟨⟨x0, x1, x2⟩, y0, y1, y2⟩ := three_at H3.out
 have HVB := Lib.hid (vals_other HVA.out (set3_other w7 B3 (.int .i64 (r : Int)) (.int .i64 (s : Int)) (.slice (some ⟨lg, 0, none⟩) L cap) (show lg ≠ B3 by have := HLG.out; omega)))
 replace H3 := Lib.hid (set3_at H3.out (.int .i64 (r : Int)) (.int .i64 (s : Int)) (.slice (some ⟨lg, 0, none⟩) L cap))
 replace HI := Lib.hid (HI.out.kept (set3_kept w7 B3 (.int .i64 (r : Int)) (.int .i64 (s : Int)) (.slice (some ⟨lg, 0, none⟩) L cap)) LS.out)
 clear HVA
 obtain ⟨W8, hW8⟩ : ∃ Z, ((w7.setCell ⟨B3, 0, none⟩ (.int .i64 (r : Int))).setCell ⟨B3, 1, none⟩ (.int .i64 (s : Int))).setCell ⟨B3, 2, none⟩ (.slice (some ⟨lg, 0, none⟩) L cap) = Z := ⟨_, rfl⟩
 rw [hW8] at HVB H3 HI
 have EW8 := Lib.hid hW8
 clear hW8
 have TW := Lib.hid (fun W => value_arr r s (some ⟨lg, 0, none⟩) L cap W h1 (by omega) h2 hs9)
 unfold gridC arrC at TW
 go_upto_region 8 with fail
 rw [EW8.out]
 clear x0 x1 x2 y0 y1 y2
 obtain ⟨⟨x0, x1, x2⟩, _⟩ := three_at H3.out
 go_wp2_with fail
 refine (TW.out _).mono ?_
 rintro e w9 ⟨rfl, hb⟩
 replace HI := Lib.hid (HI.out.step hb)
 replace HVB := Lib.hid (HVB.out.below hb)
 clear hb x0 x1 x2
 have HR := Lib.hid HI.out.res
 obtain ⟨⟨r0, r1, r2, r3, r4, r5, r6, r7, r8⟩, g0, g1, g2, g3, g4, g5, g6, g7, g8⟩ := nine_at HR.out
 have HF := Lib.hid (set9_at HR.out (.int .i64 5) (.string { data := #[] }) (.string { data := #[] }) (.string { data := #[] }) (.bool false) (.int .i64 0) (.int .i64 (r : Int)) (.int .i64 (s : Int)) (.slice (some ⟨lg, 0, none⟩) L cap))
 have HG9 := Lib.hid (kept_set9 HI.out.low (Nat.le_refl _) (.int .i64 5) (.string { data := #[] }) (.string { data := #[] }) (.string { data := #[] }) (.bool false) (.int .i64 0) (.int .i64 (r : Int)) (.int .i64 (s : Int)) (.slice (some ⟨lg, 0, none⟩) L cap))
 obtain ⟨⟨z0, z1, z2, z3, z4, z5, z6, z7, z8⟩, _⟩ := nine_at HF.out
 have HVC := Lib.hid (vals_other HVB.out (set9_other w9 w.heap.size (.int .i64 5) (.string { data := #[] }) (.string { data := #[] }) (.string { data := #[] }) (.bool false) (.int .i64 0) (.int .i64 (r : Int)) (.int .i64 (s : Int)) (.slice (some ⟨lg, 0, none⟩) L cap) (show lg ≠ w.heap.size by have := HLG.out; have := LS.out; omega)))
 go_wp2
 refine bodyPost_ret (v := .agg #[.int .i64 5, .string { data := #[] }, .string { data := #[] }, .string { data := #[] }, .bool false, .int .i64 0, .int .i64 (r : Int), .int .i64 (s : Int), .slice (some ⟨lg, 0, none⟩) L cap]) (by simp [results, Tryz.results67, go_sem, z0, z1, z2, z3, z4, z5, z6, z7, z8]) rfl ⟨lg, cap, rfl, HVC.out, ⟨by have := HLG.out; have := LS.out; omega, HLG.out.2⟩, HG9.out⟩
end Go.Proofs.YtkghpiaoggljjaaGreatDoor.Num.Fl
