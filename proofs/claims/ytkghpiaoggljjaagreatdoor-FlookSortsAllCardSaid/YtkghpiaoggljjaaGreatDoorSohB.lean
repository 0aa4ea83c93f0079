/- Numbers as texts of digits, fractions, values and the functions of fmath: contracts of the program's functions, joined from smaller texts. Conditions stand at each theorem. -/
import Derived.Test.YtkghpiaoggljjaaGreatDoorSohA
import Derived.Deep.DeepCutAuto
set_option linter.unusedVariables false
set_option linter.unusedSimpArgs false

/- the laws' own table of some columns: at most 30 numbers. Conditions: the tables lie as they are laid. -/
namespace Go.Proofs.YtkghpiaoggljjaaGreatDoor.Num
open Go.RowKit Go.Lib

/-- the number at place i -/
def cellN (ns : List Int) (i : Nat) : Int := if h : i < ns.length then ns[i] % 7 else (i : Int)
/-- how many rows -/
def rowsN (L s : Nat) : Nat := max 1 (min L 30 / s)
/-- the table's numbers -/
def tabN (ns : List Int) (s : Nat) : List Int := (List.range (rowsN ns.length s * s)).map (cellN ns)
theorem tabN_len (ns : List Int) (s : Nat) : (tabN ns s).length = rowsN ns.length s * s := by simp [tabN]
theorem rows_bounds (L s : Nat) (hs : 1 ≤ s) (hs9 : s ≤ 30) : 1 ≤ rowsN L s ∧ rowsN L s ≤ 30 ∧ rowsN L s * s ≤ 30 ∧ (L < rowsN L s * s → rowsN L s = 1) := by
  have h1 : min L 30 / s ≤ min L 30 := Nat.div_le_self _ _
  have h2 : min L 30 / s * s ≤ min L 30 := Nat.div_mul_le_self _ _
  unfold rowsN
  rcases Nat.le_total (min L 30 / s) 1 with h | h
  · rw [Nat.max_eq_left h]
    refine ⟨by omega, by omega, by omega, fun _ => rfl⟩
  · rw [Nat.max_eq_right h]
    refine ⟨by omega, by omega, by omega, fun h => by omega⟩
theorem tabN_range (ns : List Int) (s : Nat) (hs : 1 ≤ s) (hs9 : s ≤ 7) : ∀ x ∈ tabN ns s, 0 ≤ x ∧ x ≤ 6 := by
  intro x hx
  obtain ⟨i, hi, rfl⟩ := List.mem_map.1 hx
  rw [List.mem_range] at hi
  obtain ⟨h1, h2, h3, h4⟩ := rows_bounds ns.length s hs (by omega)
  unfold cellN
  split
  · omega
  · rename_i h
    have : rowsN ns.length s = 1 := h4 (by omega)
    rw [this] at hi
    omega
/-- what stays while the values are collected: the result's block, the value's block, the row -/
structure TabJ (w : World) (c s : Nat) (bv v : Value) (done : List Rat) (W : World) : Prop where
  res : W.heap[w.heap.size]? = some (.cells #[.int .i64 0, .string { data := #[] }, .string { data := #[] }, .string { data := #[] }, .bool false, .int .i64 0, .int .i64 0, .int .i64 0, .slice none 0 0] 27 (0, 0))
  box : W.heap[w.heap.size + 1]? = some (.cells #[.int .i64 5, .string { data := #[] }, .string { data := #[] }, .string { data := #[] }, .bool false, .int .i64 0, .int .i64 (c : Int), .int .i64 (s : Int), bv] 27 (0, 0))
  low : Below w.heap.size w W
  own : W.ownsRow (w.heap.size + 2) 27 9 v done.length (flat (numVals done))
theorem TabJ.step {w W W' : World} {c s : Nat} {bv v : Value} {done : List Rat} (h : TabJ w c s bv v done W) (hb : Below W.heap.size W W') : TabJ w c s bv v done W' :=
  ⟨keep_block h.res hb, keep_block h.box hb, h.low.trans (hb.mono h.low.size), h.own.kept (only_of_below hb none) (by cases v.ownBlock <;> simp)⟩
theorem TabJ.size {w W : World} {c s : Nat} {bv v : Value} {done : List Rat} (h : TabJ w c s bv v done W) : w.heap.size + 2 ≤ W.heap.size := heap_lt h.box
theorem TabJ.push {w W W' : World} {c s : Nat} {bv v v' : Value} {done : List Rat} {q : Rat} (h : TabJ w c s bv v done W) (ho : W'.ownsRow (w.heap.size + 2) 27 9 v' (done.length + 1) (flat (numVals done) ++ (numVal' q).cells)) (hg : W.grownBy W' v.ownBlock) : TabJ w c s bv v' (done ++ [q]) W' := by
  have hge : ∀ r, v.ownBlock = some r → w.heap.size + 2 ≤ r := owned_lt h.own
  have hother : ∀ k, k < w.heap.size + 2 → W'.heap[k]? = W.heap[k]? := fun k hk => hg.block k (Nat.lt_of_lt_of_le hk h.size) (fun e => by have := hge k e.symm; omega)
  exact ⟨(hother _ (by omega)).trans h.res, (hother _ (by omega)).trans h.box, h.low.grown hg h.low.size (fun r hr => by have := hge r hr; omega), by rw [numVals_snoc, List.length_append]; exact ho⟩
theorem TabJ.store {w W : World} {c s : Nat} {bv v : Value} {done : List Rat} (h : TabJ w c s bv v done W) : TabJ w c s v v done (W.setCell ⟨w.heap.size + 1, 8, none⟩ v) := by
  refine ⟨(Below.heap_setCell _ ⟨w.heap.size + 1, 8, none⟩ v w.heap.size (by simp only []; omega)).trans h.res, ?_, h.low.setCell (p := ⟨w.heap.size + 1, 8, none⟩) (by simp only []; omega) _, ownsRow_setCell_below h.own (a := ⟨w.heap.size + 1, 8, none⟩) (by simp only []; omega) v⟩
  have := heap_setCell_at h.box 8 v
  rw [this]; rfl


end Go.Proofs.YtkghpiaoggljjaaGreatDoor.Num

/- The laws' own table at any slice of ints: its row's capacity too. Conditions: the ints lie in memory; the tables lie as they are laid. -/
namespace Go.Proofs.YtkghpiaoggljjaaGreatDoor.Num
open Go.RowKit Go.Lib
set_option maxHeartbeats 8000000 in
set_option maxRecDepth 100000 in
theorem ktable_cap (A : Option Addr) (ns : List Int) (L C s : Nat) (w : World) (hs : 1 ≤ s) (hs9 : s ≤ 30) (hi : IntsIn w A L C ns) (hE : Env w) :
    Calls Tryz.prog 4 #[.slice A L C, .int .i64 (s : Int)] w fun e w' => ∃ g cap, e = .returned (.agg #[.int .i64 5, .string { data := #[] }, .string { data := #[] }, .string { data := #[] }, .bool false, .int .i64 0, .int .i64 (rowsN L s : Int), .int .i64 (s : Int), .slice (some ⟨g, 0, none⟩) (rowsN L s * s) cap]) ∧ ValsAt w' g 0 (numVals (over 1 (tabN ns s))) ∧ (w.heap.size ≤ g ∧ rowsN L s * s ≤ cap) ∧ Below w.heap.size w w' := by
  have hm := hi.max
  obtain ⟨hr1, hr9, hn9, _⟩ := rows_bounds L s hs hs9
  obtain ⟨r, hr⟩ : ∃ r, rowsN L s = r := ⟨_, rfl⟩
  obtain ⟨n, hn⟩ : ∃ n, r * s = n := ⟨_, rfl⟩
  obtain ⟨m, hmm⟩ : ∃ m, min L 30 = m := ⟨_, rfl⟩
  obtain ⟨d, hd⟩ : ∃ d, m / s = d := ⟨_, rfl⟩
  have hrd : max 1 d = r := by rw [← hr, ← hd, ← hmm]; rfl
  have hm30 : m ≤ 30 := by omega
  have hdm : d ≤ m := by rw [← hd]; exact Nat.div_le_self _ _
  have hmin : min (L : Int) 30 = (m : Int) := by omega
  have hdiv : (m : Int) / (s : Int) = (d : Int) := by rw [← hd]; exact (Int.natCast_ediv m s).symm
  have hdiv2 : (m : Int).tdiv (s : Int) = (d : Int) := by rw [Int.tdiv_eq_ediv_of_nonneg (by omega), hdiv]
  have hdw : IntKind.i64.wrap (d : Int) = (d : Int) := IntWalk.i64_in _ (by omega)
  have hs0 : ((s : Int) = 0) = False := eq_false (by omega)
  have hs1 : (s = 0) = False := eq_false (by omega)
  have hs2 : decide (s = 0) = false := decide_eq_false (by omega)
  have hmax : max (1 : Int) (d : Int) = (r : Int) := by omega
  have hprod : (r : Int) * (s : Int) = (n : Int) := by rw [← hn, Int.natCast_mul]
  have hpw : IntKind.i64.wrap (n : Int) = (n : Int) := IntWalk.i64_in _ (by rw [hr, hn] at hn9; omega)
  rw [hr, hn] at hn9
  rw [hr] at hr1 hr9
  have hn0 : 0 < n := by rw [← hn]; exact Nat.mul_pos hr1 hs
  have htl : (tabN ns s).length = n := by rw [tabN_len, hi.len, hr, hn]
  have HQ := Lib.hid (show ∀ (k : Nat) (hk : k < n), ((over 1 (tabN ns s)).take (k + 1) = (over 1 (tabN ns s)).take k ++ [((cellN ns k : Int) : Rat)]) ∧ ((over 1 (tabN ns s)).take k).length = k by
    intro k hk
    have hk2 : k < (over 1 (tabN ns s)).length := by rw [over_len, htl]; exact hk
    refine ⟨?_, by rw [List.length_take]; omega⟩
    rw [List.take_succ_eq_append_getElem hk2]
    simp [over_one, tabN])
  have HQL := Lib.hid (show (over 1 (tabN ns s)).length = n by rw [over_len, htl])
  obtain ⟨qs, hqs⟩ : ∃ qs, over 1 (tabN ns s) = qs := ⟨_, rfl⟩
  rw [hqs] at HQ HQL ⊢
  rw [hr, hn]
  have HI := Lib.hid hi
  have HEW := Lib.hid hE
  have hb2 : Below w.heap.size w ((w.alloc (.cells #[.int .i64 0, .string { data := #[] }, .string { data := #[] }, .string { data := #[] }, .bool false, .int .i64 0, .int .i64 0, .int .i64 0, .slice none 0 0] 27)).alloc (.cells #[.int .i64 5, .string { data := #[] }, .string { data := #[] }, .string { data := #[] }, .bool false, .int .i64 0, .int .i64 (r : Int), .int .i64 (s : Int), .slice none 0 0] 27)) := ((Below.refl _ _).alloc (Nat.le_refl _) _).alloc (by simp) _
  have HI0 := Lib.hid (show TabJ w r s (.slice none 0 0) (.slice none 0 0) [] _ from ⟨keep_block (heap_alloc_new w _) ((Below.refl _ _).alloc (Nat.le_refl _) _), by have := heap_alloc_new (w.alloc (.cells #[.int .i64 0, .string { data := #[] }, .string { data := #[] }, .string { data := #[] }, .bool false, .int .i64 0, .int .i64 0, .int .i64 0, .slice none 0 0] 27)) (.cells #[.int .i64 5, .string { data := #[] }, .string { data := #[] }, .string { data := #[] }, .bool false, .int .i64 0, .int .i64 (r : Int), .int .i64 (s : Int), .slice none 0 0] 27); rw [World.size_alloc] at this; exact this, hb2, World.ownsRow_nil _ _ _ _⟩)
  obtain ⟨i0, hi0', hz0, hz1, hz2⟩ := info_val
  clear hb2 hqs hi hE hr hn hmm hd hrd htl
  go_enter Tryz.func4, Tryz.ntmps4
  go_wp2_with fail
  go_loopg [20] n (fun gh v15 wx => ∃ k v, v15 = .int .i64 ((k : Nat) : Int) ∧ k ≤ n ∧ gh = n - k ∧ TabJ w r s v v (qs.take k) wx)
  case atStart => exact ⟨0, _, rfl, Nat.zero_le _, rfl, HI0.out⟩
  case round =>
    clear HI0
    obtain ⟨k, v, rfl, hk, rfl, hti⟩ := hrel
    have HTI := Lib.hid hti
    by_cases hlt : k < n
    · have hd : decide ((k : Int) < (n : Int)) = true := decide_eq_true (by omega)
      have hd2 : decide (k < n) = true := decide_eq_true hlt
      by_cases hkL : k < L
      · obtain ⟨htk, hdl⟩ := HQ.out k hlt
        have hdL : decide ((k : Int) < (L : Int)) = true := decide_eq_true (by omega)
        have hdL2 : decide (k < L) = true := decide_eq_true (by omega)
        obtain ⟨A', hA', hCI⟩ := HI.out.src (by omega)
        subst hA'
        have hkn : k < ns.length := by rw [HI.out.len]; exact hkL
        have hcell := cell_below (hCI k hkn) HTI.out.low
        obtain ⟨hb1, hb2⟩ := HI.out.rng _ (List.getElem_mem hkn)
        obtain ⟨z, hz⟩ : ∃ z, ns[k] = z := ⟨_, rfl⟩
        have hval : cellN ns k = z % 7 := by unfold cellN; rw [dif_pos hkn, hz]
        rw [hz] at hcell hb1 hb2
        rw [hval] at htk
        have TN := Lib.hid (fun W g => kwhole_any (z % 7) W (by omega) (by omega) g)
        have TM := Lib.hid (fun W => kmod_any z 7 hb1 hb2 (by decide) (by decide) W)
        obtain ⟨q, hq⟩ : ∃ q, ((z % 7 : Int) : Rat) = q := ⟨_, rfl⟩
        rw [hq] at TN htk
        rw [numVal_is q] at TN
        have HTK := Lib.hid htk
        have HDL := Lib.hid hdl
        have hown := hti.own
        rw [hdl] at hown
        obtain ⟨av, cv, hu⟩ := owns_form hown
        subst hu
        have hi0 : (0 : Int) ≤ (k : Int) := by omega
        have hi1 : (k : Int) < (n : Int) := by omega
        have hi2 : (k : Int) < (L : Int) := by omega
        have hml : k + 1 ≤ maxLen := by unfold maxLen; omega
        clear hti hown htk hdl hb1 hb2 hz hq hkn hval hkL hCI
        go_wp2_with fail
        refine (TM.out _).mono ?_
        intro e W1 hW1
        obtain ⟨hW2, hW3⟩ := hW1
        rw [hW2, hW3]
        clear hW2 hW3 W1 e
        go_upto_region 8 with fail
        clear hcell
        replace HTI := Lib.hid (HTI.out.step ((Below.refl wr.heap.size wr).drew))
        obtain ⟨⟨x0, x1, x2, x3, x4, x5, x6, x7, x8⟩, y0, y1, y2, y3, y4, y5, y6, y7, y8⟩ := nine_at HTI.out.box
        go_region_law (first
          | (have HT3 := Lib.hid (HT2.out.step ((Below.refl W2.heap.size W2).alloc (Nat.le_refl _) (.cells #[.int .i64 1, .string (numS q), .string (denS q), .string { data := #[] }, .bool false, .int .i64 0, .int .i64 0, .int .i64 0, .slice none 0 0] 27)));
             have HOW := Lib.hid (show (W2.alloc (.cells #[.int .i64 1, .string (numS q), .string (denS q), .string { data := #[] }, .bool false, .int .i64 0, .int .i64 0, .int .i64 0, .slice none 0 0] 27)).ownsRow (w.heap.size + 2) 27 9 (.slice av k cv) k (flat (numVals (qs.take k))) from by have := HT3.out.own; rw [HDL.out] at this; exact this);
             have HNW := Lib.hid (World.news_of_block (cs := #[.int .i64 1, .string (numS q), .string (denS q), .string { data := #[] }, .bool false, .int .i64 0, .int .i64 0, .int .i64 0, .slice none 0 0]) (t := 27) (fr := (0, 0)) (heap_alloc_new W2 (.cells #[.int .i64 1, .string (numS q), .string (denS q), .string { data := #[] }, .bool false, .int .i64 0, .int .i64 0, .int .i64 0, .slice none 0 0] 27)));
             refine step_append_own rfl _ _ 25 rfl (w.heap.size + 2) 27 i0 _ 9 112 Tryz.underlying25 hi0' hz0 hz1 hz2 rfl (by decide) (.slice av k cv) k (flat (numVals (qs.take k))) (by simp [Act.eval]) HOW.out ⟨W2.heap.size, 0, none⟩ 1 1 [.int .i64 1, .string (numS q), .string (denS q), .string { data := #[] }, .bool false, .int .i64 0, .int .i64 0, .int .i64 0, .slice none 0 0] (by simp [Act.eval]) rfl HNW.out (by simp [Value.oneCell']) hml (by omega) HT3.out.size ?_;
             intro v5 w5 hown5 hgrow5;
             obtain ⟨a5, c5, hu5⟩ := owns_form hown5;
             subst hu5;
             have HT5 := Lib.hid (HT3.out.push (by rw [HDL.out]; exact hown5) hgrow5);
             rw [← HTK.out] at HT5;
             clear hown5 hgrow5 HT3 HOW HNW;
             obtain ⟨⟨x0, x1, x2, x3, x4, x5, x6, x7, x8⟩, y0, y1, y2, y3, y4, y5, y6, y7, y8⟩ := nine_at HT5.out.box)
          | (go_simp; go_at_call 7; (with_reducible refine (TN.out _ (HEW.out.below HTI.out.low)).mono ?_); rintro e W2 ⟨rfl, hb⟩; have HT2 := Lib.hid (HTI.out.step hb); clear hb; obtain ⟨⟨x0, x1, x2, x3, x4, x5, x6, x7, x8⟩, y0, y1, y2, y3, y4, y5, y6, y7, y8⟩ := nine_at HT2.out.box; obtain ⟨⟨_, _, _, _, _, _, _, _, z8⟩, _⟩ := nine_at (HT2.out.step ((Below.refl W2.heap.size W2).alloc (Nat.le_refl _) (.cells #[.int .i64 1, .string (numS q), .string (denS q), .string { data := #[] }, .bool false, .int .i64 0, .int .i64 0, .int .i64 0, .slice none 0 0] 27))).box))
        all_goals
          have HT6 := Lib.hid HT5.out.store
          go_wp2
          go_roundg (n - (k + 1))
          case measure => omega
          case rel => exact ⟨k + 1, _, by go_num, by omega, by omega, HT6.out⟩
      · obtain ⟨htk, hdl⟩ := HQ.out k hlt
        have hdL : decide ((k : Int) < (L : Int)) = false := decide_eq_false (by omega)
        have hdL2 : decide (k < L) = false := decide_eq_false (by omega)
        have hval : cellN ns k = (k : Int) := by unfold cellN; rw [dif_neg (by rw [HI.out.len]; exact hkL)]
        rw [hval] at htk
        have TN := Lib.hid (fun W g => kwhole_any (k : Int) W (by omega) (by omega) g)
        obtain ⟨q, hq⟩ : ∃ q, ((k : Int) : Rat) = q := ⟨_, rfl⟩
        rw [hq] at TN htk
        rw [numVal_is q] at TN
        have HTK := Lib.hid htk
        have HDL := Lib.hid hdl
        have hown := hti.own
        rw [hdl] at hown
        obtain ⟨av, cv, hu⟩ := owns_form hown
        subst hu
        have hi0 : (0 : Int) ≤ (k : Int) := by omega
        have hi1 : (k : Int) < (n : Int) := by omega
        have hml : k + 1 ≤ maxLen := by unfold maxLen; omega
        clear hti hown htk hdl hq hval hkL
        go_upto_region 8 with fail
        replace HTI := Lib.hid (HTI.out.step ((Below.refl wr.heap.size wr).drew))
        obtain ⟨⟨x0, x1, x2, x3, x4, x5, x6, x7, x8⟩, y0, y1, y2, y3, y4, y5, y6, y7, y8⟩ := nine_at HTI.out.box
        go_region_law (first
          | (have HT3 := Lib.hid (HT2.out.step ((Below.refl W2.heap.size W2).alloc (Nat.le_refl _) (.cells #[.int .i64 1, .string (numS q), .string (denS q), .string { data := #[] }, .bool false, .int .i64 0, .int .i64 0, .int .i64 0, .slice none 0 0] 27)));
             have HOW := Lib.hid (show (W2.alloc (.cells #[.int .i64 1, .string (numS q), .string (denS q), .string { data := #[] }, .bool false, .int .i64 0, .int .i64 0, .int .i64 0, .slice none 0 0] 27)).ownsRow (w.heap.size + 2) 27 9 (.slice av k cv) k (flat (numVals (qs.take k))) from by have := HT3.out.own; rw [HDL.out] at this; exact this);
             have HNW := Lib.hid (World.news_of_block (cs := #[.int .i64 1, .string (numS q), .string (denS q), .string { data := #[] }, .bool false, .int .i64 0, .int .i64 0, .int .i64 0, .slice none 0 0]) (t := 27) (fr := (0, 0)) (heap_alloc_new W2 (.cells #[.int .i64 1, .string (numS q), .string (denS q), .string { data := #[] }, .bool false, .int .i64 0, .int .i64 0, .int .i64 0, .slice none 0 0] 27)));
             refine step_append_own rfl _ _ 25 rfl (w.heap.size + 2) 27 i0 _ 9 112 Tryz.underlying25 hi0' hz0 hz1 hz2 rfl (by decide) (.slice av k cv) k (flat (numVals (qs.take k))) (by simp [Act.eval]) HOW.out ⟨W2.heap.size, 0, none⟩ 1 1 [.int .i64 1, .string (numS q), .string (denS q), .string { data := #[] }, .bool false, .int .i64 0, .int .i64 0, .int .i64 0, .slice none 0 0] (by simp [Act.eval]) rfl HNW.out (by simp [Value.oneCell']) hml (by omega) HT3.out.size ?_;
             intro v5 w5 hown5 hgrow5;
             obtain ⟨a5, c5, hu5⟩ := owns_form hown5;
             subst hu5;
             have HT5 := Lib.hid (HT3.out.push (by rw [HDL.out]; exact hown5) hgrow5);
             rw [← HTK.out] at HT5;
             clear hown5 hgrow5 HT3 HOW HNW;
             obtain ⟨⟨x0, x1, x2, x3, x4, x5, x6, x7, x8⟩, y0, y1, y2, y3, y4, y5, y6, y7, y8⟩ := nine_at HT5.out.box)
          | (go_simp; go_at_call 7; (with_reducible refine (TN.out _ (HEW.out.below HTI.out.low)).mono ?_); rintro e W2 ⟨rfl, hb⟩; have HT2 := Lib.hid (HTI.out.step hb); clear hb; obtain ⟨⟨x0, x1, x2, x3, x4, x5, x6, x7, x8⟩, y0, y1, y2, y3, y4, y5, y6, y7, y8⟩ := nine_at HT2.out.box; obtain ⟨⟨_, _, _, _, _, _, _, _, z8⟩, _⟩ := nine_at (HT2.out.step ((Below.refl W2.heap.size W2).alloc (Nat.le_refl _) (.cells #[.int .i64 1, .string (numS q), .string (denS q), .string { data := #[] }, .bool false, .int .i64 0, .int .i64 0, .int .i64 0, .slice none 0 0] 27))).box))
        all_goals
          have HT6 := Lib.hid HT5.out.store
          go_wp2
          go_roundg (n - (k + 1))
          case measure => omega
          case rel => exact ⟨k + 1, _, by go_num, by omega, by omega, HT6.out⟩
    · have hd : decide ((k : Int) < (n : Int)) = false := decide_eq_false (by omega)
      have hd2 : decide (k < n) = false := decide_eq_false hlt
      have hkL : k = n := by omega
      have hall : qs.take k = qs := by rw [hkL, ← HQL.out, List.take_length]
      rw [hall] at HTI
      have hown := HTI.out.own
      rw [HQL.out] at hown
      obtain ⟨g, cap, hv, hg, hcap, hva⟩ := vals_of_owns hown (by rw [numVals_len]; exact HQL.out) hn0
      have HCAP := Lib.hid hcap
      subst hv
      clear hti hall hkL hlt hown
      obtain ⟨⟨x0, x1, x2, x3, x4, x5, x6, x7, x8⟩, y0, y1, y2, y3, y4, y5, y6, y7, y8⟩ := nine_at HTI.out.box
      obtain ⟨⟨r0, r1, r2, r3, r4, r5, r6, r7, r8⟩, g0, g1, g2, g3, g4, g5, g6, g7, g8⟩ := nine_at HTI.out.res
      have HVA := Lib.hid (vals_other hva (set9_other wr w.heap.size (.int .i64 5) (.string { data := #[] }) (.string { data := #[] }) (.string { data := #[] }) (.bool false) (.int .i64 0) (.int .i64 (r : Int)) (.int .i64 (s : Int)) (.slice (some ⟨g, 0, none⟩) n cap) (show g ≠ w.heap.size by omega)))
      obtain ⟨nb, z0, z1, z2, z3, z4, z5, z6, z7, z8⟩ := nine_end (x0 := (.int .i64 5)) (x1 := (.string { data := #[] })) (x2 := (.string { data := #[] })) (x3 := (.string { data := #[] })) (x4 := (.bool false)) (x5 := (.int .i64 0)) (x6 := (.int .i64 (r : Int))) (x7 := (.int .i64 (s : Int))) (x8 := (.slice (some ⟨g, 0, none⟩) n cap)) HTI.out.res HTI.out.low (Nat.le_refl _)
      have NB := Lib.hid nb
      clear hva nb
      go_wp2
      refine bodyPost_ret (v := (arrVal' (r : Int) (s : Int) g n cap).agg) (by simp [arrVal', Val.agg, results, Tryz.results4, go_sem, z0, z1, z2, z3, z4, z5, z6, z7, z8]) rfl ⟨g, cap, rfl, HVA.out, ⟨by omega, HCAP.out⟩, NB.out⟩
end Go.Proofs.YtkghpiaoggljjaaGreatDoor.Num

/- What the law FlookSortsAll's walk asks of the functions. No conditions. -/
namespace Go.Proofs.YtkghpiaoggljjaaGreatDoor.Num.Fl
open Go.RowKit Go.Lib Num
/-- what the law's look gives at SORT, at SORTBY, at INDEX; where there is one row -/
def SoC (r s L : Nat) (nq kq : Rat) (qs its : List Rat) : Prop := ∀ (W : World) (G lg cap : Nat), W.heap[G]? = some (.cells #[.int .i64 5, .string { data := #[] }, .string { data := #[] }, .string { data := #[] }, .bool false, .int .i64 0, .int .i64 (r : Int), .int .i64 (s : Int), .slice (some ⟨lg, 0, none⟩) L cap, .int .i64 1, .string (numS nq), .string (denS nq), .string { data := #[] }, .bool false, .int .i64 0, .int .i64 0, .int .i64 0, .slice none 0 0, .int .i64 1, .string (numS kq), .string (denS kq), .string { data := #[] }, .bool false, .int .i64 0, .int .i64 0, .int .i64 0, .slice none 0 0] 27 (0, 0)) → ValsAt W lg 0 (numVals qs) → L ≤ cap → Env W → Calls Tryz.prog 6 #[.string { data := #[83, 79, 82, 84] }, .slice (some ⟨G, 0, none⟩) 3 3] W fun e w' => ∃ lg cap, e = .returned (.agg #[.int .i64 5, .string { data := #[] }, .string { data := #[] }, .string { data := #[] }, .bool false, .int .i64 0, .int .i64 (r : Int), .int .i64 (s : Int), .slice (some ⟨lg, 0, none⟩) L cap]) ∧ (ValsAt w' lg 0 (numVals its) ∧ W.heap.size ≤ lg ∧ L ≤ cap) ∧ True ∧ Below W.heap.size W w'
theorem SoC.on {r s L : Nat} {nq kq : Rat} {qs its : List Rat} (h : SoC r s L nq kq qs its) (B : Nat) (W : World) (G lg cap : Nat) (hg : W.heap[G]? = some (.cells #[.int .i64 5, .string { data := #[] }, .string { data := #[] }, .string { data := #[] }, .bool false, .int .i64 0, .int .i64 (r : Int), .int .i64 (s : Int), .slice (some ⟨lg, 0, none⟩) L cap, .int .i64 1, .string (numS nq), .string (denS nq), .string { data := #[] }, .bool false, .int .i64 0, .int .i64 0, .int .i64 0, .slice none 0 0, .int .i64 1, .string (numS kq), .string (denS kq), .string { data := #[] }, .bool false, .int .i64 0, .int .i64 0, .int .i64 0, .slice none 0 0] 27 (0, 0))) (hv : ValsAt W lg 0 (numVals qs)) (hc : L ≤ cap) (hE : Env W) (hB : B ≤ W.heap.size) : Calls Tryz.prog 6 #[.string { data := #[83, 79, 82, 84] }, .slice (some ⟨G, 0, none⟩) 3 3] W fun e w' => ∃ lg cap, e = .returned (.agg #[.int .i64 5, .string { data := #[] }, .string { data := #[] }, .string { data := #[] }, .bool false, .int .i64 0, .int .i64 (r : Int), .int .i64 (s : Int), .slice (some ⟨lg, 0, none⟩) L cap]) ∧ (ValsAt w' lg 0 (numVals its) ∧ B ≤ lg ∧ L ≤ cap) ∧ True ∧ Below W.heap.size W w' := by
  refine (h W G lg cap hg hv hc hE).mono ?_
  rintro e w' ⟨lg, cap, rfl, ⟨hv, hl, hc⟩, ht, hb⟩
  exact ⟨lg, cap, rfl, ⟨hv, Nat.le_trans hB hl, hc⟩, ht, hb⟩
def SbC (r s L : Nat) (kq : Rat) (qs ks its : List Rat) : Prop := ∀ (W : World) (G lg cap gk ck : Nat), W.heap[G]? = some (.cells #[.int .i64 5, .string { data := #[] }, .string { data := #[] }, .string { data := #[] }, .bool false, .int .i64 0, .int .i64 (r : Int), .int .i64 (s : Int), .slice (some ⟨lg, 0, none⟩) L cap, .int .i64 5, .string { data := #[] }, .string { data := #[] }, .string { data := #[] }, .bool false, .int .i64 0, .int .i64 (r : Int), .int .i64 1, .slice (some ⟨gk, 0, none⟩) r ck, .int .i64 1, .string (numS kq), .string (denS kq), .string { data := #[] }, .bool false, .int .i64 0, .int .i64 0, .int .i64 0, .slice none 0 0] 27 (0, 0)) → ValsAt W lg 0 (numVals qs) → ValsAt W gk 0 (numVals ks) → L ≤ cap → Env W → Calls Tryz.prog 6 #[.string { data := #[83, 79, 82, 84, 66, 89] }, .slice (some ⟨G, 0, none⟩) 3 3] W fun e w' => ∃ lg cap, e = .returned (.agg #[.int .i64 5, .string { data := #[] }, .string { data := #[] }, .string { data := #[] }, .bool false, .int .i64 0, .int .i64 (r : Int), .int .i64 (s : Int), .slice (some ⟨lg, 0, none⟩) L cap]) ∧ ValsAt w' lg 0 (numVals its) ∧ True ∧ Below W.heap.size W w'
theorem SbC.on {r s L : Nat} {kq : Rat} {qs ks its : List Rat} (h : SbC r s L kq qs ks its) (W : World) (G lg cap gk ck : Nat) (hg : W.heap[G]? = some (.cells #[.int .i64 5, .string { data := #[] }, .string { data := #[] }, .string { data := #[] }, .bool false, .int .i64 0, .int .i64 (r : Int), .int .i64 (s : Int), .slice (some ⟨lg, 0, none⟩) L cap, .int .i64 5, .string { data := #[] }, .string { data := #[] }, .string { data := #[] }, .bool false, .int .i64 0, .int .i64 (r : Int), .int .i64 1, .slice (some ⟨gk, 0, none⟩) r ck, .int .i64 1, .string (numS kq), .string (denS kq), .string { data := #[] }, .bool false, .int .i64 0, .int .i64 0, .int .i64 0, .slice none 0 0] 27 (0, 0))) (hv : ValsAt W lg 0 (numVals qs)) (hk : ValsAt W gk 0 (numVals ks)) (hc : L ≤ cap) (hE : Env W) : Calls Tryz.prog 6 #[.string { data := #[83, 79, 82, 84, 66, 89] }, .slice (some ⟨G, 0, none⟩) 3 3] W fun e w' => ∃ lg cap, e = .returned (.agg #[.int .i64 5, .string { data := #[] }, .string { data := #[] }, .string { data := #[] }, .bool false, .int .i64 0, .int .i64 (r : Int), .int .i64 (s : Int), .slice (some ⟨lg, 0, none⟩) L cap]) ∧ ValsAt w' lg 0 (numVals its) ∧ True ∧ Below W.heap.size W w' := h W G lg cap gk ck hg hv hk hc hE
def IxC (r s L : Nat) (z nq : Rat) (qs ks : List Rat) : Prop := ∀ (W : World) (G lg cap : Nat), W.heap[G]? = some (.cells #[.int .i64 5, .string { data := #[] }, .string { data := #[] }, .string { data := #[] }, .bool false, .int .i64 0, .int .i64 (r : Int), .int .i64 (s : Int), .slice (some ⟨lg, 0, none⟩) L cap, .int .i64 1, .string (numS z), .string (denS z), .string { data := #[] }, .bool false, .int .i64 0, .int .i64 0, .int .i64 0, .slice none 0 0, .int .i64 1, .string (numS nq), .string (denS nq), .string { data := #[] }, .bool false, .int .i64 0, .int .i64 0, .int .i64 0, .slice none 0 0] 27 (0, 0)) → ValsAt W lg 0 (numVals qs) → Env W → Calls Tryz.prog 6 #[.string { data := #[73, 78, 68, 69, 88] }, .slice (some ⟨G, 0, none⟩) 3 3] W fun e w' => ∃ lg cap, e = .returned (.agg #[.int .i64 5, .string { data := #[] }, .string { data := #[] }, .string { data := #[] }, .bool false, .int .i64 0, .int .i64 (r : Int), .int .i64 1, .slice (some ⟨lg, 0, none⟩) r cap]) ∧ (ValsAt w' lg 0 (numVals ks) ∧ W.heap.size ≤ lg) ∧ True ∧ Below W.heap.size W w'
theorem IxC.on {r s L : Nat} {z nq : Rat} {qs ks : List Rat} (h : IxC r s L z nq qs ks) (B : Nat) (W : World) (G lg cap : Nat) (hg : W.heap[G]? = some (.cells #[.int .i64 5, .string { data := #[] }, .string { data := #[] }, .string { data := #[] }, .bool false, .int .i64 0, .int .i64 (r : Int), .int .i64 (s : Int), .slice (some ⟨lg, 0, none⟩) L cap, .int .i64 1, .string (numS z), .string (denS z), .string { data := #[] }, .bool false, .int .i64 0, .int .i64 0, .int .i64 0, .slice none 0 0, .int .i64 1, .string (numS nq), .string (denS nq), .string { data := #[] }, .bool false, .int .i64 0, .int .i64 0, .int .i64 0, .slice none 0 0] 27 (0, 0))) (hv : ValsAt W lg 0 (numVals qs)) (hE : Env W) (hB : B ≤ W.heap.size) : Calls Tryz.prog 6 #[.string { data := #[73, 78, 68, 69, 88] }, .slice (some ⟨G, 0, none⟩) 3 3] W fun e w' => ∃ lg cap, e = .returned (.agg #[.int .i64 5, .string { data := #[] }, .string { data := #[] }, .string { data := #[] }, .bool false, .int .i64 0, .int .i64 (r : Int), .int .i64 1, .slice (some ⟨lg, 0, none⟩) r cap]) ∧ (ValsAt w' lg 0 (numVals ks) ∧ B ≤ lg) ∧ True ∧ Below W.heap.size W w' := by
  refine (h W G lg cap hg hv hE).mono ?_
  rintro e w' ⟨lg, cap, rfl, ⟨hv, hl⟩, ht, hb⟩
  exact ⟨lg, cap, rfl, ⟨hv, Nat.le_trans hB hl⟩, ht, hb⟩
def IxC1 (r s L : Nat) (z nq : Rat) (qs : List Rat) (x : Rat) : Prop := ∀ (W : World) (G lg cap : Nat), W.heap[G]? = some (.cells #[.int .i64 5, .string { data := #[] }, .string { data := #[] }, .string { data := #[] }, .bool false, .int .i64 0, .int .i64 (r : Int), .int .i64 (s : Int), .slice (some ⟨lg, 0, none⟩) L cap, .int .i64 1, .string (numS z), .string (denS z), .string { data := #[] }, .bool false, .int .i64 0, .int .i64 0, .int .i64 0, .slice none 0 0, .int .i64 1, .string (numS nq), .string (denS nq), .string { data := #[] }, .bool false, .int .i64 0, .int .i64 0, .int .i64 0, .slice none 0 0] 27 (0, 0)) → ValsAt W lg 0 (numVals qs) → Env W → Calls Tryz.prog 6 #[.string { data := #[73, 78, 68, 69, 88] }, .slice (some ⟨G, 0, none⟩) 3 3] W fun e w' => e = .returned (.agg #[.int .i64 1, .string (numS x), .string (denS x), .string { data := #[] }, .bool false, .int .i64 0, .int .i64 0, .int .i64 0, .slice none 0 0]) ∧ Below W.heap.size W w'
theorem IxC1.on {r s L : Nat} {z nq x : Rat} {qs : List Rat} (h : IxC1 r s L z nq qs x) (W : World) (G lg cap : Nat) (hg : W.heap[G]? = some (.cells #[.int .i64 5, .string { data := #[] }, .string { data := #[] }, .string { data := #[] }, .bool false, .int .i64 0, .int .i64 (r : Int), .int .i64 (s : Int), .slice (some ⟨lg, 0, none⟩) L cap, .int .i64 1, .string (numS z), .string (denS z), .string { data := #[] }, .bool false, .int .i64 0, .int .i64 0, .int .i64 0, .slice none 0 0, .int .i64 1, .string (numS nq), .string (denS nq), .string { data := #[] }, .bool false, .int .i64 0, .int .i64 0, .int .i64 0, .slice none 0 0] 27 (0, 0))) (hv : ValsAt W lg 0 (numVals qs)) (hE : Env W) : Calls Tryz.prog 6 #[.string { data := #[73, 78, 68, 69, 88] }, .slice (some ⟨G, 0, none⟩) 3 3] W fun e w' => e = .returned (.agg #[.int .i64 1, .string (numS x), .string (denS x), .string { data := #[] }, .bool false, .int .i64 0, .int .i64 0, .int .i64 0, .slice none 0 0]) ∧ Below W.heap.size W w' := h W G lg cap hg hv hE
/-- what the law's math gives at SUM of a table -/
def SmC (r s L : Nat) (qs : List Rat) (q : Rat) : Prop := ∀ (W : World) (G lg cap : Nat), W.heap[G]? = some (.cells #[.int .i64 5, .string { data := #[] }, .string { data := #[] }, .string { data := #[] }, .bool false, .int .i64 0, .int .i64 (r : Int), .int .i64 (s : Int), .slice (some ⟨lg, 0, none⟩) L cap] 27 (0, 0)) → ValsAt W lg 0 (numVals qs) → Env W → Calls Tryz.prog 10 #[.string { data := #[83, 85, 77] }, .slice (some ⟨G, 0, none⟩) 1 1] W fun e w' => e = .returned (.agg #[.int .i64 1, .string (numS q), .string (denS q), .string { data := #[] }, .bool false, .int .i64 0, .int .i64 0, .int .i64 0, .slice none 0 0]) ∧ Below W.heap.size W w'
theorem SmC.on {r s L : Nat} {qs : List Rat} {q : Rat} (h : SmC r s L qs q) (W : World) (G lg cap : Nat) (hg : W.heap[G]? = some (.cells #[.int .i64 5, .string { data := #[] }, .string { data := #[] }, .string { data := #[] }, .bool false, .int .i64 0, .int .i64 (r : Int), .int .i64 (s : Int), .slice (some ⟨lg, 0, none⟩) L cap] 27 (0, 0))) (hv : ValsAt W lg 0 (numVals qs)) (hE : Env W) : Calls Tryz.prog 10 #[.string { data := #[83, 85, 77] }, .slice (some ⟨G, 0, none⟩) 1 1] W fun e w' => e = .returned (.agg #[.int .i64 1, .string (numS q), .string (denS q), .string { data := #[] }, .bool false, .int .i64 0, .int .i64 0, .int .i64 0, .slice none 0 0]) ∧ Below W.heap.size W w' := h W G lg cap hg hv hE
def TabR (B r s L : Nat) (its : List Rat) (v : Value) (W : World) : Prop := ∃ lg cap, v = .agg #[.int .i64 5, .string { data := #[] }, .string { data := #[] }, .string { data := #[] }, .bool false, .int .i64 0, .int .i64 (r : Int), .int .i64 (s : Int), .slice (some ⟨lg, 0, none⟩) L cap] ∧ ValsAt W lg 0 (numVals its) ∧ B ≤ lg ∧ L ≤ cap
theorem tabR_lasts {B r s L : Nat} {its : List Rat} : (RK.any (TabR B r s L its)).lasts := fun _ _ _ ⟨lg, cap, e, h, h2⟩ hb => ⟨lg, cap, e, h.below hb, h2⟩
def TabS (r s L : Nat) (its : List Rat) (v : Value) (W : World) : Prop := ∃ lg cap, v = .agg #[.int .i64 5, .string { data := #[] }, .string { data := #[] }, .string { data := #[] }, .bool false, .int .i64 0, .int .i64 (r : Int), .int .i64 (s : Int), .slice (some ⟨lg, 0, none⟩) L cap] ∧ ValsAt W lg 0 (numVals its)
theorem tabS_lasts {r s L : Nat} {its : List Rat} : (RK.any (TabS r s L its)).lasts := fun _ _ _ ⟨lg, cap, e, h⟩ hb => ⟨lg, cap, e, h.below hb⟩
def KeyR (B r : Nat) (ks : List Rat) (v : Value) (W : World) : Prop := ∃ lg cap, v = .agg #[.int .i64 5, .string { data := #[] }, .string { data := #[] }, .string { data := #[] }, .bool false, .int .i64 0, .int .i64 (r : Int), .int .i64 1, .slice (some ⟨lg, 0, none⟩) r cap] ∧ ValsAt W lg 0 (numVals ks) ∧ B ≤ lg
theorem keyR_lasts {B r : Nat} {ks : List Rat} : (RK.any (KeyR B r ks)).lasts := fun _ _ _ ⟨lg, cap, e, h, h2⟩ hb => ⟨lg, cap, e, h.below hb, h2⟩
/-- what stands once the rows are sorted -/
structure SwI (w0 : World) (B9 B11 r s L gv Cv gs Cs : Nat) (qs its : List Rat) (W : World) : Prop where
  h9 : W.heap[B9]? = some (.cells #[.int .i64 5, .string { data := #[] }, .string { data := #[] }, .string { data := #[] }, .bool false, .int .i64 0, .int .i64 (r : Int), .int .i64 (s : Int), .slice (some ⟨gv, 0, none⟩) L Cv] 27 (0, 0))
  h11 : W.heap[B11]? = some (.cells #[.int .i64 5, .string { data := #[] }, .string { data := #[] }, .string { data := #[] }, .bool false, .int .i64 0, .int .i64 (r : Int), .int .i64 (s : Int), .slice (some ⟨gs, 0, none⟩) L Cs] 27 (0, 0))
  vv : ValsAt W gv 0 (numVals qs)
  vs : ValsAt W gs 0 (numVals its)
  env : Env W
  low : Below w0.heap.size w0 W
  l9 : w0.heap.size ≤ B9
  l11 : B9 < B11
theorem SwI.step {w0 W W' : World} {B9 B11 r s L gv Cv gs Cs : Nat} {qs its : List Rat} (h : SwI w0 B9 B11 r s L gv Cv gs Cs qs its W) (hb : Below W.heap.size W W') : SwI w0 B9 B11 r s L gv Cv gs Cs qs its W' :=
  ⟨keep_block h.h9 hb, keep_block h.h11 hb, h.vv.below hb, h.vs.below hb, h.env.below hb, h.low.trans (hb.mono h.low.size), h.l9, h.l11⟩
theorem SwI.kept {w0 W W' : World} {B9 B11 r s L gv Cv gs Cs q : Nat} {qs its : List Rat} (h : SwI w0 B9 B11 r s L gv Cv gs Cs qs its W) (hg : W.grownBy W' (some q)) (hq : B11 < q) (hv : gv < W.heap.size ∧ gv ≠ q) (hs : gs < W.heap.size ∧ gs ≠ q) (hp : Past q) : SwI w0 B9 B11 r s L gv Cv gs Cs qs its W' := by
  have a1 := h.l9; have a2 := h.l11
  exact ⟨kept_block h.h9 hg (by omega), kept_block h.h11 hg (by omega), vals_kept h.vv hg hv.2 hv.1, vals_kept h.vs hg hs.2 hs.1, h.env.kept hg hp, h.low.grown hg h.low.size (fun r hr => by injection hr; omega), a1, a2⟩
theorem items_in {W : World} {lg : Nat} {qs : List Rat} (h : ValsAt W lg 0 (numVals qs)) (h0 : 0 < qs.length) : lg < W.heap.size := cell_lt (h.at 0 (by rw [numVals_len]; exact h0)).1
theorem row_vals {W : World} {G : Nat} {x : Rat} (h : W.heap[G]? = some (.cells #[.int .i64 1, .string (numS x), .string (denS x), .string { data := #[] }, .bool false, .int .i64 0, .int .i64 0, .int .i64 0, .slice none 0 0] 27 (0, 0))) : ValsAt W G 0 (numVals [x]) := fun j u hj => World.news_of_block h j u hj
theorem row_ne {W : World} {lg b : Nat} {qs : List Rat} {x1 x2 x3 x4 x5 x6 x7 x8 : Value} {T : TypeId} (h : ValsAt W lg 0 (numVals qs)) (h0 : 0 < qs.length) (hb : W.heap[b]? = some (.cells #[.int .i64 0, x1, x2, x3, x4, x5, x6, x7, x8] T (0, 0))) : lg ≠ b := by
  rintro rfl
  have h1 := (item_at h 0 h0 _ rfl).1
  rw [Nat.zero_mul, Lib.cell_of_heap hb 0] at h1
  have h2 := Option.some.inj h1
  injection h2 with _ h2
  cases h2
theorem set9_kept (W : World) (R : Nat) (x0 x1 x2 x3 x4 x5 x6 x7 x8 : Value) : W.grownBy ((((((((((W.setCell ⟨R, 0, none⟩ x0).setCell ⟨R, 1, none⟩ x1).setCell ⟨R, 2, none⟩ x2).setCell ⟨R, 3, none⟩ x3).setCell ⟨R, 4, none⟩ x4).setCell ⟨R, 5, none⟩ x5).setCell ⟨R, 6, none⟩ x6).setCell ⟨R, 7, none⟩ x7).setCell ⟨R, 8, none⟩ x8)) (some R) :=
  only_setCell (p := ⟨R, 8, none⟩) (only_setCell (p := ⟨R, 7, none⟩) (only_setCell (p := ⟨R, 6, none⟩) (only_setCell (p := ⟨R, 5, none⟩) (only_setCell (p := ⟨R, 4, none⟩) (only_setCell (p := ⟨R, 3, none⟩) (only_setCell (p := ⟨R, 2, none⟩) (only_setCell (p := ⟨R, 1, none⟩) (only_setCell (p := ⟨R, 0, none⟩) (kept_below (Below.refl _ _)) (.inl rfl) x0) (.inl rfl) x1) (.inl rfl) x2) (.inl rfl) x3) (.inl rfl) x4) (.inl rfl) x5) (.inl rfl) x6) (.inl rfl) x7) (.inl rfl) x8
theorem order_cc {p q : Rat} {cc : Int} {W : World} (h : cmpR p q = cc) (hp : fits p = true) (hq : fits q = true) (hE : Env W) : Calls Tryz.prog 8 #[.agg #[.int .i64 1, .string (numS p), .string (denS p), .string { data := #[] }, .bool false, .int .i64 0, .int .i64 0, .int .i64 0, .slice none 0 0], .agg #[.int .i64 1, .string (numS q), .string (denS q), .string { data := #[] }, .bool false, .int .i64 0, .int .i64 0, .int .i64 0, .slice none 0 0]] W fun e w' => e = .returned (.tuple #[.int .i64 cc, .int .i64 0]) ∧ Below W.heap.size W w' := by
  rw [← h]
  exact Mt.order_num p q W hp hq hE
def FunE (F : Nat) (a v : Value) : Prop := ∀ W, Env W → Calls Tryz.prog F #[a] W fun e w' => e = .returned v ∧ Below W.heap.size W w'
theorem FunE.on {F : Nat} {a v : Value} (h : FunE F a v) (W : World) (hE : Env W) : Calls Tryz.prog F #[a] W fun e w' => e = .returned v ∧ Below W.heap.size W w' := h W hE
end Go.Proofs.YtkghpiaoggljjaaGreatDoor.Num.Fl
