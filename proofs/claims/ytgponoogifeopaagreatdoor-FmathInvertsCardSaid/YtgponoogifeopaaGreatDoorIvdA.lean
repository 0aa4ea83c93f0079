/- Numbers as texts of digits, fractions, values and the functions of fmath: contracts of the program's functions, joined from smaller texts. Conditions stand at each theorem. -/
import Derived.Test.YtgponoogifeopaaGreatDoorIvaB
import Derived.Test.YtgponoogifeopaaGreatDoorIvbA
import Derived.Deep.RegionLaw

/- package fmath: read at a square array of numbers. Conditions: the tables lie as they are laid; at most 30 rows. -/
namespace Go.Proofs.YtgponoogifeopaaGreatDoor.Num.Mt
open Go.RowKit Go.Lib Num

/-- the matrix of n columns whose items lie in a list, row by row -/
def matL (qs : List Rat) (n : Nat) : Mx := fun r c => qs.getD (r * n + c) 0
/-- the first k fractions of a row -/
def rowF (f : Nat → Rat) (k : Nat) : List Rat := (List.range k).map f
theorem rowF_succ (f : Nat → Rat) (k : Nat) : rowF f (k + 1) = rowF f k ++ [f k] := by simp [rowF, List.range_succ]
theorem rowF_len (f : Nat → Rat) (k : Nat) : (rowF f k).length = k := by simp [rowF]
theorem own_lt_row {B n : Nat} {W : World} {v : Value} {e : TypeId} {s : Nat} {xs : List Value} (h : W.ownsRow B e s v n xs) : ∀ r, v.ownBlock = some r → B ≤ r := by
  intro r hr
  rcases h.2 with ⟨rfl, _⟩ | ⟨g, cap, cur, rfl, hb, _⟩
  · simp [Value.ownBlock] at hr
  · simp [Value.ownBlock] at hr; omega
/-- the row in progress: v, from block B on -/
structure RdR (W : World) (b N n i B k : Nat) (g : Nat → Nat) (m : Mx) (v : Value) (wx : World) : Prop where
  rs : Rows W b N n i B g m v wx
  own : wx.ownsRow B 24 2 v k (fracCells (rowF (m i) k))
theorem RdR.step {W wx w' : World} {b N n i B k : Nat} {g : Nat → Nat} {m : Mx} {v : Value} (h : RdR W b N n i B k g m v wx) (hb : Below wx.heap.size wx w') : RdR W b N n i B k g m v w' :=
  ⟨h.rs.step hb, h.own.kept (only_of_below hb none) (by cases v.ownBlock <;> simp)⟩
/-- the row has grown; its slice is stored -/
theorem RdR.push {W wx w' : World} {b N n i B k : Nat} {g : Nat → Nat} {m : Mx} {v v' : Value} (h : RdR W b N n i B k g m v wx) (ho : w'.ownsRow B 24 2 v' (k + 1) (fracCells (rowF (m i) (k + 1)))) (hg : wx.grownBy w' v.ownBlock) (hi : i < N) : RdR W b N n i B (k + 1) g m v' (w'.setCell ⟨b, i, none⟩ v') := by
  have h1 := h.rs.grown hg (own_lt_row h.own)
  exact ⟨h1.store hi v', ownsRow_setCell_below ho (a := ⟨b, i, none⟩) h.rs.bl v'⟩
theorem RdR.next {W wx : World} {b N n i B : Nat} {g : Nat → Nat} {m : Mx} {v : Value} (h : RdR W b N n i B n g m v wx) (h0 : 0 < n) (hi : i < N) : ∃ g' B', Rows W b N n (i + 1) B' g' m (.slice none 0 0) wx := by
  have ho : OwnF B v (rowF (m i) n) wx := by unfold OwnF; rw [rowF_len]; exact h.own
  obtain ⟨G, C, e, hG, u, hu, hc⟩ := ho.rowB (by rw [rowF_len]; exact h0)
  subst e
  have hr := h.rs
  rw [rowF_len] at hr
  refine ⟨_, _, hr.next hi hG ⟨u, hu, fun c hcn => ?_⟩⟩
  have := hc c (by rw [rowF_len]; exact hcn)
  simpa [rowF] using this
attribute [local irreducible] wpOp
set_option linter.unusedSimpArgs false in
set_option linter.unusedVariables false in
set_option maxHeartbeats 4000000 in
set_option maxRecDepth 100000 in
theorem read_any (qs : List Rat) (n L C lg : Nat) (W : World) (h0 : 1 ≤ n) (h9 : n ≤ 30) (hL : n * n = L) (hq : qs.length = L) (hv : ValsAt W lg 0 (numVals qs)) (hE : Env W) :
    Calls Tryz.prog 265 #[.agg #[.int .i64 5, .string { data := #[] }, .string { data := #[] }, .string { data := #[] }, .bool false, .int .i64 0, .int .i64 (n : Int), .int .i64 (n : Int), .slice (some ⟨lg, 0, none⟩) L C]] W fun e w' => ∃ b g, e = .returned (.slice (some ⟨b, 0, none⟩) n n) ∧ MxAt w' b n n g (matL qs n) ∧ W.heap.size < b ∧ (∀ r, r < n → b < g r) ∧ Below W.heap.size W w' := by
  have HQ := Lib.hid hq
  have HL := Lib.hid hL
  have HV := Lib.hid hv
  have HE0 := Lib.hid hE
  have HE := Lib.hid hE
  have TS := Lib.hid (fun W' => size_arr (n : Int) (n : Int) lg L C W')
  have TL := Lib.hid (fun W' => list_arr (n : Int) (n : Int) lg L C W')
  have hmk1 := make_rows n (by omega)
  obtain ⟨m, hm⟩ : ∃ m, matL qs n = m := ⟨_, rfl⟩
  rw [hm]
  have HM := Lib.hid hm
  obtain ⟨i0, hi0', hz0, hz1, hz2⟩ := info_frac
  have hL9 : L ≤ 900 := by rw [← hL]; exact Nat.mul_le_mul h9 h9
  clear hq hL hv hm
  have hb0 : Below W.heap.size W (W.alloc (.cells #[.int .i64 5, .string { data := #[] }, .string { data := #[] }, .string { data := #[] }, .bool false, .int .i64 0, .int .i64 (n : Int), .int .i64 (n : Int), .slice (some ⟨lg, 0, none⟩) L C] 27)) := (Below.refl _ _).alloc (Nat.le_refl _) _
  have HX := Lib.hid (heap_alloc_new W (.cells #[.int .i64 5, .string { data := #[] }, .string { data := #[] }, .string { data := #[] }, .bool false, .int .i64 0, .int .i64 (n : Int), .int .i64 (n : Int), .slice (some ⟨lg, 0, none⟩) L C] 27))
  have HG := Lib.hid hb0
  clear hE hb0
  go_enter Tryz.func265, Tryz.ntmps265
  obtain ⟨⟨x0, x1, x2, x3, x4, x5, x6, x7, x8⟩, _⟩ := nine_at HX.out
  go_wp2_with fail
  refine (TS.out _).mono ?_
  rintro e w1 ⟨rfl, hb⟩
  replace HX := Lib.hid (keep_block HX.out hb)
  replace HG := Lib.hid (HG.out.trans (hb.mono HG.out.size))
  clear hb x0 x1 x2 x3 x4 x5 x6 x7 x8
  obtain ⟨⟨x0, x1, x2, x3, x4, x5, x6, x7, x8⟩, _⟩ := nine_at HX.out
  go_wp2_with fail
  refine (TL.out _).mono ?_
  rintro e w2 ⟨rfl, hb⟩
  replace HX := Lib.hid (keep_block HX.out hb)
  replace HG := Lib.hid (HG.out.trans (hb.mono HG.out.size))
  clear hb x0 x1 x2 x3 x4 x5 x6 x7 x8
  have HLT := Lib.hid (heap_lt HX.out)
  have hb0 : Below w2.heap.size w2 (w2.alloc (.cells (madeCells #[.slice none 0 0] n) 81)) := (Below.refl _ _).alloc (Nat.le_refl _) _
  have HI0 := Lib.hid (Rows.start w2.heap.size n n (fun _ => 0) m (heap_alloc_new w2 (.cells (madeCells #[.slice none 0 0] n) 81)) (size_madeCells _ _) (fun r hr => made_at _ _ _ hr) (HG.out.trans (hb0.mono HG.out.size)) HG.out.size)
  clear hb0 HX HG
  go_wp2_with fail
  obtain ⟨b, hb⟩ : ∃ b, w2.heap.size = b := ⟨_, rfl⟩
  rw [hb] at HI0 HLT ⊢
  clear hb
  go_loopg [20] n (fun gh v20 wx => ∃ (i B : Nat) (g : Nat → Nat), v20 = .int .i64 (i : Int) ∧ i ≤ n ∧ gh = n - i ∧ Rows W b n n i B g m (.slice none 0 0) wx)
  case atStart => exact ⟨0, _, _, rfl, Nat.zero_le _, rfl, HI0.out⟩
  case round =>
    clear HI0
    obtain ⟨i, B, g, rfl, hi, hgi, hI⟩ := hrel
    have HI := Lib.hid (show RdR W b n n i B 0 g m (.slice none 0 0) _ from ⟨hI, World.ownsRow_nil _ _ _ _⟩)
    clear hI
    by_cases hlt : i < n
    · skip
      have hdd : decide ((i : Int) < (n : Int)) = true := decide_eq_true (by omega)
      have hdd2 : decide (i < n) = true := decide_eq_true hlt
      have hi0 : (0 : Int) ≤ (i : Int) := by omega
      have hi1 : (i : Int) < (n : Int) := by omega
      have hwk : IntKind.i64.wrap ((i : Int) + 1) = (i : Int) + 1 := IntWalk.i64_in _ (by omega)
      go_wp2_with fail
      go_loopg [24] n (fun gh v24 wx => ∃ (k : Nat) (v : Value), v24 = .int .i64 (k : Int) ∧ k ≤ n ∧ gh = n - k ∧ RdR W b n n i B k g m v wx)
      case atStart => exact ⟨0, _, rfl, Nat.zero_le _, rfl, HI.out⟩
      case round =>
        clear HI
        obtain ⟨k, v, rfl, hk, hgk, hJ⟩ := hrel
        have HI := Lib.hid hJ
        clear hJ
        by_cases hkt : k < n
        · skip
          have hke : decide ((k : Int) < (n : Int)) = true := decide_eq_true (by omega)
          have hke2 : decide (k < n) = true := decide_eq_true hkt
          have hk0 : (0 : Int) ≤ (k : Int) := by omega
          have hk1 : (k : Int) < (n : Int) := by omega
          have hkw : IntKind.i64.wrap ((k : Int) + 1) = (k : Int) + 1 := IntWalk.i64_in _ (by omega)
          obtain ⟨av, cv, hu⟩ := owns_form HI.out.own
          subst hu
          obtain ⟨p, hp⟩ : ∃ p, i * n = p := ⟨_, rfl⟩
          obtain ⟨j, hj⟩ : ∃ j, p + k = j := ⟨_, rfl⟩
          have hpn : p + n ≤ L := by
            rw [← HL.out, ← hp, ← Nat.succ_mul]
            exact Nat.mul_le_mul (by omega) (Nat.le_refl _)
          have hwm : IntKind.i64.wrap ((i : Int) * (n : Int)) = (p : Int) := by rw [← Int.natCast_mul, hp]; exact IntWalk.i64_in _ (by omega)
          have hwa : IntKind.i64.wrap ((p : Int) + (k : Int)) = (j : Int) := by rw [← hj]; exact IntWalk.i64_in _ (by omega)
          have hj0 : (0 : Int) ≤ (j : Int) := by omega
          have hj1 : (j : Int) < (L : Int) := by omega
          have hjq : j < qs.length := by have := HQ.out; omega
          obtain ⟨q, hqq⟩ : ∃ q, qs[j] = q := ⟨_, rfl⟩
          have HMQ := Lib.hid (show m i k = q by rw [← HM.out]; unfold matL; rw [hp, hj, ← hqq]; simp [hjq])
          obtain ⟨c0, c1, c2, c3, c4, c5, c6, c7, c8⟩ := item_at (HV.out.below (HI.out.rs.low)) j hjq q hqq
          have hml : k + 1 ≤ maxLen := by unfold maxLen; omega
          have H9 := Lib.hid (heap_alloc_new wr (.cells #[.int .i64 1, .string (numS q), .string (denS q), .string { data := #[] }, .bool false, .int .i64 0, .int .i64 0, .int .i64 0, .slice none 0 0] 27))
          obtain ⟨⟨a0, a1, a2, a3, a4, a5, a6, a7, a8⟩, _⟩ := nine_at H9.out
          have HI2 := Lib.hid (HI.out.step ((Below.refl wr.heap.size wr).alloc (Nat.le_refl _) (.cells #[.int .i64 1, .string (numS q), .string (denS q), .string { data := #[] }, .bool false, .int .i64 0, .int .i64 0, .int .i64 0, .slice none 0 0] 27)))
          clear HI hp hj hjq hqq
          go_upto_region 13 with fail
          clear c0 c1 c2 c3 c4 c5 c6 c7 c8 a0 a1 a2 a3 a4 a5 a6 a7 a8
          have HI := HI2
          clear HI2
          obtain ⟨b9, hb9⟩ : ∃ b9, wr.heap.size = b9 := ⟨_, rfl⟩
          rw [hb9] at H9
          obtain ⟨w9, hw9⟩ : ∃ Z, wr.alloc (.cells #[.int .i64 1, .string (numS q), .string (denS q), .string { data := #[] }, .bool false, .int .i64 0, .int .i64 0, .int .i64 0, .slice none 0 0] 27) = Z := ⟨_, rfl⟩
          rw [hw9] at HI H9 ⊢
          rw [hb9]
          clear hb9 hw9
          have HIA0 := Lib.hid (HI.out.step ((Below.refl w9.heap.size w9).alloc (Nat.le_refl _) (.cells #[.string (numS q), .string (denS q)] 24)))
          have HIA := Lib.hid (HIA0.out.step ((Below.refl (w9.alloc (.cells #[.string (numS q), .string (denS q)] 24)).heap.size (w9.alloc (.cells #[.string (numS q), .string (denS q)] 24))).drew))
          have HNW := Lib.hid (World.news_of_block (w := (w9.alloc (.cells #[.string (numS q), .string (denS q)] 24)).drew) (cs := #[.string (numS q), .string (denS q)]) (t := 24) (fr := (0, 0)) (heap_alloc_new w9 (.cells #[.string (numS q), .string (denS q)] 24)))
          have HOW := Lib.hid HIA.out.own
          have HBS := Lib.hid HIA.out.rs.bs
          have y0 := HI.out.rs.cell hlt
          have y1 := HIA0.out.rs.cell hlt
          obtain ⟨⟨a0, a1, a2, a3, a4, a5, a6, a7, a8⟩, _⟩ := nine_at H9.out
          clear HI H9 HIA0
          go_region_law (first
            | (refine step_append_own rfl _ _ 81 rfl B 24 i0 _ 2 32 Tryz.underlying81 hi0' hz0 hz1 hz2 rfl (by decide) (.slice av k cv) k (fracCells (rowF (m i) k)) (by simp [Act.eval, Act.put]) HOW.out ⟨w9.heap.size, 0, none⟩ 1 1 [.string (numS q), .string (denS q)] (by simp [Act.eval, Act.put]) rfl HNW.out (by simp [Value.oneCell']) hml (by omega) HBS.out ?_;
               intro v5 w5 hown5 hgrow5;
               have HP := Lib.hid (HIA.out.push (by rw [rowF_succ, HMQ.out, fracCells_snoc]; exact hown5) hgrow5 hlt);
               have y5 := (HIA.out.rs.grown hgrow5 (own_lt_row HIA.out.own)).cell hlt;
               have z5 := (HIA.out.rs.grown hgrow5 (own_lt_row HIA.out.own)).free i;
               obtain ⟨av5, c5, hu5⟩ := owns_form hown5;
               subst hu5;
               clear hown5 hgrow5)
            | fail)
          all_goals
            go_wp2
            go_roundg (n - (k + 1))
            case measure => omega
            case rel => exact ⟨k + 1, _, by go_num, by omega, by omega, HP.out⟩
        · have hke : decide ((k : Int) < (n : Int)) = false := decide_eq_false (by omega)
          have hke2 : decide (k < n) = false := decide_eq_false hkt
          have hkn : n = k := by omega
          subst hkn
          clear hkt
          obtain ⟨g', B', hN⟩ := HI.out.next (by omega) hlt
          have HN := Lib.hid hN
          clear hN HI
          go_wp2
          go_roundg (n - (i + 1))
          case measure => omega
          case rel => exact ⟨i + 1, _, _, by go_num, by omega, by omega, HN.out⟩
    · have hdd : decide ((i : Int) < (n : Int)) = false := decide_eq_false (by omega)
      have hdd2 : decide (i < n) = false := decide_eq_false hlt
      have hin : i = n := by omega
      subst hin
      clear hlt
      have HM := Lib.hid HI.out.rs.done
      go_wp2
      refine bodyPost_ret (v := .slice (some ⟨b, 0, none⟩) i i) (by simp [results, Tryz.results265, go_sem]) rfl ⟨b, g, rfl, HM.out, HLT.out, fun r hr => (HI.out.rs.gl r hr).1, HI.out.rs.low⟩
end Go.Proofs.YtgponoogifeopaaGreatDoor.Num.Mt

/- package value: Table at small sizes. No conditions. -/
namespace Go.Proofs.YtgponoogifeopaaGreatDoor.Num.Mt
open Go.RowKit Go.Lib Num

set_option maxHeartbeats 4000000 in
set_option maxRecDepth 100000 in
theorem vtable_any (r s : Nat) (A : Option Addr) (L C : Nat) (W : World) (h0 : 1 ≤ r) (h1 : r ≤ 300) (h2 : 1 ≤ s) (h3 : s ≤ 300) :
    Calls Tryz.prog 201 #[.int .i64 (r : Int), .int .i64 (s : Int), .slice A L C] W fun e w' => e = .returned (.agg #[.int .i64 5, .string { data := #[] }, .string { data := #[] }, .string { data := #[] }, .bool false, .int .i64 0, .int .i64 (r : Int), .int .i64 (s : Int), .slice A L C]) ∧ Below W.heap.size W w' := by
  have d0 : decide ((r : Int) < 1) = false := decide_eq_false (by omega)
  have d1 : decide ((s : Int) < 1) = false := decide_eq_false (by omega)
  have d2 : decide ((100000 : Int) < (r : Int)) = false := decide_eq_false (by omega)
  have e0 : decide (r < 1) = false := decide_eq_false (by omega)
  have e1 : decide (s < 1) = false := decide_eq_false (by omega)
  have e2 : decide (100000 < r) = false := decide_eq_false (by omega)
  have e3 : decide (r = 0) = false := decide_eq_false (by omega)
  have e4 : decide (s = 0) = false := decide_eq_false (by omega)
  have e5 : (r = 0) = False := eq_false (by omega)
  have e6 : (s = 0) = False := eq_false (by omega)
  have hr0 : ((r : Int) = 0) = False := eq_false (by omega)
  have hq : 333 ≤ (100000 : Int) / (r : Int) := (Int.le_ediv_iff_mul_le (by omega)).2 (by omega)
  have hq2 : (100000 : Int) / (r : Int) ≤ 100000 := Int.ediv_le_self _ (by omega)
  have hqt : (100000 : Int).tdiv (r : Int) = (100000 : Int) / (r : Int) := Int.tdiv_eq_ediv_of_nonneg (by omega)
  obtain ⟨q, hqq⟩ : ∃ q, (100000 : Int) / (r : Int) = q := ⟨_, rfl⟩
  rw [hqq] at hq hq2 hqt
  have hqw : IntKind.i64.wrap q = q := IntWalk.i64_in _ (by omega)
  have d3 : decide (q < (s : Int)) = false := decide_eq_false (by omega)
  have HX := Lib.hid (heap_alloc_new W (.cells #[.int .i64 0, .string { data := #[] }, .string { data := #[] }, .string { data := #[] }, .bool false, .int .i64 0, .int .i64 0, .int .i64 0, .slice none 0 0] 27))
  have hlow := Lib.hid (show Below W.heap.size W (W.alloc (.cells #[.int .i64 0, .string { data := #[] }, .string { data := #[] }, .string { data := #[] }, .bool false, .int .i64 0, .int .i64 0, .int .i64 0, .slice none 0 0] 27)) from (Below.refl _ _).alloc (Nat.le_refl _) _)
  obtain ⟨R, hR⟩ : ∃ R, W.heap.size = R := ⟨_, rfl⟩
  obtain ⟨W0, hW0⟩ : ∃ Z, (W.alloc (.cells #[.int .i64 0, .string { data := #[] }, .string { data := #[] }, .string { data := #[] }, .bool false, .int .i64 0, .int .i64 0, .int .i64 0, .slice none 0 0] 27)) = Z := ⟨_, rfl⟩
  rw [hW0] at HX hlow
  have EW0 := Lib.hid hW0
  have HR := Lib.hid hR
  rw [hR] at HX
  clear hW0 hR h0 h1 h2 h3 hq hq2
  go_enter Tryz.func201, Tryz.ntmps201
  go_upto_region 1 with fail
  rw [EW0.out, HR.out]
  go_upto_region 5 with fail
  obtain ⟨⟨x0, x1, x2, x3, x4, x5, x6, x7, x8⟩, y0, y1, y2, y3, y4, y5, y6, y7, y8⟩ := nine_at HX.out
  obtain ⟨nb, z0, z1, z2, z3, z4, z5, z6, z7, z8⟩ := nine_end (x0 := (.int .i64 5)) (x1 := (.string { data := #[] })) (x2 := (.string { data := #[] })) (x3 := (.string { data := #[] })) (x4 := (.bool false)) (x5 := (.int .i64 0)) (x6 := (.int .i64 (r : Int))) (x7 := (.int .i64 (s : Int))) (x8 := (.slice A L C)) HX.out hlow.out (Nat.le_of_eq HR.out)
  have NB := Lib.hid nb
  clear nb
  go_wp2
  refine bodyPost_ret (v := .agg #[.int .i64 5, .string { data := #[] }, .string { data := #[] }, .string { data := #[] }, .bool false, .int .i64 0, .int .i64 (r : Int), .int .i64 (s : Int), .slice A L C]) (by simp [results, Tryz.results201, go_sem, z0, z1, z2, z3, z4, z5, z6, z7, z8]) rfl ⟨rfl, NB.out⟩
end Go.Proofs.YtgponoogifeopaaGreatDoor.Num.Mt

/- package fmath: the array of a matrix of numbers. Conditions: the tables lie as they are laid; each number fits; at most 30 rows. -/
namespace Go.Proofs.YtgponoogifeopaaGreatDoor.Num.Mt
open Go.RowKit Go.Lib Num

/-- the first j items of a matrix, row by row -/
def itemsL (m : Mx) (n j : Nat) : List Rat := (List.range j).map fun t => m (t / n) (t % n)
theorem itemsL_len (m : Mx) (n j : Nat) : (itemsL m n j).length = j := by simp [itemsL]
theorem itemsL_succ (m : Mx) (n i k : Nat) (hk : k < n) : itemsL m n (i * n + k + 1) = itemsL m n (i * n + k) ++ [m i k] := by
  have h1 : (i * n + k) / n = i := by
    rw [Nat.mul_comm, Nat.mul_add_div (by omega), Nat.div_eq_of_lt hk, Nat.add_zero]
  have h2 : (i * n + k) % n = k := by
    rw [Nat.mul_comm, Nat.mul_add_mod, Nat.mod_eq_of_lt hk]
  simp [itemsL, List.range_succ, h1, h2]
theorem matL_items (m : Mx) (n r c : Nat) (hr : r < n) (hc : c < n) : matL (itemsL m n (n * n)) n r c = m r c := by
  have hl : r * n + c < n * n := by
    have : (r + 1) * n ≤ n * n := Nat.mul_le_mul (by omega) (Nat.le_refl _)
    rw [Nat.succ_mul] at this
    omega
  have h1 : (r * n + c) / n = r := by rw [Nat.mul_comm, Nat.mul_add_div (by omega), Nat.div_eq_of_lt hc, Nat.add_zero]
  have h2 : (r * n + c) % n = c := by rw [Nat.mul_comm, Nat.mul_add_mod, Nat.mod_eq_of_lt hc]
  unfold matL itemsL
  simp [hl, h1, h2]
/-- what stays while the items are collected -/
structure VaI (W : World) (b n j : Nat) (g : Nat → Nat) (m : Mx) (v : Value) (wx : World) : Prop where
  res : wx.heap[W.heap.size]? = some (.cells #[.int .i64 0, .string { data := #[] }, .string { data := #[] }, .string { data := #[] }, .bool false, .int .i64 0, .int .i64 0, .int .i64 0, .slice none 0 0] 27 (0, 0))
  low : Below W.heap.size W wx
  own : wx.ownsRow (W.heap.size + 1) 27 9 v j (flat (numVals (itemsL m n j)))
theorem VaI.step {W wx w' : World} {b n j : Nat} {g : Nat → Nat} {m : Mx} {v : Value} (h : VaI W b n j g m v wx) (hb : Below wx.heap.size wx w') : VaI W b n j g m v w' :=
  ⟨keep_block h.res hb, h.low.trans (hb.mono h.low.size), h.own.kept (only_of_below hb none) (by cases v.ownBlock <;> simp)⟩
theorem VaI.size {W wx : World} {b n j : Nat} {g : Nat → Nat} {m : Mx} {v : Value} (h : VaI W b n j g m v wx) : W.heap.size + 1 ≤ wx.heap.size := heap_lt h.res
theorem VaI.push {W wx w' : World} {b n j : Nat} {g : Nat → Nat} {m : Mx} {v v' : Value} (h : VaI W b n j g m v wx) (ho : w'.ownsRow (W.heap.size + 1) 27 9 v' (j + 1) (flat (numVals (itemsL m n (j + 1))))) (hg : wx.grownBy w' v.ownBlock) : VaI W b n (j + 1) g m v' w' := by
  have hge := own_lt_row h.own
  exact ⟨(hg.block _ h.size (fun e => by have := hge _ e.symm; omega)).trans h.res, h.low.grown hg h.low.size (fun r hr => by have := hge r hr; omega), ho⟩

set_option maxHeartbeats 4000000 in
set_option maxRecDepth 100000 in
theorem value_mx (m : Mx) (n b C : Nat) (g : Nat → Nat) (W : World) (h0 : 1 ≤ n) (h9 : n ≤ 30) (hM : MxAt W b n n g m) (hf : ∀ r c, r < n → c < n → fits (m r c) = true) (hE : Env W) :
    Calls Tryz.prog 168 #[.slice (some ⟨b, 0, none⟩) n C] W fun e w' => ∃ lg cap, e = .returned (.agg #[.int .i64 5, .string { data := #[] }, .string { data := #[] }, .string { data := #[] }, .bool false, .int .i64 0, .int .i64 (n : Int), .int .i64 (n : Int), .slice (some ⟨lg, 0, none⟩) (n * n) cap]) ∧ ValsAt w' lg 0 (numVals (itemsL m n (n * n))) ∧ W.heap.size < lg ∧ Below W.heap.size W w' := by
  have HM := Lib.hid hM
  have HF := Lib.hid hf
  have HE0 := Lib.hid hE
  have hb0 : Below W.heap.size W (W.alloc (.cells #[.int .i64 0, .string { data := #[] }, .string { data := #[] }, .string { data := #[] }, .bool false, .int .i64 0, .int .i64 0, .int .i64 0, .slice none 0 0] 27)) := (Below.refl _ _).alloc (Nat.le_refl _) _
  have HI0 := Lib.hid (show VaI W b n 0 g m (.slice none 0 0) _ from ⟨heap_alloc_new W (.cells #[.int .i64 0, .string { data := #[] }, .string { data := #[] }, .string { data := #[] }, .bool false, .int .i64 0, .int .i64 0, .int .i64 0, .slice none 0 0] 27), hb0, World.ownsRow_nil _ _ _ _⟩)
  obtain ⟨i0, hi0', hz0, hz1, hz2⟩ := info_val
  obtain ⟨R, hR⟩ : ∃ R, W.heap.size = R := ⟨_, rfl⟩
  have HR := Lib.hid hR
  clear hM hf hE hb0 hR
  go_enter Tryz.func168, Tryz.ntmps168
  go_wp2_with fail
  go_loopg [3, 10] n (fun gh v3 v10 wx => ∃ i : Nat, v10 = .int .i64 (i : Int) ∧ i ≤ n ∧ gh = n - i ∧ VaI W b n (i * n) g m v3 wx)
  case atStart => exact ⟨0, rfl, Nat.zero_le _, rfl, by rw [Nat.zero_mul]; exact HI0.out⟩
  case round =>
    clear HI0
    obtain ⟨i, rfl, hi, hgi, hI⟩ := hrel
    have HI := Lib.hid hI
    clear hI
    by_cases hlt : i < n
    · have hdd : decide ((i : Int) < (n : Int)) = true := decide_eq_true (by omega)
      have hdd2 : decide (i < n) = true := decide_eq_true hlt
      have hi0 : (0 : Int) ≤ (i : Int) := by omega
      have hi1 : (i : Int) < (n : Int) := by omega
      have hwk : IntKind.i64.wrap ((i : Int) + 1) = (i : Int) + 1 := IntWalk.i64_in _ (by omega)
      obtain ⟨D, y0⟩ := (HM.out.keep (HI.out.low.block _ HM.out.hd.lt) (fun r hr => HI.out.low.block _ (HM.out.rows r hr).lt)).hd.at hlt
      obtain ⟨G, hG⟩ : ∃ G, g i = G := ⟨_, rfl⟩
      rw [hG] at y0
      have HGG := Lib.hid hG
      clear hG
      go_wp2_with fail
      clear y0
      go_loopg [3, 16] n (fun gh v3 v16 wx => ∃ k : Nat, v16 = .int .i64 (k : Int) ∧ k ≤ n ∧ gh = n - k ∧ VaI W b n (i * n + k) g m v3 wx)
      case atStart => exact ⟨0, rfl, Nat.zero_le _, rfl, HI.out⟩
      case round =>
        clear HI
        obtain ⟨k, rfl, hk, hgk, hI⟩ := hrel
        have HI := Lib.hid hI
        by_cases hkt : k < n
        · have hke : decide ((k : Int) < (n : Int)) = true := decide_eq_true (by omega)
          have hke2 : decide (k < n) = true := decide_eq_true hkt
          have hk0 : (0 : Int) ≤ (k : Int) := by omega
          have hk1 : (k : Int) < (n : Int) := by omega
          have hkw : IntKind.i64.wrap ((k : Int) + 1) = (k : Int) + 1 := IntWalk.i64_in _ (by omega)
          have hMr := (HM.out.keep (HI.out.low.block _ HM.out.hd.lt) (fun r hr => HI.out.low.block _ (HM.out.rows r hr).lt)).rows i hlt
          rw [HGG.out] at hMr
          obtain ⟨c0, c1⟩ := hMr.item hkt
          obtain ⟨q, hq⟩ : ∃ q, m i k = q := ⟨_, rfl⟩
          have hfq := HF.out i k hlt hkt
          rw [hq] at c0 c1 hfq
          have TN := Lib.hid (fun W' ge => number_any q W' hfq ge)
          rw [fracV_is q, numVal_is q] at TN
          obtain ⟨j, hj⟩ : ∃ j, i * n + k = j := ⟨_, rfl⟩
          have HIT := Lib.hid (show flat (numVals (itemsL m n (j + 1))) = flat (numVals (itemsL m n j)) ++ [.int .i64 1, .string (numS q), .string (denS q), .string { data := #[] }, .bool false, .int .i64 0, .int .i64 0, .int .i64 0, .slice none 0 0] by rw [← hj, itemsL_succ m n i k hkt, hq, numVals_snoc]; rfl)
          have hj9 : j < 900 := by
            have : (i + 1) * n ≤ 30 * 30 := Nat.mul_le_mul (by omega) h9
            rw [Nat.succ_mul] at this
            omega
          have HJ := Lib.hid hj
          rw [hj] at hI HI
          obtain ⟨av, cv, hu⟩ := owns_form hI.own
          subst hu
          have hml : j + 1 ≤ maxLen := by unfold maxLen; omega
          obtain ⟨w2, hw2⟩ : ∃ Z, wr.alloc (.cells #[.string (numS q), .string (denS q)] 24) = Z := ⟨_, rfl⟩
          have HI2 := Lib.hid (HI.out.step ((Below.refl wr.heap.size wr).alloc (Nat.le_refl _) (.cells #[.string (numS q), .string (denS q)] 24)))
          obtain ⟨⟨a0, a1⟩, _⟩ := two_at (heap_alloc_new wr (.cells #[.string (numS q), .string (denS q)] 24))
          rw [hw2] at HI2
          have HW2 := Lib.hid hw2
          have HE := Lib.hid (HE0.out.below HI2.out.low)
          clear hMr hq hfq hI HI hw2 hj
          go_wp2_with fail
          rw [HW2.out]
          refine (TN.out _ HE.out).mono ?_
          rintro e w3 ⟨rfl, hb⟩
          have HI3 := Lib.hid (HI2.out.step hb)
          have HI4 := Lib.hid (HI3.out.step ((Below.refl w3.heap.size w3).alloc (Nat.le_refl _) (.cells #[.int .i64 1, .string (numS q), .string (denS q), .string { data := #[] }, .bool false, .int .i64 0, .int .i64 0, .int .i64 0, .slice none 0 0] 27)))
          have HNW := Lib.hid (World.news_of_block (cs := #[.int .i64 1, .string (numS q), .string (denS q), .string { data := #[] }, .bool false, .int .i64 0, .int .i64 0, .int .i64 0, .slice none 0 0]) (t := 27) (fr := (0, 0)) (heap_alloc_new w3 (.cells #[.int .i64 1, .string (numS q), .string (denS q), .string { data := #[] }, .bool false, .int .i64 0, .int .i64 0, .int .i64 0, .slice none 0 0] 27)))
          have HOW := Lib.hid HI4.out.own
          have HBS := Lib.hid HI4.out.size
          clear hb HI2 HI3 c0 c1 a0 a1
          go_wp2_with (at_builtin; refine wpList_append_own _ rfl _ _ 25 rfl (W.heap.size + 1) 27 i0 _ 9 112 Tryz.underlying25 hi0' hz0 hz1 hz2 rfl (by decide) (.slice av j cv) j (flat (numVals (itemsL m n j))) rfl HOW.out ⟨w3.heap.size, 0, none⟩ 1 1 [.int .i64 1, .string (numS q), .string (denS q), .string { data := #[] }, .bool false, .int .i64 0, .int .i64 0, .int .i64 0, .slice none 0 0] rfl rfl HNW.out (by simp [Value.oneCell']) hml (by omega) HBS.out ?_)
          intro v5 w5 hown5 hgrow5 _
          have HP := Lib.hid (HI4.out.push (by rw [HIT.out]; exact hown5) hgrow5)
          clear hown5 hgrow5 HI4 HNW HOW HBS
          go_wp2
          go_roundg (n - (k + 1))
          case measure => omega
          case rel => exact ⟨k + 1, by go_num, by omega, by omega, by rw [show i * n + (k + 1) = j + 1 by have := HJ.out; omega]; exact HP.out⟩
        · have hke : decide ((k : Int) < (n : Int)) = false := decide_eq_false (by omega)
          have hke2 : decide (k < n) = false := decide_eq_false hkt
          have HP := Lib.hid (show VaI W b n ((i + 1) * n) g m _ _ by rw [Nat.succ_mul, show i * n + n = i * n + k by omega]; exact HI.out)
          clear hkt hI
          go_wp2
          go_roundg (n - (i + 1))
          case measure => omega
          case rel => exact ⟨i + 1, by go_num, by omega, by omega, HP.out⟩
    · have hdd : decide ((i : Int) < (n : Int)) = false := decide_eq_false (by omega)
      have hdd2 : decide (i < n) = false := decide_eq_false hlt
      have hin : n = i := by omega
      have hI := HI.out
      rw [← hin] at hI
      obtain ⟨lg, cap, e, hlg, hcap, hva⟩ := vals_of_owns hI.own (by rw [numVals_len, itemsL_len]) (Nat.mul_pos h0 h0)
      subst e
      have HVA := Lib.hid hva
      have HLG := Lib.hid hlg
      have HIX := Lib.hid hI
      have TT := Lib.hid (fun W' => vtable_any n n (some ⟨lg, 0, none⟩) (n * n) cap W' h0 (by omega) h0 (by omega))
      obtain ⟨D, y0⟩ := (HM.out.keep (HI.out.low.block _ HM.out.hd.lt) (fun r hr => HI.out.low.block _ (HM.out.rows r hr).lt)).hd.at (show 0 < n by omega)
      have hn0 : (0 : Int) < (n : Int) := by omega
      clear hlt hI HI hva hlg hin
      go_wp2_with fail
      refine (TT.out _).mono ?_
      rintro e w6 ⟨rfl, hb⟩
      replace HVA := Lib.hid (HVA.out.below hb)
      replace HIX := Lib.hid (HIX.out.step hb)
      have hres := HIX.out.res
      have hlow := HIX.out.low
      rw [HR.out] at hres hlow HLG
      clear y0 hb HIX
      obtain ⟨⟨x0, x1, x2, x3, x4, x5, x6, x7, x8⟩, y0, y1, y2, y3, y4, y5, y6, y7, y8⟩ := nine_at hres
      have HVB := Lib.hid (vals_other HVA.out (set9_other w6 R (.int .i64 5) (.string { data := #[] }) (.string { data := #[] }) (.string { data := #[] }) (.bool false) (.int .i64 0) (.int .i64 (n : Int)) (.int .i64 (n : Int)) (.slice (some ⟨lg, 0, none⟩) (n * n) cap) (show lg ≠ R by have := HLG.out; omega)))
      obtain ⟨nb, z0, z1, z2, z3, z4, z5, z6, z7, z8⟩ := nine_end (x0 := (.int .i64 5)) (x1 := (.string { data := #[] })) (x2 := (.string { data := #[] })) (x3 := (.string { data := #[] })) (x4 := (.bool false)) (x5 := (.int .i64 0)) (x6 := (.int .i64 (n : Int))) (x7 := (.int .i64 (n : Int))) (x8 := (.slice (some ⟨lg, 0, none⟩) (n * n) cap)) hres (by rw [HR.out]; exact hlow) (Nat.le_of_eq HR.out)
      rw [HR.out] at nb
      have NB := Lib.hid nb
      clear nb hres hlow
      rw [HR.out]
      go_wp2
      refine bodyPost_ret (v := .agg #[.int .i64 5, .string { data := #[] }, .string { data := #[] }, .string { data := #[] }, .bool false, .int .i64 0, .int .i64 (n : Int), .int .i64 (n : Int), .slice (some ⟨lg, 0, none⟩) (n * n) cap]) (by simp [results, Tryz.results168, go_sem, z0, z1, z2, z3, z4, z5, z6, z7, z8]) rfl ⟨lg, cap, rfl, HVB.out, by have := HLG.out; have := HR.out; omega, by rw [HR.out]; exact NB.out⟩
end Go.Proofs.YtgponoogifeopaaGreatDoor.Num.Mt

/- package fmath: a square matrix out of the arguments. Conditions: the tables lie as they are laid; at most 12 rows. -/
namespace Go.Proofs.YtgponoogifeopaaGreatDoor.Num.Mt
open Go.RowKit Go.Lib Num

set_option maxHeartbeats 2000000 in
set_option maxRecDepth 100000 in
theorem within_ok (n lo hi : Int) (w : World) (h1 : lo ≤ n) (h2 : n ≤ hi) : Calls Tryz.prog 159 #[.int .i64 n, .int .i64 lo, .int .i64 hi] w fun e w' => e = .returned (.tuple #[]) ∧ w' = w := by
  have d1 : decide (n < lo) = false := decide_eq_false (by omega)
  have d2 : decide (hi < n) = false := decide_eq_false (by omega)
  go_enter Tryz.func159, Tryz.ntmps159
  go_wp2_with fail
  go_end0
  exact ⟨rfl, rfl⟩

theorem parg_arr {W : World} {n L lg lc : Nat} {qs : List Rat} (h0 : 1 ≤ n) (h9 : n ≤ 30) (hL : n * n = L) (hq : qs.length = L) (hva : ValsAt W lg 0 (numVals qs)) : PArg W (arrVal' (n : Int) (n : Int) lg L lc) (n : Int) (n : Int) qs := by
  have hl : L ≤ 900 := by rw [← hL]; exact Nat.mul_le_mul h9 h9
  have hl0 : 0 < L := by rw [← hL]; exact Nat.mul_pos h0 h0
  subst hq
  exact .inr ⟨lg, lc, rfl, by omega, by omega, by omega, by omega, by rw [← hL, Int.natCast_mul], hl0, by omega, hva⟩
theorem cells_arr {W : World} {vs : List Val} {g i : Nat} {n L lg lc : Nat} (hv : ValsAt W g 0 vs) (hi : i < vs.length) (h : vs[i] = arrVal' (n : Int) (n : Int) lg L lc) : CellsAt W g (0 + i * 9) (.int .i64 5) (.string { data := #[] }) (.string { data := #[] }) (.string { data := #[] }) (.bool false) (.int .i64 0) (.int .i64 (n : Int)) (.int .i64 (n : Int)) (.slice (some ⟨lg, 0, none⟩) L lc) := by
  have := hv.at i hi
  rw [h] at this
  exact this
set_option maxHeartbeats 4000000 in
set_option maxRecDepth 100000 in
theorem sq_any (qs : List Rat) (n L lg lc b g C : Nat) (W : World) (h0 : 1 ≤ n) (h9 : n ≤ 12) (hL : n * n = L) (hq : qs.length = L) (ha : ArgsAt W b (some ⟨g, 0, none⟩) 1 C 0) (hv : ValsAt W g 0 [arrVal' (n : Int) (n : Int) lg L lc]) (hva : ValsAt W lg 0 (numVals qs)) (hne : g ≠ b) (hE : Env W) (hP : Past b) :
    Calls Tryz.prog 172 #[.pointer (some ⟨b, 0, none⟩)] W fun e w' => ∃ bm gm, e = .returned (.slice (some ⟨bm, 0, none⟩) n n) ∧ MxAt w' bm n n gm (matL qs n) ∧ W.heap.size ≤ bm ∧ (∀ r, r < n → W.heap.size ≤ gm r) ∧ W.grownBy w' (some b) := by
  have hl0 : 0 < qs.length := by rw [hq, ← hL]; exact Nat.mul_pos h0 h0
  have hlb : lg ≠ b := items_ne hva hl0 ha
  have hb0 : b < W.heap.size := heap_lt ha
  have hlg : lg < W.heap.size := items_lt hva hl0
  have TF := Lib.hid (faults_any [arrVal' (n : Int) (n : Int) lg L lc] g C W (by simp) hv (fun j hj => by
    have : j = 0 := by simpa using hj
    subst this
    exact ⟨_, _, _, parg_arr h0 (by omega) hL hq hva⟩) hE)
  have TV := Lib.hid (fun W' hA hc => value_any b g 0 1 C 0 5 { data := #[] } { data := #[] } { data := #[] } false 0 (n : Int) (n : Int) (some ⟨lg, 0, none⟩) L lc W' hA (by decide) (by decide) hne hc)
  have TR := Lib.hid (fun W' hva' ge => read_any qs n L lc lg W' h0 (by omega) hL hq hva' ge)
  have HA := Lib.hid ha
  have HV := Lib.hid hv
  have HVA := Lib.hid hva
  have HE := Lib.hid hE
  have HP := Lib.hid hP
  have HLB := Lib.hid hlb
  have HLG := Lib.hid hlg
  have HB0 := Lib.hid hb0
  obtain ⟨⟨x0, x1⟩, _⟩ := two_at ha
  clear ha hv hva hE hP hlb hlg hl0 hb0
  go_enter Tryz.func172, Tryz.ntmps172
  go_wp2_with fail
  refine TF.out.mono ?_
  rintro e w1 ⟨rfl, hb⟩
  replace HA := Lib.hid (keep_block HA.out hb)
  replace HV := Lib.hid (HV.out.below hb)
  replace HVA := Lib.hid (HVA.out.below hb)
  replace HE := Lib.hid (HE.out.below hb)
  have HG := Lib.hid (kept_below (b := b) hb)
  clear hb x0 x1 TF
  go_wp2_with fail
  refine (TV.out _ HA.out (cells_arr HV.out (i := 0) (by simp) rfl)).mono ?_
  rintro e w2 ⟨rfl, ha, hg⟩
  replace HE := Lib.hid (HE.out.kept hg HP.out)
  have HVB := Lib.hid (vals_kept HVA.out hg HLB.out (Nat.lt_of_lt_of_le HLG.out HG.out.size))
  replace HG := Lib.hid (kept_trans HG.out hg)
  clear ha hg HA HV HVA
  go_wp2_with fail
  refine (TR.out _ HVB.out HE.out).mono ?_
  rintro e w3 ⟨bm, gm, rfl, hm, hbm, hgm, hb⟩
  have HM := Lib.hid hm
  have hs := HG.out.size
  have HBM := Lib.hid (show W.heap.size ≤ bm by omega)
  have HGM := Lib.hid (show ∀ r, r < n → W.heap.size ≤ gm r from fun r hr => by have := hgm r hr; omega)
  replace HG := Lib.hid (kept_trans HG.out (kept_below hb))
  clear hm hbm hgm hb hs HVB
  obtain ⟨C1, y0⟩ := HM.out.hd.at (show 0 < n by omega)
  have hi1 : (0 : Int) < (n : Int) := by omega
  have e1 : ((n : Int) != (n : Int)) = false := by simp
  have TW := Lib.hid (fun W' => within_ok (n : Int) 1 12 W' (by omega) (by omega))
  clear hL hq
  go_wp2_with fail
  refine (TW.out _).mono ?_
  rintro e w4 ⟨rfl, hw⟩
  rw [hw]
  clear hw
  go_wp2
  refine bodyPost_ret (v := .slice (some ⟨bm, 0, none⟩) n n) (by simp [results, Tryz.results172, go_sem]) rfl ⟨bm, gm, rfl, HM.out, HBM.out, HGM.out, HG.out⟩
end Go.Proofs.YtgponoogifeopaaGreatDoor.Num.Mt
