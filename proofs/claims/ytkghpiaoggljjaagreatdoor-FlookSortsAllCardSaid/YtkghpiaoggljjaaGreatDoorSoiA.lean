/- Numbers as texts of digits, fractions, values and the functions of fmath: contracts of the program's functions, joined from smaller texts. Conditions stand at each theorem. -/
import Derived.Test.YtkghpiaoggljjaaGreatDoorSohB
set_option linter.unusedVariables false
set_option linter.unusedSimpArgs false

/- The law FlookSortsAll's own walk. Conditions: what the functions give; the tables lie as they are laid. -/
namespace Go.Proofs.YtkghpiaoggljjaaGreatDoor.Num.Fl
open Go.RowKit Go.Lib Num
attribute [local irreducible] wpOp
set_option linter.unusedVariables false in
/-- what the operations of region 3 yield -/
def SorKs3 (nq kq : Rat) (k : Int) (nn r s L gv Cv B9 B2 : Nat) (its : List Rat) : List RK :=
 [.pure (.agg #[.int .i64 5, .string { data := #[] }, .string { data := #[] }, .string { data := #[] }, .bool false, .int .i64 0, .int .i64 (r : Int), .int .i64 (s : Int), .slice (some ⟨gv, 0, none⟩) L Cv]),
  .pure (.int .i64 (nn : Int)),
  .pure (.agg #[.int .i64 1, .string (numS nq), .string (denS nq), .string { data := #[] }, .bool false, .int .i64 0, .int .i64 0, .int .i64 0, .slice none 0 0]),
  .pure (.int .i64 k),
  .pure (.agg #[.int .i64 1, .string (numS kq), .string (denS kq), .string { data := #[] }, .bool false, .int .i64 0, .int .i64 0, .int .i64 0, .slice none 0 0]),
  .row #[.int .i64 5, .string { data := #[] }, .string { data := #[] }, .string { data := #[] }, .bool false, .int .i64 0, .int .i64 (r : Int), .int .i64 (s : Int), .slice (some ⟨gv, 0, none⟩) L Cv, .int .i64 1, .string (numS nq), .string (denS nq), .string { data := #[] }, .bool false, .int .i64 0, .int .i64 0, .int .i64 0, .slice none 0 0, .int .i64 1, .string (numS kq), .string (denS kq), .string { data := #[] }, .bool false, .int .i64 0, .int .i64 0, .int .i64 0, .slice none 0 0] 27 3,
  .any (TabR B2 r s L its),
  .box none #[.int .i64 0, .string { data := #[] }, .string { data := #[] }, .string { data := #[] }, .bool false, .int .i64 0, .int .i64 0, .int .i64 0, .slice none 0 0] #[.int .i64 0, .string { data := #[] }, .string { data := #[] }, .string { data := #[] }, .bool false, .int .i64 0, .int .i64 0, .int .i64 0, .slice none 0 0] 27 10,
  .put 0]
set_option linter.unusedVariables false in
/-- what the operations of region 9 yield -/
def SorKs9 (i ip r s L gs Cs b11 nn a u m b v l : Nat) (p q : Rat) (cc : Int) : List RK :=
 [.pure (.pointer (some ⟨b11, 8, none⟩)),
  .pure (.slice (some ⟨gs, 0, none⟩) L Cs),
  .pure (.int .i64 (i : Int)),
  .pure (.int .i64 (ip : Int)),
  .pure (.pointer (some ⟨b11, 7, none⟩)),
  .pure (.int .i64 (s : Int)),
  .pure (.int .i64 (a : Int)),
  .pure (.int .i64 (nn : Int)),
  .pure (.int .i64 (u : Int)),
  .pure (.int .i64 (m : Int)),
  .pure (.pointer (some ⟨gs, m * 9, none⟩)),
  .pure (.agg #[.int .i64 1, .string (numS p), .string (denS p), .string { data := #[] }, .bool false, .int .i64 0, .int .i64 0, .int .i64 0, .slice none 0 0]),
  .pure (.pointer (some ⟨b11, 8, none⟩)),
  .pure (.slice (some ⟨gs, 0, none⟩) L Cs),
  .pure (.int .i64 (i : Int)),
  .pure (.pointer (some ⟨b11, 7, none⟩)),
  .pure (.int .i64 (s : Int)),
  .pure (.int .i64 (b : Int)),
  .pure (.int .i64 (nn : Int)),
  .pure (.int .i64 (v : Int)),
  .pure (.int .i64 (l : Int)),
  .pure (.pointer (some ⟨gs, l * 9, none⟩)),
  .pure (.agg #[.int .i64 1, .string (numS q), .string (denS q), .string { data := #[] }, .bool false, .int .i64 0, .int .i64 0, .int .i64 0, .slice none 0 0]),
  .pure (.tuple #[.int .i64 cc, .int .i64 0]),
  .pure (.tuple #[.int .i64 cc, .int .i64 0]),
  .pure (.int .i64 cc),
  .pure (.int .i64 0),
  .pure (.int .i64 cc),
  .pure (.int .i64 0)]
set_option linter.unusedVariables false in
/-- what the operations of region 12 yield -/
def SorKs12 (nq z : Rat) (nn r s L gv Cv B9 B2 : Nat) (ks : List Rat) : List RK :=
 [.pure (.agg #[.int .i64 5, .string { data := #[] }, .string { data := #[] }, .string { data := #[] }, .bool false, .int .i64 0, .int .i64 (r : Int), .int .i64 (s : Int), .slice (some ⟨gv, 0, none⟩) L Cv]),
  .pure (.agg #[.int .i64 1, .string (numS z), .string (denS z), .string { data := #[] }, .bool false, .int .i64 0, .int .i64 0, .int .i64 0, .slice none 0 0]),
  .pure (.int .i64 (nn : Int)),
  .pure (.agg #[.int .i64 1, .string (numS nq), .string (denS nq), .string { data := #[] }, .bool false, .int .i64 0, .int .i64 0, .int .i64 0, .slice none 0 0]),
  .row #[.int .i64 5, .string { data := #[] }, .string { data := #[] }, .string { data := #[] }, .bool false, .int .i64 0, .int .i64 (r : Int), .int .i64 (s : Int), .slice (some ⟨gv, 0, none⟩) L Cv, .int .i64 1, .string (numS z), .string (denS z), .string { data := #[] }, .bool false, .int .i64 0, .int .i64 0, .int .i64 0, .slice none 0 0, .int .i64 1, .string (numS nq), .string (denS nq), .string { data := #[] }, .bool false, .int .i64 0, .int .i64 0, .int .i64 0, .slice none 0 0] 27 3,
  .any (KeyR B2 r ks),
  .box none #[.int .i64 0, .string { data := #[] }, .string { data := #[] }, .string { data := #[] }, .bool false, .int .i64 0, .int .i64 0, .int .i64 0, .slice none 0 0] #[.int .i64 0, .string { data := #[] }, .string { data := #[] }, .string { data := #[] }, .bool false, .int .i64 0, .int .i64 0, .int .i64 0, .slice none 0 0] 27 9,
  .put 0]
set_option linter.unusedVariables false in
/-- what the operations of region 15 yield -/
def SorKs15 (nq kq sm : Rat) (k : Int) (nn r s L gv Cv gs Cs gk ck B9 b11 b15 B2 : Nat) (its : List Rat) : List RK :=
 [.pure (.agg #[.int .i64 5, .string { data := #[] }, .string { data := #[] }, .string { data := #[] }, .bool false, .int .i64 0, .int .i64 (r : Int), .int .i64 (s : Int), .slice (some ⟨gv, 0, none⟩) L Cv]),
  .pure (.agg #[.int .i64 5, .string { data := #[] }, .string { data := #[] }, .string { data := #[] }, .bool false, .int .i64 0, .int .i64 (r : Int), .int .i64 1, .slice (some ⟨gk, 0, none⟩) r ck]),
  .pure (.int .i64 k),
  .pure (.agg #[.int .i64 1, .string (numS kq), .string (denS kq), .string { data := #[] }, .bool false, .int .i64 0, .int .i64 0, .int .i64 0, .slice none 0 0]),
  .row #[.int .i64 5, .string { data := #[] }, .string { data := #[] }, .string { data := #[] }, .bool false, .int .i64 0, .int .i64 (r : Int), .int .i64 (s : Int), .slice (some ⟨gv, 0, none⟩) L Cv, .int .i64 5, .string { data := #[] }, .string { data := #[] }, .string { data := #[] }, .bool false, .int .i64 0, .int .i64 (r : Int), .int .i64 1, .slice (some ⟨gk, 0, none⟩) r ck, .int .i64 1, .string (numS kq), .string (denS kq), .string { data := #[] }, .bool false, .int .i64 0, .int .i64 0, .int .i64 0, .slice none 0 0] 27 3,
  .any (TabS r s L its),
  .pure (.agg #[.int .i64 5, .string { data := #[] }, .string { data := #[] }, .string { data := #[] }, .bool false, .int .i64 0, .int .i64 (r : Int), .int .i64 (s : Int), .slice (some ⟨gs, 0, none⟩) L Cs]),
  .pure (.bool true),
  .pure (.bool true),
  .pure (.agg #[.int .i64 5, .string { data := #[] }, .string { data := #[] }, .string { data := #[] }, .bool false, .int .i64 0, .int .i64 (r : Int), .int .i64 (s : Int), .slice (some ⟨gs, 0, none⟩) L Cs]),
  .pure (.int .i64 (nn : Int)),
  .pure (.agg #[.int .i64 1, .string (numS nq), .string (denS nq), .string { data := #[] }, .bool false, .int .i64 0, .int .i64 0, .int .i64 0, .slice none 0 0]),
  .pure (.int .i64 k),
  .pure (.agg #[.int .i64 1, .string (numS kq), .string (denS kq), .string { data := #[] }, .bool false, .int .i64 0, .int .i64 0, .int .i64 0, .slice none 0 0]),
  .row #[.int .i64 5, .string { data := #[] }, .string { data := #[] }, .string { data := #[] }, .bool false, .int .i64 0, .int .i64 (r : Int), .int .i64 (s : Int), .slice (some ⟨gs, 0, none⟩) L Cs, .int .i64 1, .string (numS nq), .string (denS nq), .string { data := #[] }, .bool false, .int .i64 0, .int .i64 0, .int .i64 0, .slice none 0 0, .int .i64 1, .string (numS kq), .string (denS kq), .string { data := #[] }, .bool false, .int .i64 0, .int .i64 0, .int .i64 0, .slice none 0 0] 27 3,
  .any (TabR B2 r s L its),
  .pure (.agg #[.int .i64 5, .string { data := #[] }, .string { data := #[] }, .string { data := #[] }, .bool false, .int .i64 0, .int .i64 (r : Int), .int .i64 (s : Int), .slice (some ⟨gs, 0, none⟩) L Cs]),
  .pure (.bool true),
  .pure (.bool true),
  .pure (.bool true),
  .pure (.agg #[.int .i64 5, .string { data := #[] }, .string { data := #[] }, .string { data := #[] }, .bool false, .int .i64 0, .int .i64 (r : Int), .int .i64 (s : Int), .slice (some ⟨gs, 0, none⟩) L Cs]),
  .row #[.int .i64 5, .string { data := #[] }, .string { data := #[] }, .string { data := #[] }, .bool false, .int .i64 0, .int .i64 (r : Int), .int .i64 (s : Int), .slice (some ⟨gs, 0, none⟩) L Cs] 27 1,
  .pure (.agg #[.int .i64 1, .string (numS sm), .string (denS sm), .string { data := #[] }, .bool false, .int .i64 0, .int .i64 0, .int .i64 0, .slice none 0 0]),
  .pure (.agg #[.int .i64 5, .string { data := #[] }, .string { data := #[] }, .string { data := #[] }, .bool false, .int .i64 0, .int .i64 (r : Int), .int .i64 (s : Int), .slice (some ⟨gv, 0, none⟩) L Cv]),
  .row #[.int .i64 5, .string { data := #[] }, .string { data := #[] }, .string { data := #[] }, .bool false, .int .i64 0, .int .i64 (r : Int), .int .i64 (s : Int), .slice (some ⟨gv, 0, none⟩) L Cv] 27 1,
  .pure (.agg #[.int .i64 1, .string (numS sm), .string (denS sm), .string { data := #[] }, .bool false, .int .i64 0, .int .i64 0, .int .i64 0, .slice none 0 0]),
  .pure (.bool true),
  .pure (.bool true),
  .pure (.bool true)]
set_option linter.unusedSimpArgs false in
set_option linter.unusedVariables false in
set_option maxHeartbeats 4000000 in
set_option maxRecDepth 100000 in
theorem sorts_law (sl : Value) (c0 n0 k0 b2 k : Int) (r s c nn L : Nat) (qs its ks : List Rat) (nq kq z sm : Rat) (w : World) (hE : Env w)
  (hr1 : 1 ≤ r)
  (hs1 : 1 ≤ s)
  (hs4 : s ≤ 4)
  (hr9 : r ≤ 30)
  (hcs : c < s)
  (hnn : nn = c + 1)
  (hL : r * s = L)
  (hL9 : L ≤ 1000)
  (hqs : qs.length = L)
  (hits : its.length = L)
  (hfi : ∀ q ∈ its, fits q = true)
  (tMc : ∀ W, Calls Tryz.prog 5 #[.int .i64 c0, .int .i64 4] W fun e w' => e = .returned (.int .i64 ((s : Int) - 1)) ∧ w' = W)
  (tT : Calls Tryz.prog 4 #[sl, .int .i64 (s : Int)] w fun e w' => ∃ g cap, e = .returned (.agg #[.int .i64 5, .string { data := #[] }, .string { data := #[] }, .string { data := #[] }, .bool false, .int .i64 0, .int .i64 (r : Int), .int .i64 (s : Int), .slice (some ⟨g, 0, none⟩) L cap]) ∧ ValsAt w' g 0 (numVals qs) ∧ (w.heap.size ≤ g ∧ L ≤ cap) ∧ Below w.heap.size w w')
  (tMn : ∀ W, Calls Tryz.prog 5 #[.int .i64 n0, .int .i64 (s : Int)] W fun e w' => e = .returned (.int .i64 (c : Int)) ∧ w' = W)
  (tMk : ∀ W, Calls Tryz.prog 5 #[.int .i64 k0, .int .i64 2] W fun e w' => e = .returned (.int .i64 b2) ∧ w' = W)
  (hb2 : b2 = 0 ∧ k = 1 ∨ b2 = 1 ∧ k = -1)
  (tWn : FunE 7 (.int .i64 (nn : Int)) (.agg #[.int .i64 1, .string (numS nq), .string (denS nq), .string { data := #[] }, .bool false, .int .i64 0, .int .i64 0, .int .i64 0, .slice none 0 0]))
  (tWk : FunE 7 (.int .i64 k) (.agg #[.int .i64 1, .string (numS kq), .string (denS kq), .string { data := #[] }, .bool false, .int .i64 0, .int .i64 0, .int .i64 0, .slice none 0 0]))
  (tW0 : FunE 7 (.int .i64 0) (.agg #[.int .i64 1, .string (numS z), .string (denS z), .string { data := #[] }, .bool false, .int .i64 0, .int .i64 0, .int .i64 0, .slice none 0 0]))
  (pS : SoC r s L nq kq qs its)
  (pS2 : SoC r s L nq kq its its)
  (pB : SbC r s L kq qs ks its)
  (pI : IxC r s L z nq qs ks)
  (pM : SmC r s L qs sm)
  (pM2 : SmC r s L its sm)
  (hord : ∀ i, i + 1 < r → cmpR (its.getD (i * s + c) 0) (its.getD ((i + 1) * s + c) 0) * k ≤ 0)
  (hksL : ks.length = r) :
  Calls Tryz.prog 3 #[sl, .int .i64 c0, .int .i64 n0, .int .i64 k0] w fun e w' => e = .returned (.bool true) ∧ Below w.heap.size w w' := by
 have Qhnn := Lib.hid hnn
 have QhL := Lib.hid hL
 have Qhqs := Lib.hid hqs
 have Qhits := Lib.hid hits
 have Qhfi := Lib.hid hfi
 have QtMc := Lib.hid tMc
 have QtT := Lib.hid tT
 have QtMn := Lib.hid tMn
 have QtMk := Lib.hid tMk
 have Qhb2 := Lib.hid hb2
 have QtWn := Lib.hid tWn
 have QtWk := Lib.hid tWk
 have QtW0 := Lib.hid tW0
 have QpS := Lib.hid pS
 have QpS2 := Lib.hid pS2
 have QpB := Lib.hid pB
 have QpI := Lib.hid pI
 have QpM := Lib.hid pM
 have QpM2 := Lib.hid pM2
 have Qhord := Lib.hid hord
 have QhksL := Lib.hid hksL
 have hLp : 0 < L := by rw [← hL]; exact Nat.mul_pos (by omega) hs1
 have hnl : nn ≤ 4 := by omega
 have hws : IntKind.i64.wrap (1 + ((s : Int) - 1)) = (s : Int) := by rw [show (1 : Int) + ((s : Int) - 1) = (s : Int) by omega]; exact IntWalk.i64_in _ (by omega)
 have hwn : IntKind.i64.wrap (1 + (c : Int)) = (nn : Int) := by rw [show (1 : Int) + (c : Int) = (nn : Int) by omega]; exact IntWalk.i64_in _ (by omega)
 have hwa : IntKind.i64.wrap (2 * b2) = 2 * b2 := IntWalk.i64_in _ (by rcases hb2 with h | h <;> omega)
 have hwb : IntKind.i64.wrap (1 - 2 * b2) = k := by rw [show (1 : Int) - 2 * b2 = k by rcases hb2 with h | h <;> omega]; exact IntWalk.i64_in _ (by rcases hb2 with h | h <;> omega)
 have HE := Lib.hid hE
 clear hE hnn hL hqs hits hfi tMc tT tMn tMk hb2 tWn tWk tW0 pS pS2 pB pI pM pM2 hord hksL
 go_enter Tryz.func3, Tryz.ntmps3
 go_wp2_with fail
 refine (QtMc.out _).mono ?_
 rintro e w1 ⟨rfl, hw⟩
 replace hw := hw.symm
 subst hw
 go_wp2_with fail
 refine QtT.out.mono ?_
 rintro e w1 ⟨gv, Cv, rfl, hva, hlg, hq⟩
 have HCV := Lib.hid hlg
 have hq2 : Below w1.heap.size w1 (w1.alloc (.cells #[.int .i64 5, .string { data := #[] }, .string { data := #[] }, .string { data := #[] }, .bool false, .int .i64 0, .int .i64 (r : Int), .int .i64 (s : Int), .slice (some ⟨gv, 0, none⟩) L Cv] 27)) := (Below.refl _ _).alloc (Nat.le_refl _) _
 have H9 := Lib.hid (heap_alloc_new w1 (.cells #[.int .i64 5, .string { data := #[] }, .string { data := #[] }, .string { data := #[] }, .bool false, .int .i64 0, .int .i64 (r : Int), .int .i64 (s : Int), .slice (some ⟨gv, 0, none⟩) L Cv] 27))
 have L9 := Lib.hid hq.size
 have HVV := Lib.hid (hva.below hq2)
 replace HE := Lib.hid ((HE.out.below hq).below hq2)
 have HL := Lib.hid (hq.trans (hq2.mono hq.size))
 clear hq hq2 hva hlg
 obtain ⟨B9, hB⟩ : ∃ B, w1.heap.size = B := ⟨_, rfl⟩
 obtain ⟨W1, hW⟩ : ∃ Z, w1.alloc (.cells #[.int .i64 5, .string { data := #[] }, .string { data := #[] }, .string { data := #[] }, .bool false, .int .i64 0, .int .i64 (r : Int), .int .i64 (s : Int), .slice (some ⟨gv, 0, none⟩) L Cv] 27) = Z := ⟨_, rfl⟩
 rw [hW] at H9 HE HL HVV
 rw [hB] at H9 L9
 have EW := Lib.hid hW
 have EB := Lib.hid hB
 clear hW hB
 go_upto_region 2 with fail
 rw [EW.out, EB.out]
 obtain ⟨⟨x0, x1, x2, x3, x4, x5, x6, x7, x8⟩, _⟩ := nine_at H9.out
 go_wp2_with fail
 refine (QtMn.out _).mono ?_
 rintro e w2 ⟨rfl, hw⟩
 replace hw := hw.symm
 subst hw
 go_wp2_with fail
 refine (QtMk.out _).mono ?_
 rintro e w2 ⟨rfl, hw⟩
 replace hw := hw.symm
 subst hw
 clear x0 x1 x2 x3 x4 x5 x6 x7 x8
 go_upto_region 3 with fail
 clear hws hwn hwa hwb
 have QPAST := Lib.hid (fun b (hb : W1.heap.size ≤ b) => HE.out.past hb)
 have Q9L := Lib.hid (heap_lt H9.out)
 go_wp2_with fail
 have hok : okB 9 (SorKs3 nq kq k nn r s L gv Cv B9 W1.heap.size its) = true := by kernel_rfl
 have hla : ∀ (ix : Nat) (kx : RK), (SorKs3 nq kq k nn r s L gv Cv B9 W1.heap.size its)[ix]? = some kx → kx.lasts := by
  intro ix kx hk
  match ix, hk with
  | 0, hk => have hk := Option.some.inj hk; subst hk; exact trivial
  | 1, hk => have hk := Option.some.inj hk; subst hk; exact trivial
  | 2, hk => have hk := Option.some.inj hk; subst hk; exact trivial
  | 3, hk => have hk := Option.some.inj hk; subst hk; exact trivial
  | 4, hk => have hk := Option.some.inj hk; subst hk; exact trivial
  | 5, hk => have hk := Option.some.inj hk; subst hk; exact trivial
  | 6, hk => have hk := Option.some.inj hk; subst hk; exact (by first | exact tabR_lasts | exact tabS_lasts | exact keyR_lasts)
  | 7, hk => have hk := Option.some.inj hk; subst hk; exact trivial
  | 8, hk => have hk := Option.some.inj hk; subst hk; exact trivial
  | _ + 9, hk => exact absurd hk (by simp [SorKs3])
 refine wp_region_facts_abs_r (row := none) (w := W1) 8 8 1 9 [8] (SorKs3 nq kq k nn r s L gv Cv B9 W1.heap.size its) [some 30, some 31, some 32, some 33, some 34, some 35, some 36, some 11, none] [(9, .pointer (some ⟨B9, 0, none⟩)), (2, .int .i64 (nn : Int)), (10, .int .i64 k)] 126 (by kernel_rfl) (by kernel_rfl) (by kernel_rfl) rfl rfl (by decide) rfl (by kernel_rfl) rfl (Nat.le_of_eq rfl) rfl ?ho [undef, undef, undef, undef, undef, undef, undef, undef, undef] ?h00 (Fs.start rfl rfl) ?hs ?hd
 case ho =>
  intro k x hk
  match k, hk with
  | 0, hk => have hk := Option.some.inj hk; subst hk; rfl
  | 1, hk => have hk := Option.some.inj hk; subst hk; rfl
  | 2, hk => have hk := Option.some.inj hk; subst hk; rfl
  | _ + 3, hk => exact absurd hk (by simp)
 case h00 => simp only [putO, layL]
 case hs =>
  rintro A listed vs Wr hF hR i hi hun hpre
  obtain ⟨s0, s1, s2, s3, s4, s5, s6, s7, s8, hvs⟩ := exl_of 9 vs (fun l => vs = l) hF.len rfl
  subst hvs
  have hge := Nat.zero_le i
  rcases Nat.lt_or_ge i 4 with hi | hge
  ·rcases Nat.lt_or_ge i 2 with hi | hge
   ·rcases Nat.lt_or_ge i 1 with hi | hge
    ·obtain rfl := eqi hi hge
     have ro9 : A.tmps[9]? = some (.pointer (some ⟨B9, 0, none⟩)) := hR.out 0 _ rfl
     have hcc := (nine_at (keep_block H9.out (below_none hF.low))).1
     have cH90 := hcc.1
     have cH91 := hcc.2.1
     have cH92 := hcc.2.2.1
     have cH93 := hcc.2.2.2.1
     have cH94 := hcc.2.2.2.2.1
     have cH95 := hcc.2.2.2.2.2.1
     have cH96 := hcc.2.2.2.2.2.2.1
     have cH97 := hcc.2.2.2.2.2.2.2.1
     have cH98 := hcc.2.2.2.2.2.2.2.2
     clear hcc
     refine step_of ⟨some 30, _, _, _, _, _⟩ rfl (fun K' hK => ?_)
     go_simp
     exact hK.out _ _ ⟨_, hF.pure hok hla hpre rfl (Below.refl _ _), rfl⟩
    obtain rfl := eqi hi hge
    have ro2 : A.tmps[2]? = some (.int .i64 (nn : Int)) := hR.out 1 _ rfl
    refine step_of ⟨some 31, _, _, _, _, _⟩ rfl (fun K' hK => ?_)
    go_simp
    exact hK.out _ _ ⟨_, hF.pure hok hla hpre rfl (Below.refl _ _), rfl⟩
   rcases Nat.lt_or_ge i 3 with hi | hge
   ·obtain rfl := eqi hi hge
    have p1 := hpre 1 (by kernel_rfl)
    have e1 : s1 = .int .i64 (nn : Int) := hF.get 1 _ rfl (.inr p1)
    subst e1
    have r1 : A.tmps[31]? = some (.int .i64 (nn : Int)) := hR.own 1 _ _ rfl rfl
    refine step_of ⟨some 32, _, _, _, _, _⟩ rfl (fun K' hK => ?_)
    go_simp
    go_at_call 7
    (with_reducible refine (FunE.on QtWn.out _ (HE.out.below (below_none hF.low))).mono ?_)
    rintro e Wq ⟨rfl, hq⟩
    exact hK.out _ _ ⟨_, hF.pure hok hla hpre rfl hq, rfl⟩
   obtain rfl := eqi hi hge
   have ro10 : A.tmps[10]? = some (.int .i64 k) := hR.out 2 _ rfl
   refine step_of ⟨some 33, _, _, _, _, _⟩ rfl (fun K' hK => ?_)
   go_simp
   exact hK.out _ _ ⟨_, hF.pure hok hla hpre rfl (Below.refl _ _), rfl⟩
  rcases Nat.lt_or_ge i 6 with hi | hge
  ·rcases Nat.lt_or_ge i 5 with hi | hge
   ·obtain rfl := eqi hi hge
    have p3 := hpre 3 (by kernel_rfl)
    have e3 : s3 = .int .i64 k := hF.get 3 _ rfl (.inr p3)
    subst e3
    have r3 : A.tmps[33]? = some (.int .i64 k) := hR.own 3 _ _ rfl rfl
    refine step_of ⟨some 34, _, _, _, _, _⟩ rfl (fun K' hK => ?_)
    go_simp
    go_at_call 7
    (with_reducible refine (FunE.on QtWk.out _ (HE.out.below (below_none hF.low))).mono ?_)
    rintro e Wq ⟨rfl, hq⟩
    exact hK.out _ _ ⟨_, hF.pure hok hla hpre rfl hq, rfl⟩
   obtain rfl := eqi hi hge
   have p0 := hpre 0 (by kernel_rfl)
   have e0 : s0 = .agg #[.int .i64 5, .string { data := #[] }, .string { data := #[] }, .string { data := #[] }, .bool false, .int .i64 0, .int .i64 (r : Int), .int .i64 (s : Int), .slice (some ⟨gv, 0, none⟩) L Cv] := hF.get 0 _ rfl (.inr p0)
   subst e0
   have r0 : A.tmps[30]? = some (.agg #[.int .i64 5, .string { data := #[] }, .string { data := #[] }, .string { data := #[] }, .bool false, .int .i64 0, .int .i64 (r : Int), .int .i64 (s : Int), .slice (some ⟨gv, 0, none⟩) L Cv]) := hR.own 0 _ _ rfl rfl
   have p2 := hpre 2 (by kernel_rfl)
   have e2 : s2 = .agg #[.int .i64 1, .string (numS nq), .string (denS nq), .string { data := #[] }, .bool false, .int .i64 0, .int .i64 0, .int .i64 0, .slice none 0 0] := hF.get 2 _ rfl (.inr p2)
   subst e2
   have r2 : A.tmps[32]? = some (.agg #[.int .i64 1, .string (numS nq), .string (denS nq), .string { data := #[] }, .bool false, .int .i64 0, .int .i64 0, .int .i64 0, .slice none 0 0]) := hR.own 2 _ _ rfl rfl
   have p4 := hpre 4 (by kernel_rfl)
   have e4 : s4 = .agg #[.int .i64 1, .string (numS kq), .string (denS kq), .string { data := #[] }, .bool false, .int .i64 0, .int .i64 0, .int .i64 0, .slice none 0 0] := hF.get 4 _ rfl (.inr p4)
   subst e4
   have r4 : A.tmps[34]? = some (.agg #[.int .i64 1, .string (numS kq), .string (denS kq), .string { data := #[] }, .bool false, .int .i64 0, .int .i64 0, .int .i64 0, .slice none 0 0]) := hR.own 4 _ _ rfl rfl
   refine step_of ⟨some 35, _, _, _, _, _⟩ rfl (fun K' hK => ?_)
   go_simp
   exact hK.out _ _ ⟨_, hF.row hok hla hpre rfl, rfl⟩
  rcases Nat.lt_or_ge i 7 with hi | hge
  ·obtain rfl := eqi hi hge
   have p5 := hpre 5 (by kernel_rfl)
   obtain ⟨G5, eG5, _, hGB5⟩ : ∃ G, s5 = .slice (some ⟨G, 0, none⟩) 3 3 ∧ _ ≤ G ∧ Wr.heap[G]? = some (.cells #[.int .i64 5, .string { data := #[] }, .string { data := #[] }, .string { data := #[] }, .bool false, .int .i64 0, .int .i64 (r : Int), .int .i64 (s : Int), .slice (some ⟨gv, 0, none⟩) L Cv, .int .i64 1, .string (numS nq), .string (denS nq), .string { data := #[] }, .bool false, .int .i64 0, .int .i64 0, .int .i64 0, .slice none 0 0, .int .i64 1, .string (numS kq), .string (denS kq), .string { data := #[] }, .bool false, .int .i64 0, .int .i64 0, .int .i64 0, .slice none 0 0] 27 (0, 0)) := hF.get 5 _ rfl (.inr p5)
   subst eG5
   have r5 : A.tmps[35]? = some (.slice (some ⟨G5, 0, none⟩) 3 3) := hR.own 5 _ _ rfl rfl
   refine step_of ⟨some 36, _, _, _, _, _⟩ rfl (fun K' hK => ?_)
   go_simp
   go_at_call 6
   (with_reducible refine (SoC.on QpS.out W1.heap.size _ G5 gv Cv hGB5 (HVV.out.below (below_none hF.low)) HCV.out.2 (HE.out.below (below_none hF.low)) (below_none hF.low).size).mono ?_)
   rintro e Wq ⟨lq, cq, rfl, hvq, _, hq⟩
   exact hK.out _ _ ⟨_, hF.any hok hla hpre rfl hq ⟨lq, cq, rfl, hvq⟩, rfl⟩
  obtain rfl := eqi hi hge
  refine step_of ⟨some 11, _, _, _, _, _⟩ rfl (fun K' hK => ?_)
  go_simp
  exact hK.out _ _ ⟨_, hF.box hok hla hpre hun rfl, rfl⟩
 case hd =>
  rintro listed vs W4 hF hall
  obtain ⟨s0, s1, s2, s3, s4, s5, s6, s7, s8, hvs⟩ := exl_of 9 vs (fun l => vs = l) hF.len rfl
  subst hvs
  obtain ⟨lg6, cap6, e6, hv6⟩ := hF.get 6 _ rfl (.inr (hall 6 (by decide)))
  replace e6 : s6 = .agg #[.int .i64 5, .string { data := #[] }, .string { data := #[] }, .string { data := #[] }, .bool false, .int .i64 0, .int .i64 (r : Int), .int .i64 (s : Int), .slice (some ⟨lg6, 0, none⟩) L cap6] := e6
  subst e6
  have HV6 := Lib.hid hv6
  obtain ⟨b11, e7, _, gq, k7⟩ : ∃ G, s7 = .pointer (some ⟨G, 0, none⟩) ∧ (∀ k, none = some k → G = k) ∧ _ ≤ G ∧ W4.heap[G]? = some (.cells (if listed.getD 10 false = true then #[.int .i64 0, .string { data := #[] }, .string { data := #[] }, .string { data := #[] }, .bool false, .int .i64 0, .int .i64 0, .int .i64 0, .slice none 0 0] else #[.int .i64 0, .string { data := #[] }, .string { data := #[] }, .string { data := #[] }, .bool false, .int .i64 0, .int .i64 0, .int .i64 0, .slice none 0 0]) 27 (0, 0)) := hF.get 7 _ rfl (.inr (hall 7 (by decide)))
  subst e7
  rw [if_neg (hF.unst (by decide))] at k7
  have H11 := Lib.hid k7
  clear k7
  have ge11 := Lib.hid gq
  clear gq
  have hq := below_none hF.low
  replace H9 := Lib.hid (keep_block H9.out hq)
  replace HE := Lib.hid (HE.out.below hq)
  replace HVV := Lib.hid (HVV.out.below hq)
  replace HL := Lib.hid (HL.out.trans (hq.mono HL.out.size))
  clear hq
  clear hF hall hok hla
  simp only [putO, layL]
  obtain ⟨hva, hlg, hcp⟩ := HV6.out
  have HVS := Lib.hid hva
  have HCS := Lib.hid hcp
  clear hva hlg hcp HV6
  have L2 := Lib.hid (heap_lt H9.out)
  have LB := Lib.hid ge11.out
  obtain ⟨⟨x0, x1, x2, x3, x4, x5, x6, x7, x8⟩, y0, y1, y2, y3, y4, y5, y6, y7, y8⟩ := nine_at H11.out
  refine rest_one 8 ⟨none, _, _, _, _, _⟩ rfl (by kernel_rfl) rfl (fun K' hK => ?_)
  go_simp
  clear x0 x1 x2 x3 x4 x5 x6 x7 x8 y0 y1 y2 y3 y4 y5 y6 y7 y8
  refine hK.out _ _ ?_
  refine rest_end ?_
  have NE11 := row_ne HVS.out (by rw [Qhits.out]; exact hLp) H11.out
  have NEV := row_ne HVV.out (by rw [Qhqs.out]; exact hLp) H11.out
  have LSS := items_in HVS.out (by rw [Qhits.out]; exact hLp)
  have LVV := items_in HVV.out (by rw [Qhqs.out]; exact hLp)
  have hg := set9_kept W4 b11 (.int .i64 5) (.string { data := #[] }) (.string { data := #[] }) (.string { data := #[] }) (.bool false) (.int .i64 0) (.int .i64 (r : Int)) (.int .i64 (s : Int)) (.slice (some ⟨lg6, 0, none⟩) L cap6)
  have q11 := set9_at H11.out (.int .i64 5) (.string { data := #[] }) (.string { data := #[] }) (.string { data := #[] }) (.bool false) (.int .i64 0) (.int .i64 (r : Int)) (.int .i64 (s : Int)) (.slice (some ⟨lg6, 0, none⟩) L cap6)
  have HPB : Past b11 := QPAST.out b11 LB.out
  have N9 : B9 ≠ b11 := by have := Q9L.out; have := LB.out; omega
  have HI := Lib.hid (show SwI w B9 b11 r s L gv Cv lg6 cap6 qs its ((((((((((W4.setCell ⟨b11, 0, none⟩ (.int .i64 5)).setCell ⟨b11, 1, none⟩ (.string { data := #[] })).setCell ⟨b11, 2, none⟩ (.string { data := #[] })).setCell ⟨b11, 3, none⟩ (.string { data := #[] })).setCell ⟨b11, 4, none⟩ (.bool false)).setCell ⟨b11, 5, none⟩ (.int .i64 0)).setCell ⟨b11, 6, none⟩ (.int .i64 (r : Int))).setCell ⟨b11, 7, none⟩ (.int .i64 (s : Int))).setCell ⟨b11, 8, none⟩ (.slice (some ⟨lg6, 0, none⟩) L cap6))) from ⟨kept_block H9.out hg N9, q11, vals_kept HVV.out hg NEV LVV, vals_kept HVS.out hg NE11 LSS, HE.out.kept hg HPB, HL.out.grown hg HL.out.size (fun q hq => by injection hq with hq; have := Q9L.out; have := LB.out; have := L9.out; omega), L9.out, by have := Q9L.out; have := LB.out; omega⟩)
  obtain ⟨W5, hW⟩ : ∃ Z, (((((((((W4.setCell ⟨b11, 0, none⟩ (.int .i64 5)).setCell ⟨b11, 1, none⟩ (.string { data := #[] })).setCell ⟨b11, 2, none⟩ (.string { data := #[] })).setCell ⟨b11, 3, none⟩ (.string { data := #[] })).setCell ⟨b11, 4, none⟩ (.bool false)).setCell ⟨b11, 5, none⟩ (.int .i64 0)).setCell ⟨b11, 6, none⟩ (.int .i64 (r : Int))).setCell ⟨b11, 7, none⟩ (.int .i64 (s : Int))).setCell ⟨b11, 8, none⟩ (.slice (some ⟨lg6, 0, none⟩) L cap6)) = Z := ⟨_, rfl⟩
  rw [hW] at HI ⊢
  clear hW hg q11 HPB N9 NE11 NEV LSS LVV
  obtain ⟨gs, hgs⟩ : ∃ z, lg6 = z := ⟨_, rfl⟩
  obtain ⟨Cs, hCs⟩ : ∃ z, cap6 = z := ⟨_, rfl⟩
  rw [hgs, hCs] at HI
  rw [hgs] at HVS
  rw [hCs] at HCS
  rw [hgs, hCs]
  clear hgs hCs H9 H11 HVV HVS HE HL L9 LB L2 EW EB
  obtain ⟨⟨x0, x1, x2, x3, x4, x5, x6, x7, x8⟩, _⟩ := nine_at HI.out.h9
  obtain ⟨⟨y0, y1, y2, y3, y4, y5, y6, y7, y8⟩, _⟩ := nine_at HI.out.h11
  go_upto_region 6 with fail
  clear x0 x1 x2 x3 x4 x5 x6 x7 x8 y0 y1 y2 y3 y4 y5 y6 y7 y8
  go_upto_region 7 with fail
  go_loopg [12] (r - 1) (fun gh v12 wx => ∃ i : Nat, v12 = .int .i64 (i : Int) ∧ 1 ≤ i ∧ i ≤ r ∧ gh = r - i ∧ SwI w B9 b11 r s L gv Cv gs Cs qs its wx)
  case atStart => exact ⟨1, rfl, Nat.le_refl _, by omega, rfl, HI.out⟩
  case round =>
   clear HI
   obtain ⟨i, rfl, hi1, hir, rfl, hi⟩ := hrel
   have HI := Lib.hid hi
   clear hi
   by_cases hlt : i < r
   ·skip
    obtain ⟨ip, hip⟩ : ∃ z, i = z + 1 := ⟨i - 1, by omega⟩
    have HIP := Lib.hid hip
    have gip : (i : Int) - 1 = (ip : Int) := by omega
    have wip : IntKind.i64.wrap (ip : Int) = (ip : Int) := IntWalk.i64_in _ (by omega)
    have hip2 : ip < r := by omega
    clear hip
    have hd1 : decide ((i : Int) < (r : Int)) = true := decide_eq_true (by omega)
    have hd2 : decide (i < r) = true := decide_eq_true hlt
    have hwk : IntKind.i64.wrap ((i : Int) + 1) = (i : Int) + 1 := IntWalk.i64_in _ (by omega)
    obtain ⟨a, hA⟩ : ∃ z, ip * s = z := ⟨_, rfl⟩
    obtain ⟨m, hM⟩ : ∃ z, a + c = z := ⟨_, rfl⟩
    have hmm : m < L := by rw [← hM, ← hA]; exact Mt.place_lt (hip2) hcs QhL.out
    obtain ⟨u, hU⟩ : ∃ z, a + nn = z := ⟨_, rfl⟩
    have ga : (ip : Int) * (s : Int) = (a : Int) := by rw [← hA, Int.natCast_mul]
    have gu : (a : Int) + (nn : Int) = (u : Int) := by omega
    have gm : (u : Int) - 1 = (m : Int) := by have := Qhnn.out; omega
    have wa : IntKind.i64.wrap (a : Int) = (a : Int) := IntWalk.i64_in _ (by omega)
    have wu : IntKind.i64.wrap (u : Int) = (u : Int) := IntWalk.i64_in _ (by omega)
    have wm : IntKind.i64.wrap (m : Int) = (m : Int) := IntWalk.i64_in _ (by have := Qhnn.out; omega)
    have lm : (m : Int) < (L : Int) := by omega
    have zm : (0 : Int) ≤ (m : Int) := by omega
    have HL_m : Hid (m < its.length) := Lib.hid (by rw [Qhits.out]; exact hmm)
    obtain ⟨p, hp⟩ : ∃ z, its[m]'(HL_m.out) = z := ⟨_, rfl⟩
    have Hp := Lib.hid hp
    have fp : fits p = true := by rw [← hp]; exact Qhfi.out _ (List.getElem_mem _)
    have HD_p : Hid (its.getD (ip * s + c) 0 = p) := Lib.hid (by rw [hA, hM, List.getD_eq_getElem?_getD, List.getElem?_eq_getElem HL_m.out]; exact hp)
    clear hA hM hU hp
    obtain ⟨b, hA⟩ : ∃ z, i * s = z := ⟨_, rfl⟩
    obtain ⟨l, hM⟩ : ∃ z, b + c = z := ⟨_, rfl⟩
    have hml : l < L := by rw [← hM, ← hA]; exact Mt.place_lt (hlt) hcs QhL.out
    obtain ⟨v, hU⟩ : ∃ z, b + nn = z := ⟨_, rfl⟩
    have gb : (i : Int) * (s : Int) = (b : Int) := by rw [← hA, Int.natCast_mul]
    have gv : (b : Int) + (nn : Int) = (v : Int) := by omega
    have gl : (v : Int) - 1 = (l : Int) := by have := Qhnn.out; omega
    have wb : IntKind.i64.wrap (b : Int) = (b : Int) := IntWalk.i64_in _ (by omega)
    have wv : IntKind.i64.wrap (v : Int) = (v : Int) := IntWalk.i64_in _ (by omega)
    have wl : IntKind.i64.wrap (l : Int) = (l : Int) := IntWalk.i64_in _ (by have := Qhnn.out; omega)
    have ll : (l : Int) < (L : Int) := by omega
    have zl : (0 : Int) ≤ (l : Int) := by omega
    have HL_l : Hid (l < its.length) := Lib.hid (by rw [Qhits.out]; exact hml)
    obtain ⟨q, hq⟩ : ∃ z, its[l]'(HL_l.out) = z := ⟨_, rfl⟩
    have Hq := Lib.hid hq
    have fq : fits q = true := by rw [← hq]; exact Qhfi.out _ (List.getElem_mem _)
    have HD_q : Hid (its.getD (i * s + c) 0 = q) := Lib.hid (by rw [hA, hM, List.getD_eq_getElem?_getD, List.getElem?_eq_getElem HL_l.out]; exact hq)
    clear hA hM hU hq
    have HORD : Hid (cmpR p q * k ≤ 0) := Lib.hid (by
     have h := Qhord.out ip (by have := HIP.out; omega)
     rw [← HIP.out, HD_p.out, HD_q.out] at h
     exact h)
    obtain ⟨cc, hcc⟩ : ∃ z, cmpR p q = z := ⟨_, rfl⟩
    have HCC := Lib.hid hcc
    obtain ⟨dd, hdd⟩ : ∃ z, cc * k = z := ⟨_, rfl⟩
    have hwd : IntKind.i64.wrap (cc * k) = dd := by rw [← hdd]; exact IntWalk.i64_in _ (by
     have h3 := Mt.cmpR_three p q
     rw [hcc] at h3
     rcases h3 with h | h | h <;> rw [h] <;> rcases Qhb2.out with h | h <;> rw [h.2] <;> decide)
    have hd3 : decide (0 < dd) = false := decide_eq_false (by
     have h := HORD.out
     rw [hcc, hdd] at h
     omega)
    clear hcc hdd
    obtain ⟨⟨y0, y1, y2, y3, y4, y5, y6, y7, y8⟩, _⟩ := nine_at HI.out.h11
    go_upto_region 9 with fail
    clear y0 y1 y2 y3 y4 y5 y6 y7 y8
    have H11 := Lib.hid HI.out.h11
    go_wp2_with fail
    have hok : okB 29 (SorKs9 i ip r s L gs Cs b11 nn a u m b v l p q cc) = true := by kernel_rfl
    have hna := noAny_of (ks := (SorKs9 i ip r s L gs Cs b11 nn a u m b v l p q cc)) (by kernel_rfl)
    have hla := lasts_of hna
    refine wp_region_facts_abs (row := none) (w := wr) 29 0 29 [] (SorKs9 i ip r s L gs Cs b11 nn a u m b v l p q cc) [some 56, some 57, some 58, some 59, some 60, some 61, some 62, some 63, some 64, some 65, some 66, some 67, some 68, some 69, some 70, some 71, some 72, some 73, some 74, some 75, some 76, some 77, some 78, some 79, some 55, some 80, some 81, some 13, some 14] [(11, .pointer (some ⟨b11, 0, none⟩)), (12, .int .i64 (i : Int)), (2, .int .i64 (nn : Int))] 126 (by kernel_rfl) (by kernel_rfl) (by kernel_rfl) rfl rfl (by decide) rfl (by kernel_rfl) rfl (Nat.le_of_eq rfl) rfl ?ho [u56, u57, u58, u59, u60, u61, u62, u63, u64, u65, u66, u67, u68, u69, u70, u71, u72, u73, u74, u75, u76, u77, u78, u79, u55, u80, u81, u13, u14] ?h00 (Fs.start rfl rfl) ?hs ?hd
    case ho =>
     intro k x hk
     match k, hk with
     | 0, hk => have hk := Option.some.inj hk; subst hk; rfl
     | 1, hk => have hk := Option.some.inj hk; subst hk; rfl
     | 2, hk => have hk := Option.some.inj hk; subst hk; rfl
     | _ + 3, hk => exact absurd hk (by simp)
    case h00 => simp only [putO, layL]
    case hs =>
     rintro A listed vs Wr hF hR i hi hun hpre
     obtain ⟨s0, s1, s2, s3, s4, s5, s6, s7, s8, s9, s10, s11, s12, s13, s14, s15, s16, s17, s18, s19, s20, s21, s22, s23, s24, s25, s26, s27, s28, hvs⟩ := exl_of 29 vs (fun l => vs = l) hF.len rfl
     subst hvs
     have hge := Nat.zero_le i
     rcases Nat.lt_or_ge i 14 with hi | hge
     ·rcases Nat.lt_or_ge i 7 with hi | hge
      ·rcases Nat.lt_or_ge i 3 with hi | hge
       ·rcases Nat.lt_or_ge i 1 with hi | hge
        ·obtain rfl := eqi hi hge
         have ro11 : A.tmps[11]? = some (.pointer (some ⟨b11, 0, none⟩)) := hR.out 0 _ rfl
         refine step_of ⟨some 56, _, _, _, _, _⟩ rfl (fun K' hK => ?_)
         go_simp
         exact hK.out _ _ ⟨_, hF.pure hok hla hpre rfl (Below.refl _ _), rfl⟩
        rcases Nat.lt_or_ge i 2 with hi | hge
        ·obtain rfl := eqi hi hge
         have p0 := hpre 0 (by kernel_rfl)
         have e0 : s0 = .pointer (some ⟨b11, 8, none⟩) := hF.get 0 _ rfl (.inr p0)
         subst e0
         have r0 : A.tmps[56]? = some (.pointer (some ⟨b11, 8, none⟩)) := hR.own 0 _ _ rfl rfl
         have hcc := (nine_at (keep_block H11.out (below_none hF.low))).1
         have cH110 := hcc.1
         have cH111 := hcc.2.1
         have cH112 := hcc.2.2.1
         have cH113 := hcc.2.2.2.1
         have cH114 := hcc.2.2.2.2.1
         have cH115 := hcc.2.2.2.2.2.1
         have cH116 := hcc.2.2.2.2.2.2.1
         have cH117 := hcc.2.2.2.2.2.2.2.1
         have cH118 := hcc.2.2.2.2.2.2.2.2
         clear hcc
         refine step_of ⟨some 57, _, _, _, _, _⟩ rfl (fun K' hK => ?_)
         go_simp
         exact hK.out _ _ ⟨_, hF.pure hok hla hpre rfl (Below.refl _ _), rfl⟩
        obtain rfl := eqi hi hge
        have ro12 : A.tmps[12]? = some (.int .i64 (i : Int)) := hR.out 1 _ rfl
        refine step_of ⟨some 58, _, _, _, _, _⟩ rfl (fun K' hK => ?_)
        go_simp
        exact hK.out _ _ ⟨_, hF.pure hok hla hpre rfl (Below.refl _ _), rfl⟩
       rcases Nat.lt_or_ge i 5 with hi | hge
       ·rcases Nat.lt_or_ge i 4 with hi | hge
        ·obtain rfl := eqi hi hge
         have p2 := hpre 2 (by kernel_rfl)
         have e2 : s2 = .int .i64 (i : Int) := hF.get 2 _ rfl (.inr p2)
         subst e2
         have r2 : A.tmps[58]? = some (.int .i64 (i : Int)) := hR.own 2 _ _ rfl rfl
         refine step_of ⟨some 59, _, _, _, _, _⟩ rfl (fun K' hK => ?_)
         go_simp
         exact hK.out _ _ ⟨_, hF.pure hok hla hpre rfl (Below.refl _ _), rfl⟩
        obtain rfl := eqi hi hge
        have ro11 : A.tmps[11]? = some (.pointer (some ⟨b11, 0, none⟩)) := hR.out 0 _ rfl
        refine step_of ⟨some 60, _, _, _, _, _⟩ rfl (fun K' hK => ?_)
        go_simp
        exact hK.out _ _ ⟨_, hF.pure hok hla hpre rfl (Below.refl _ _), rfl⟩
       rcases Nat.lt_or_ge i 6 with hi | hge
       ·obtain rfl := eqi hi hge
        have p4 := hpre 4 (by kernel_rfl)
        have e4 : s4 = .pointer (some ⟨b11, 7, none⟩) := hF.get 4 _ rfl (.inr p4)
        subst e4
        have r4 : A.tmps[60]? = some (.pointer (some ⟨b11, 7, none⟩)) := hR.own 4 _ _ rfl rfl
        have hcc := (nine_at (keep_block H11.out (below_none hF.low))).1
        have cH110 := hcc.1
        have cH111 := hcc.2.1
        have cH112 := hcc.2.2.1
        have cH113 := hcc.2.2.2.1
        have cH114 := hcc.2.2.2.2.1
        have cH115 := hcc.2.2.2.2.2.1
        have cH116 := hcc.2.2.2.2.2.2.1
        have cH117 := hcc.2.2.2.2.2.2.2.1
        have cH118 := hcc.2.2.2.2.2.2.2.2
        clear hcc
        refine step_of ⟨some 61, _, _, _, _, _⟩ rfl (fun K' hK => ?_)
        go_simp
        exact hK.out _ _ ⟨_, hF.pure hok hla hpre rfl (Below.refl _ _), rfl⟩
       obtain rfl := eqi hi hge
       have p3 := hpre 3 (by kernel_rfl)
       have e3 : s3 = .int .i64 (ip : Int) := hF.get 3 _ rfl (.inr p3)
       subst e3
       have r3 : A.tmps[59]? = some (.int .i64 (ip : Int)) := hR.own 3 _ _ rfl rfl
       have p5 := hpre 5 (by kernel_rfl)
       have e5 : s5 = .int .i64 (s : Int) := hF.get 5 _ rfl (.inr p5)
       subst e5
       have r5 : A.tmps[61]? = some (.int .i64 (s : Int)) := hR.own 5 _ _ rfl rfl
       refine step_of ⟨some 62, _, _, _, _, _⟩ rfl (fun K' hK => ?_)
       go_simp
       exact hK.out _ _ ⟨_, hF.pure hok hla hpre rfl (Below.refl _ _), rfl⟩
      rcases Nat.lt_or_ge i 10 with hi | hge
      ·rcases Nat.lt_or_ge i 8 with hi | hge
       ·obtain rfl := eqi hi hge
        have ro2 : A.tmps[2]? = some (.int .i64 (nn : Int)) := hR.out 2 _ rfl
        refine step_of ⟨some 63, _, _, _, _, _⟩ rfl (fun K' hK => ?_)
        go_simp
        exact hK.out _ _ ⟨_, hF.pure hok hla hpre rfl (Below.refl _ _), rfl⟩
       rcases Nat.lt_or_ge i 9 with hi | hge
       ·obtain rfl := eqi hi hge
        have p6 := hpre 6 (by kernel_rfl)
        have e6 : s6 = .int .i64 (a : Int) := hF.get 6 _ rfl (.inr p6)
        subst e6
        have r6 : A.tmps[62]? = some (.int .i64 (a : Int)) := hR.own 6 _ _ rfl rfl
        have p7 := hpre 7 (by kernel_rfl)
        have e7 : s7 = .int .i64 (nn : Int) := hF.get 7 _ rfl (.inr p7)
        subst e7
        have r7 : A.tmps[63]? = some (.int .i64 (nn : Int)) := hR.own 7 _ _ rfl rfl
        refine step_of ⟨some 64, _, _, _, _, _⟩ rfl (fun K' hK => ?_)
        go_simp
        exact hK.out _ _ ⟨_, hF.pure hok hla hpre rfl (Below.refl _ _), rfl⟩
       obtain rfl := eqi hi hge
       have p8 := hpre 8 (by kernel_rfl)
       have e8 : s8 = .int .i64 (u : Int) := hF.get 8 _ rfl (.inr p8)
       subst e8
       have r8 : A.tmps[64]? = some (.int .i64 (u : Int)) := hR.own 8 _ _ rfl rfl
       refine step_of ⟨some 65, _, _, _, _, _⟩ rfl (fun K' hK => ?_)
       go_simp
       exact hK.out _ _ ⟨_, hF.pure hok hla hpre rfl (Below.refl _ _), rfl⟩
      rcases Nat.lt_or_ge i 12 with hi | hge
      ·rcases Nat.lt_or_ge i 11 with hi | hge
       ·obtain rfl := eqi hi hge
        have p1 := hpre 1 (by kernel_rfl)
        have e1 : s1 = .slice (some ⟨gs, 0, none⟩) L Cs := hF.get 1 _ rfl (.inr p1)
        subst e1
        have r1 : A.tmps[57]? = some (.slice (some ⟨gs, 0, none⟩) L Cs) := hR.own 1 _ _ rfl rfl
        have p9 := hpre 9 (by kernel_rfl)
        have e9 : s9 = .int .i64 (m : Int) := hF.get 9 _ rfl (.inr p9)
        subst e9
        have r9 : A.tmps[65]? = some (.int .i64 (m : Int)) := hR.own 9 _ _ rfl rfl
        refine step_of ⟨some 66, _, _, _, _, _⟩ rfl (fun K' hK => ?_)
        go_simp
        exact hK.out _ _ ⟨_, hF.pure hok hla hpre rfl (Below.refl _ _), rfl⟩
       obtain rfl := eqi hi hge
       have p10 := hpre 10 (by kernel_rfl)
       have e10 : s10 = .pointer (some ⟨gs, m * 9, none⟩) := hF.get 10 _ rfl (.inr p10)
       subst e10
       have r10 : A.tmps[66]? = some (.pointer (some ⟨gs, m * 9, none⟩)) := hR.own 10 _ _ rfl rfl
       obtain ⟨j0, j1, j2, j3, j4, j5, j6, j7, j8⟩ := item_at (HI.out.step (below_none hF.low)).vs m HL_m.out p Hp.out
       refine step_of ⟨some 67, _, _, _, _, _⟩ rfl (fun K' hK => ?_)
       go_simp
       exact hK.out _ _ ⟨_, hF.pure hok hla hpre rfl (Below.refl _ _), rfl⟩
      rcases Nat.lt_or_ge i 13 with hi | hge
      ·obtain rfl := eqi hi hge
       have ro11 : A.tmps[11]? = some (.pointer (some ⟨b11, 0, none⟩)) := hR.out 0 _ rfl
       refine step_of ⟨some 68, _, _, _, _, _⟩ rfl (fun K' hK => ?_)
       go_simp
       exact hK.out _ _ ⟨_, hF.pure hok hla hpre rfl (Below.refl _ _), rfl⟩
      obtain rfl := eqi hi hge
      have p12 := hpre 12 (by kernel_rfl)
      have e12 : s12 = .pointer (some ⟨b11, 8, none⟩) := hF.get 12 _ rfl (.inr p12)
      subst e12
      have r12 : A.tmps[68]? = some (.pointer (some ⟨b11, 8, none⟩)) := hR.own 12 _ _ rfl rfl
      have hcc := (nine_at (keep_block H11.out (below_none hF.low))).1
      have cH110 := hcc.1
      have cH111 := hcc.2.1
      have cH112 := hcc.2.2.1
      have cH113 := hcc.2.2.2.1
      have cH114 := hcc.2.2.2.2.1
      have cH115 := hcc.2.2.2.2.2.1
      have cH116 := hcc.2.2.2.2.2.2.1
      have cH117 := hcc.2.2.2.2.2.2.2.1
      have cH118 := hcc.2.2.2.2.2.2.2.2
      clear hcc
      refine step_of ⟨some 69, _, _, _, _, _⟩ rfl (fun K' hK => ?_)
      go_simp
      exact hK.out _ _ ⟨_, hF.pure hok hla hpre rfl (Below.refl _ _), rfl⟩
     rcases Nat.lt_or_ge i 21 with hi | hge
     ·rcases Nat.lt_or_ge i 17 with hi | hge
      ·rcases Nat.lt_or_ge i 15 with hi | hge
       ·obtain rfl := eqi hi hge
        have ro12 : A.tmps[12]? = some (.int .i64 (i : Int)) := hR.out 1 _ rfl
        refine step_of ⟨some 70, _, _, _, _, _⟩ rfl (fun K' hK => ?_)
        go_simp
        exact hK.out _ _ ⟨_, hF.pure hok hla hpre rfl (Below.refl _ _), rfl⟩
       rcases Nat.lt_or_ge i 16 with hi | hge
       ·obtain rfl := eqi hi hge
        have ro11 : A.tmps[11]? = some (.pointer (some ⟨b11, 0, none⟩)) := hR.out 0 _ rfl
        refine step_of ⟨some 71, _, _, _, _, _⟩ rfl (fun K' hK => ?_)
        go_simp
        exact hK.out _ _ ⟨_, hF.pure hok hla hpre rfl (Below.refl _ _), rfl⟩
       obtain rfl := eqi hi hge
       have p15 := hpre 15 (by kernel_rfl)
       have e15 : s15 = .pointer (some ⟨b11, 7, none⟩) := hF.get 15 _ rfl (.inr p15)
       subst e15
       have r15 : A.tmps[71]? = some (.pointer (some ⟨b11, 7, none⟩)) := hR.own 15 _ _ rfl rfl
       have hcc := (nine_at (keep_block H11.out (below_none hF.low))).1
       have cH110 := hcc.1
       have cH111 := hcc.2.1
       have cH112 := hcc.2.2.1
       have cH113 := hcc.2.2.2.1
       have cH114 := hcc.2.2.2.2.1
       have cH115 := hcc.2.2.2.2.2.1
       have cH116 := hcc.2.2.2.2.2.2.1
       have cH117 := hcc.2.2.2.2.2.2.2.1
       have cH118 := hcc.2.2.2.2.2.2.2.2
       clear hcc
       refine step_of ⟨some 72, _, _, _, _, _⟩ rfl (fun K' hK => ?_)
       go_simp
       exact hK.out _ _ ⟨_, hF.pure hok hla hpre rfl (Below.refl _ _), rfl⟩
      rcases Nat.lt_or_ge i 19 with hi | hge
      ·rcases Nat.lt_or_ge i 18 with hi | hge
       ·obtain rfl := eqi hi hge
        have p14 := hpre 14 (by kernel_rfl)
        have e14 : s14 = .int .i64 (i : Int) := hF.get 14 _ rfl (.inr p14)
        subst e14
        have r14 : A.tmps[70]? = some (.int .i64 (i : Int)) := hR.own 14 _ _ rfl rfl
        have p16 := hpre 16 (by kernel_rfl)
        have e16 : s16 = .int .i64 (s : Int) := hF.get 16 _ rfl (.inr p16)
        subst e16
        have r16 : A.tmps[72]? = some (.int .i64 (s : Int)) := hR.own 16 _ _ rfl rfl
        refine step_of ⟨some 73, _, _, _, _, _⟩ rfl (fun K' hK => ?_)
        go_simp
        exact hK.out _ _ ⟨_, hF.pure hok hla hpre rfl (Below.refl _ _), rfl⟩
       obtain rfl := eqi hi hge
       have ro2 : A.tmps[2]? = some (.int .i64 (nn : Int)) := hR.out 2 _ rfl
       refine step_of ⟨some 74, _, _, _, _, _⟩ rfl (fun K' hK => ?_)
       go_simp
       exact hK.out _ _ ⟨_, hF.pure hok hla hpre rfl (Below.refl _ _), rfl⟩
      rcases Nat.lt_or_ge i 20 with hi | hge
      ·obtain rfl := eqi hi hge
       have p17 := hpre 17 (by kernel_rfl)
       have e17 : s17 = .int .i64 (b : Int) := hF.get 17 _ rfl (.inr p17)
       subst e17
       have r17 : A.tmps[73]? = some (.int .i64 (b : Int)) := hR.own 17 _ _ rfl rfl
       have p18 := hpre 18 (by kernel_rfl)
       have e18 : s18 = .int .i64 (nn : Int) := hF.get 18 _ rfl (.inr p18)
       subst e18
       have r18 : A.tmps[74]? = some (.int .i64 (nn : Int)) := hR.own 18 _ _ rfl rfl
       refine step_of ⟨some 75, _, _, _, _, _⟩ rfl (fun K' hK => ?_)
       go_simp
       exact hK.out _ _ ⟨_, hF.pure hok hla hpre rfl (Below.refl _ _), rfl⟩
      obtain rfl := eqi hi hge
      have p19 := hpre 19 (by kernel_rfl)
      have e19 : s19 = .int .i64 (v : Int) := hF.get 19 _ rfl (.inr p19)
      subst e19
      have r19 : A.tmps[75]? = some (.int .i64 (v : Int)) := hR.own 19 _ _ rfl rfl
      refine step_of ⟨some 76, _, _, _, _, _⟩ rfl (fun K' hK => ?_)
      go_simp
      exact hK.out _ _ ⟨_, hF.pure hok hla hpre rfl (Below.refl _ _), rfl⟩
     rcases Nat.lt_or_ge i 25 with hi | hge
     ·rcases Nat.lt_or_ge i 23 with hi | hge
      ·rcases Nat.lt_or_ge i 22 with hi | hge
       ·obtain rfl := eqi hi hge
        have p13 := hpre 13 (by kernel_rfl)
        have e13 : s13 = .slice (some ⟨gs, 0, none⟩) L Cs := hF.get 13 _ rfl (.inr p13)
        subst e13
        have r13 : A.tmps[69]? = some (.slice (some ⟨gs, 0, none⟩) L Cs) := hR.own 13 _ _ rfl rfl
        have p20 := hpre 20 (by kernel_rfl)
        have e20 : s20 = .int .i64 (l : Int) := hF.get 20 _ rfl (.inr p20)
        subst e20
        have r20 : A.tmps[76]? = some (.int .i64 (l : Int)) := hR.own 20 _ _ rfl rfl
        refine step_of ⟨some 77, _, _, _, _, _⟩ rfl (fun K' hK => ?_)
        go_simp
        exact hK.out _ _ ⟨_, hF.pure hok hla hpre rfl (Below.refl _ _), rfl⟩
       obtain rfl := eqi hi hge
       have p21 := hpre 21 (by kernel_rfl)
       have e21 : s21 = .pointer (some ⟨gs, l * 9, none⟩) := hF.get 21 _ rfl (.inr p21)
       subst e21
       have r21 : A.tmps[77]? = some (.pointer (some ⟨gs, l * 9, none⟩)) := hR.own 21 _ _ rfl rfl
       obtain ⟨j0, j1, j2, j3, j4, j5, j6, j7, j8⟩ := item_at (HI.out.step (below_none hF.low)).vs l HL_l.out q Hq.out
       refine step_of ⟨some 78, _, _, _, _, _⟩ rfl (fun K' hK => ?_)
       go_simp
       exact hK.out _ _ ⟨_, hF.pure hok hla hpre rfl (Below.refl _ _), rfl⟩
      rcases Nat.lt_or_ge i 24 with hi | hge
      ·obtain rfl := eqi hi hge
       have p11 := hpre 11 (by kernel_rfl)
       have e11 : s11 = .agg #[.int .i64 1, .string (numS p), .string (denS p), .string { data := #[] }, .bool false, .int .i64 0, .int .i64 0, .int .i64 0, .slice none 0 0] := hF.get 11 _ rfl (.inr p11)
       subst e11
       have r11 : A.tmps[67]? = some (.agg #[.int .i64 1, .string (numS p), .string (denS p), .string { data := #[] }, .bool false, .int .i64 0, .int .i64 0, .int .i64 0, .slice none 0 0]) := hR.own 11 _ _ rfl rfl
       have p22 := hpre 22 (by kernel_rfl)
       have e22 : s22 = .agg #[.int .i64 1, .string (numS q), .string (denS q), .string { data := #[] }, .bool false, .int .i64 0, .int .i64 0, .int .i64 0, .slice none 0 0] := hF.get 22 _ rfl (.inr p22)
       subst e22
       have r22 : A.tmps[78]? = some (.agg #[.int .i64 1, .string (numS q), .string (denS q), .string { data := #[] }, .bool false, .int .i64 0, .int .i64 0, .int .i64 0, .slice none 0 0]) := hR.own 22 _ _ rfl rfl
       refine step_of ⟨some 79, _, _, _, _, _⟩ rfl (fun K' hK => ?_)
       go_simp
       go_at_call 8
       (with_reducible refine (order_cc HCC.out fp fq (HI.out.step (below_none hF.low)).env).mono ?_)
       rintro e Wq ⟨rfl, hq⟩
       exact hK.out _ _ ⟨_, hF.pure hok hla hpre rfl hq, rfl⟩
      obtain rfl := eqi hi hge
      have p23 := hpre 23 (by kernel_rfl)
      have e23 : s23 = .tuple #[.int .i64 cc, .int .i64 0] := hF.get 23 _ rfl (.inr p23)
      subst e23
      have r23 : A.tmps[79]? = some (.tuple #[.int .i64 cc, .int .i64 0]) := hR.own 23 _ _ rfl rfl
      refine step_of ⟨some 55, _, _, _, _, _⟩ rfl (fun K' hK => ?_)
      go_simp
      exact hK.out _ _ ⟨_, hF.pure hok hla hpre rfl (Below.refl _ _), rfl⟩
     rcases Nat.lt_or_ge i 27 with hi | hge
     ·rcases Nat.lt_or_ge i 26 with hi | hge
      ·obtain rfl := eqi hi hge
       have p24 := hpre 24 (by kernel_rfl)
       have e24 : s24 = .tuple #[.int .i64 cc, .int .i64 0] := hF.get 24 _ rfl (.inr p24)
       subst e24
       have r24 : A.tmps[55]? = some (.tuple #[.int .i64 cc, .int .i64 0]) := hR.own 24 _ _ rfl rfl
       refine step_of ⟨some 80, _, _, _, _, _⟩ rfl (fun K' hK => ?_)
       go_simp
       exact hK.out _ _ ⟨_, hF.pure hok hla hpre rfl (Below.refl _ _), rfl⟩
      obtain rfl := eqi hi hge
      have p24 := hpre 24 (by kernel_rfl)
      have e24 : s24 = .tuple #[.int .i64 cc, .int .i64 0] := hF.get 24 _ rfl (.inr p24)
      subst e24
      have r24 : A.tmps[55]? = some (.tuple #[.int .i64 cc, .int .i64 0]) := hR.own 24 _ _ rfl rfl
      refine step_of ⟨some 81, _, _, _, _, _⟩ rfl (fun K' hK => ?_)
      go_simp
      exact hK.out _ _ ⟨_, hF.pure hok hla hpre rfl (Below.refl _ _), rfl⟩
     rcases Nat.lt_or_ge i 28 with hi | hge
     ·obtain rfl := eqi hi hge
      have p25 := hpre 25 (by kernel_rfl)
      have e25 : s25 = .int .i64 cc := hF.get 25 _ rfl (.inr p25)
      subst e25
      have r25 : A.tmps[80]? = some (.int .i64 cc) := hR.own 25 _ _ rfl rfl
      refine step_of ⟨some 13, _, _, _, _, _⟩ rfl (fun K' hK => ?_)
      go_simp
      exact hK.out _ _ ⟨_, hF.pure hok hla hpre rfl (Below.refl _ _), rfl⟩
     obtain rfl := eqi hi hge
     have p26 := hpre 26 (by kernel_rfl)
     have e26 : s26 = .int .i64 0 := hF.get 26 _ rfl (.inr p26)
     subst e26
     have r26 : A.tmps[81]? = some (.int .i64 0) := hR.own 26 _ _ rfl rfl
     refine step_of ⟨some 14, _, _, _, _, _⟩ rfl (fun K' hK => ?_)
     go_simp
     exact hK.out _ _ ⟨_, hF.pure hok hla hpre rfl (Below.refl _ _), rfl⟩
    case hd =>
     rintro listed vs W9 hF hall
     obtain ⟨s0, s1, s2, s3, s4, s5, s6, s7, s8, s9, s10, s11, s12, s13, s14, s15, s16, s17, s18, s19, s20, s21, s22, s23, s24, s25, s26, s27, s28, hvs⟩ := exl_of 29 vs (fun l => vs = l) hF.len rfl
     subst hvs
     have e27 : s27 = .int .i64 cc := hF.get 27 _ rfl (.inr (hall 27 (by decide)))
     subst e27
     have e28 : s28 = .int .i64 0 := hF.get 28 _ rfl (.inr (hall 28 (by decide)))
     subst e28
     have hq := below_none hF.low
     replace HI := Lib.hid (HI.out.step hq)
     clear hq
     clear hF hall hok hla hna
     refine rest_end ?_
     simp only [putO, layL]
     clear H11
     go_wp2
     go_roundg (r - (i + 1))
     case measure => omega
     case rel => exact ⟨i + 1, by go_num, by omega, by omega, by omega, HI.out⟩
   ·skip
    have hd1 : decide ((i : Int) < (r : Int)) = false := decide_eq_false (by omega)
    have hd2 : decide (i < r) = false := decide_eq_false hlt
    obtain ⟨⟨y0, y1, y2, y3, y4, y5, y6, y7, y8⟩, _⟩ := nine_at HI.out.h11
    go_upto_region 12 with fail
    clear y0 y1 y2 y3 y4 y5 y6 y7 y8
    have H9 := Lib.hid HI.out.h9
    have H11 := Lib.hid HI.out.h11
    have L11 := Lib.hid (heap_lt H11.out)
    have LVV := Lib.hid (items_in HI.out.vv (by rw [Qhqs.out]; exact hLp))
    have LSS := Lib.hid (items_in HI.out.vs (by rw [Qhits.out]; exact hLp))
    have HPP := Lib.hid (fun b (hb : wr.heap.size ≤ b) => HI.out.env.past hb)
    go_wp2_with fail
    have hok : okB 8 (SorKs12 nq z nn r s L gv Cv B9 wr.heap.size ks) = true := by kernel_rfl
    have hla : ∀ (ix : Nat) (kx : RK), (SorKs12 nq z nn r s L gv Cv B9 wr.heap.size ks)[ix]? = some kx → kx.lasts := by
     intro ix kx hk
     match ix, hk with
     | 0, hk => have hk := Option.some.inj hk; subst hk; exact trivial
     | 1, hk => have hk := Option.some.inj hk; subst hk; exact trivial
     | 2, hk => have hk := Option.some.inj hk; subst hk; exact trivial
     | 3, hk => have hk := Option.some.inj hk; subst hk; exact trivial
     | 4, hk => have hk := Option.some.inj hk; subst hk; exact trivial
     | 5, hk => have hk := Option.some.inj hk; subst hk; exact (by first | exact tabR_lasts | exact tabS_lasts | exact keyR_lasts)
     | 6, hk => have hk := Option.some.inj hk; subst hk; exact trivial
     | 7, hk => have hk := Option.some.inj hk; subst hk; exact trivial
     | _ + 8, hk => exact absurd hk (by simp [SorKs12])
    refine wp_region_facts_abs_r (row := none) (w := wr) 7 7 1 8 [7] (SorKs12 nq z nn r s L gv Cv B9 wr.heap.size ks) [some 86, some 87, some 88, some 89, some 90, some 91, some 15, none] [(9, .pointer (some ⟨B9, 0, none⟩)), (2, .int .i64 (nn : Int))] 126 (by kernel_rfl) (by kernel_rfl) (by kernel_rfl) rfl rfl (by decide) rfl (by kernel_rfl) rfl (Nat.le_of_eq rfl) rfl ?ho [undef, undef, undef, undef, undef, undef, undef, undef] ?h00 (Fs.start rfl rfl) ?hs ?hd
    case ho =>
     intro k x hk
     match k, hk with
     | 0, hk => have hk := Option.some.inj hk; subst hk; rfl
     | 1, hk => have hk := Option.some.inj hk; subst hk; rfl
     | _ + 2, hk => exact absurd hk (by simp)
    case h00 => simp only [putO, layL]
    case hs =>
     rintro A listed vs Wr hF hR i hi hun hpre
     obtain ⟨s0, s1, s2, s3, s4, s5, s6, s7, hvs⟩ := exl_of 8 vs (fun l => vs = l) hF.len rfl
     subst hvs
     have hge := Nat.zero_le i
     rcases Nat.lt_or_ge i 3 with hi | hge
     ·rcases Nat.lt_or_ge i 1 with hi | hge
      ·obtain rfl := eqi hi hge
       have ro9 : A.tmps[9]? = some (.pointer (some ⟨B9, 0, none⟩)) := hR.out 0 _ rfl
       have hcc := (nine_at (keep_block H9.out (below_none hF.low))).1
       have cH90 := hcc.1
       have cH91 := hcc.2.1
       have cH92 := hcc.2.2.1
       have cH93 := hcc.2.2.2.1
       have cH94 := hcc.2.2.2.2.1
       have cH95 := hcc.2.2.2.2.2.1
       have cH96 := hcc.2.2.2.2.2.2.1
       have cH97 := hcc.2.2.2.2.2.2.2.1
       have cH98 := hcc.2.2.2.2.2.2.2.2
       clear hcc
       refine step_of ⟨some 86, _, _, _, _, _⟩ rfl (fun K' hK => ?_)
       go_simp
       exact hK.out _ _ ⟨_, hF.pure hok hla hpre rfl (Below.refl _ _), rfl⟩
      rcases Nat.lt_or_ge i 2 with hi | hge
      ·obtain rfl := eqi hi hge
       refine step_of ⟨some 87, _, _, _, _, _⟩ rfl (fun K' hK => ?_)
       go_simp
       go_at_call 7
       (with_reducible refine (FunE.on QtW0.out _ (HI.out.step (below_none hF.low)).env).mono ?_)
       rintro e Wq ⟨rfl, hq⟩
       exact hK.out _ _ ⟨_, hF.pure hok hla hpre rfl hq, rfl⟩
      obtain rfl := eqi hi hge
      have ro2 : A.tmps[2]? = some (.int .i64 (nn : Int)) := hR.out 1 _ rfl
      refine step_of ⟨some 88, _, _, _, _, _⟩ rfl (fun K' hK => ?_)
      go_simp
      exact hK.out _ _ ⟨_, hF.pure hok hla hpre rfl (Below.refl _ _), rfl⟩
     rcases Nat.lt_or_ge i 5 with hi | hge
     ·rcases Nat.lt_or_ge i 4 with hi | hge
      ·obtain rfl := eqi hi hge
       have p2 := hpre 2 (by kernel_rfl)
       have e2 : s2 = .int .i64 (nn : Int) := hF.get 2 _ rfl (.inr p2)
       subst e2
       have r2 : A.tmps[88]? = some (.int .i64 (nn : Int)) := hR.own 2 _ _ rfl rfl
       refine step_of ⟨some 89, _, _, _, _, _⟩ rfl (fun K' hK => ?_)
       go_simp
       go_at_call 7
       (with_reducible refine (FunE.on QtWn.out _ (HI.out.step (below_none hF.low)).env).mono ?_)
       rintro e Wq ⟨rfl, hq⟩
       exact hK.out _ _ ⟨_, hF.pure hok hla hpre rfl hq, rfl⟩
      obtain rfl := eqi hi hge
      have p0 := hpre 0 (by kernel_rfl)
      have e0 : s0 = .agg #[.int .i64 5, .string { data := #[] }, .string { data := #[] }, .string { data := #[] }, .bool false, .int .i64 0, .int .i64 (r : Int), .int .i64 (s : Int), .slice (some ⟨gv, 0, none⟩) L Cv] := hF.get 0 _ rfl (.inr p0)
      subst e0
      have r0 : A.tmps[86]? = some (.agg #[.int .i64 5, .string { data := #[] }, .string { data := #[] }, .string { data := #[] }, .bool false, .int .i64 0, .int .i64 (r : Int), .int .i64 (s : Int), .slice (some ⟨gv, 0, none⟩) L Cv]) := hR.own 0 _ _ rfl rfl
      have p1 := hpre 1 (by kernel_rfl)
      have e1 : s1 = .agg #[.int .i64 1, .string (numS z), .string (denS z), .string { data := #[] }, .bool false, .int .i64 0, .int .i64 0, .int .i64 0, .slice none 0 0] := hF.get 1 _ rfl (.inr p1)
      subst e1
      have r1 : A.tmps[87]? = some (.agg #[.int .i64 1, .string (numS z), .string (denS z), .string { data := #[] }, .bool false, .int .i64 0, .int .i64 0, .int .i64 0, .slice none 0 0]) := hR.own 1 _ _ rfl rfl
      have p3 := hpre 3 (by kernel_rfl)
      have e3 : s3 = .agg #[.int .i64 1, .string (numS nq), .string (denS nq), .string { data := #[] }, .bool false, .int .i64 0, .int .i64 0, .int .i64 0, .slice none 0 0] := hF.get 3 _ rfl (.inr p3)
      subst e3
      have r3 : A.tmps[89]? = some (.agg #[.int .i64 1, .string (numS nq), .string (denS nq), .string { data := #[] }, .bool false, .int .i64 0, .int .i64 0, .int .i64 0, .slice none 0 0]) := hR.own 3 _ _ rfl rfl
      refine step_of ⟨some 90, _, _, _, _, _⟩ rfl (fun K' hK => ?_)
      go_simp
      exact hK.out _ _ ⟨_, hF.row hok hla hpre rfl, rfl⟩
     rcases Nat.lt_or_ge i 6 with hi | hge
     ·obtain rfl := eqi hi hge
      have p4 := hpre 4 (by kernel_rfl)
      obtain ⟨G4, eG4, _, hGB4⟩ : ∃ G, s4 = .slice (some ⟨G, 0, none⟩) 3 3 ∧ _ ≤ G ∧ Wr.heap[G]? = some (.cells #[.int .i64 5, .string { data := #[] }, .string { data := #[] }, .string { data := #[] }, .bool false, .int .i64 0, .int .i64 (r : Int), .int .i64 (s : Int), .slice (some ⟨gv, 0, none⟩) L Cv, .int .i64 1, .string (numS z), .string (denS z), .string { data := #[] }, .bool false, .int .i64 0, .int .i64 0, .int .i64 0, .slice none 0 0, .int .i64 1, .string (numS nq), .string (denS nq), .string { data := #[] }, .bool false, .int .i64 0, .int .i64 0, .int .i64 0, .slice none 0 0] 27 (0, 0)) := hF.get 4 _ rfl (.inr p4)
      subst eG4
      have r4 : A.tmps[90]? = some (.slice (some ⟨G4, 0, none⟩) 3 3) := hR.own 4 _ _ rfl rfl
      refine step_of ⟨some 91, _, _, _, _, _⟩ rfl (fun K' hK => ?_)
      go_simp
      go_at_call 6
      (with_reducible refine (IxC.on QpI.out wr.heap.size _ G4 gv Cv hGB4 (HI.out.step (below_none hF.low)).vv (HI.out.step (below_none hF.low)).env (below_none hF.low).size).mono ?_)
      rintro e Wq ⟨lq, cq, rfl, hvq, _, hq⟩
      exact hK.out _ _ ⟨_, hF.any hok hla hpre rfl hq ⟨lq, cq, rfl, hvq⟩, rfl⟩
     obtain rfl := eqi hi hge
     refine step_of ⟨some 15, _, _, _, _, _⟩ rfl (fun K' hK => ?_)
     go_simp
     exact hK.out _ _ ⟨_, hF.box hok hla hpre hun rfl, rfl⟩
    case hd =>
     rintro listed vs W12 hF hall
     obtain ⟨s0, s1, s2, s3, s4, s5, s6, s7, hvs⟩ := exl_of 8 vs (fun l => vs = l) hF.len rfl
     subst hvs
     obtain ⟨lg5, cap5, e5, hv5⟩ := hF.get 5 _ rfl (.inr (hall 5 (by decide)))
     replace e5 : s5 = .agg #[.int .i64 5, .string { data := #[] }, .string { data := #[] }, .string { data := #[] }, .bool false, .int .i64 0, .int .i64 (r : Int), .int .i64 1, .slice (some ⟨lg5, 0, none⟩) r cap5] := e5
     subst e5
     have HV5 := Lib.hid hv5
     obtain ⟨b15, e6, _, gq, k6⟩ : ∃ G, s6 = .pointer (some ⟨G, 0, none⟩) ∧ (∀ k, none = some k → G = k) ∧ _ ≤ G ∧ W12.heap[G]? = some (.cells (if listed.getD 9 false = true then #[.int .i64 0, .string { data := #[] }, .string { data := #[] }, .string { data := #[] }, .bool false, .int .i64 0, .int .i64 0, .int .i64 0, .slice none 0 0] else #[.int .i64 0, .string { data := #[] }, .string { data := #[] }, .string { data := #[] }, .bool false, .int .i64 0, .int .i64 0, .int .i64 0, .slice none 0 0]) 27 (0, 0)) := hF.get 6 _ rfl (.inr (hall 6 (by decide)))
     subst e6
     rw [if_neg (hF.unst (by decide))] at k6
     have H15 := Lib.hid k6
     clear k6
     have ge15 := Lib.hid gq
     clear gq
     have hq := below_none hF.low
     replace H9 := Lib.hid (keep_block H9.out hq)
     replace H11 := Lib.hid (keep_block H11.out hq)
     replace HI := Lib.hid (HI.out.step hq)
     clear hq
     clear hF hall hok hla
     simp only [putO, layL]
     obtain ⟨hva, hlg⟩ := HV5.out
     have HKV := Lib.hid hva
     clear hva hlg HV5
     have LB := Lib.hid ge15.out
     obtain ⟨⟨x0, x1, x2, x3, x4, x5, x6, x7, x8⟩, y0, y1, y2, y3, y4, y5, y6, y7, y8⟩ := nine_at H15.out
     refine rest_one 7 ⟨none, _, _, _, _, _⟩ rfl (by kernel_rfl) rfl (fun K' hK => ?_)
     go_simp
     clear x0 x1 x2 x3 x4 x5 x6 x7 x8 y0 y1 y2 y3 y4 y5 y6 y7 y8
     refine hK.out _ _ ?_
     refine rest_end ?_
     have NEK := row_ne HKV.out (by rw [QhksL.out]; omega) H15.out
     have LKK := items_in HKV.out (by rw [QhksL.out]; omega)
     have hg := set9_kept W12 b15 (.int .i64 5) (.string { data := #[] }) (.string { data := #[] }) (.string { data := #[] }) (.bool false) (.int .i64 0) (.int .i64 (r : Int)) (.int .i64 1) (.slice (some ⟨lg5, 0, none⟩) r cap5)
     have q15 := set9_at H15.out (.int .i64 5) (.string { data := #[] }) (.string { data := #[] }) (.string { data := #[] }) (.bool false) (.int .i64 0) (.int .i64 (r : Int)) (.int .i64 1) (.slice (some ⟨lg5, 0, none⟩) r cap5)
     have HPB : Past b15 := HPP.out b15 LB.out
     have hv1 : gv < W12.heap.size ∧ gv ≠ b15 := ⟨items_in HI.out.vv (by rw [Qhqs.out]; exact hLp), by have := LVV.out; have := LB.out; omega⟩
     have hv2 : gs < W12.heap.size ∧ gs ≠ b15 := ⟨items_in HI.out.vs (by rw [Qhits.out]; exact hLp), by have := LSS.out; have := LB.out; omega⟩
     replace HI := Lib.hid (HI.out.kept hg (by have := L11.out; have := LB.out; omega) hv1 hv2 HPB)
     have HKW := Lib.hid (vals_kept HKV.out hg NEK LKK)
     obtain ⟨W13, hW⟩ : ∃ Z, (((((((((W12.setCell ⟨b15, 0, none⟩ (.int .i64 5)).setCell ⟨b15, 1, none⟩ (.string { data := #[] })).setCell ⟨b15, 2, none⟩ (.string { data := #[] })).setCell ⟨b15, 3, none⟩ (.string { data := #[] })).setCell ⟨b15, 4, none⟩ (.bool false)).setCell ⟨b15, 5, none⟩ (.int .i64 0)).setCell ⟨b15, 6, none⟩ (.int .i64 (r : Int))).setCell ⟨b15, 7, none⟩ (.int .i64 1)).setCell ⟨b15, 8, none⟩ (.slice (some ⟨lg5, 0, none⟩) r cap5)) = Z := ⟨_, rfl⟩
     rw [hW] at HI HKW q15 ⊢
     replace H15 := Lib.hid q15
     clear hW hg q15 HPB NEK LKK hv1 hv2 HKV H9 H11
     obtain ⟨gk, hgk⟩ : ∃ z, lg5 = z := ⟨_, rfl⟩
     obtain ⟨ck, hck⟩ : ∃ z, cap5 = z := ⟨_, rfl⟩
     rw [hgk, hck] at H15
     rw [hgk] at HKW
     rw [hgk, hck]
     clear hgk hck L11 LVV LSS HPP LB
     obtain ⟨⟨x0, x1, x2, x3, x4, x5, x6, x7, x8⟩, _⟩ := nine_at H15.out
     go_upto_region 15 with fail
     clear x0 x1 x2 x3 x4 x5 x6 x7 x8
     have H9 := Lib.hid HI.out.h9
     have H11 := Lib.hid HI.out.h11
     go_wp2_with fail
     have hok : okB 29 (SorKs15 nq kq sm k nn r s L gv Cv gs Cs gk ck B9 b11 b15 W13.heap.size its) = true := by kernel_rfl
     have hla : ∀ (ix : Nat) (kx : RK), (SorKs15 nq kq sm k nn r s L gv Cv gs Cs gk ck B9 b11 b15 W13.heap.size its)[ix]? = some kx → kx.lasts := by
      intro ix kx hk
      match ix, hk with
      | 0, hk => have hk := Option.some.inj hk; subst hk; exact trivial
      | 1, hk => have hk := Option.some.inj hk; subst hk; exact trivial
      | 2, hk => have hk := Option.some.inj hk; subst hk; exact trivial
      | 3, hk => have hk := Option.some.inj hk; subst hk; exact trivial
      | 4, hk => have hk := Option.some.inj hk; subst hk; exact trivial
      | 5, hk => have hk := Option.some.inj hk; subst hk; exact (by first | exact tabR_lasts | exact tabS_lasts | exact keyR_lasts)
      | 6, hk => have hk := Option.some.inj hk; subst hk; exact trivial
      | 7, hk => have hk := Option.some.inj hk; subst hk; exact trivial
      | 8, hk => have hk := Option.some.inj hk; subst hk; exact trivial
      | 9, hk => have hk := Option.some.inj hk; subst hk; exact trivial
      | 10, hk => have hk := Option.some.inj hk; subst hk; exact trivial
      | 11, hk => have hk := Option.some.inj hk; subst hk; exact trivial
      | 12, hk => have hk := Option.some.inj hk; subst hk; exact trivial
      | 13, hk => have hk := Option.some.inj hk; subst hk; exact trivial
      | 14, hk => have hk := Option.some.inj hk; subst hk; exact trivial
      | 15, hk => have hk := Option.some.inj hk; subst hk; exact (by first | exact tabR_lasts | exact tabS_lasts | exact keyR_lasts)
      | 16, hk => have hk := Option.some.inj hk; subst hk; exact trivial
      | 17, hk => have hk := Option.some.inj hk; subst hk; exact trivial
      | 18, hk => have hk := Option.some.inj hk; subst hk; exact trivial
      | 19, hk => have hk := Option.some.inj hk; subst hk; exact trivial
      | 20, hk => have hk := Option.some.inj hk; subst hk; exact trivial
      | 21, hk => have hk := Option.some.inj hk; subst hk; exact trivial
      | 22, hk => have hk := Option.some.inj hk; subst hk; exact trivial
      | 23, hk => have hk := Option.some.inj hk; subst hk; exact trivial
      | 24, hk => have hk := Option.some.inj hk; subst hk; exact trivial
      | 25, hk => have hk := Option.some.inj hk; subst hk; exact trivial
      | 26, hk => have hk := Option.some.inj hk; subst hk; exact trivial
      | 27, hk => have hk := Option.some.inj hk; subst hk; exact trivial
      | 28, hk => have hk := Option.some.inj hk; subst hk; exact trivial
      | _ + 29, hk => exact absurd hk (by simp [SorKs15])
     refine wp_region_facts_abs (row := none) (w := W13) 29 0 29 [] (SorKs15 nq kq sm k nn r s L gv Cv gs Cs gk ck B9 b11 b15 W13.heap.size its) [some 98, some 99, some 100, some 101, some 102, some 103, some 104, some 105, some 106, some 107, some 108, some 109, some 110, some 111, some 112, some 113, some 114, some 115, some 116, some 117, some 118, some 119, some 120, some 121, some 122, some 123, some 124, some 125, some 8] [(9, .pointer (some ⟨B9, 0, none⟩)), (15, .pointer (some ⟨b15, 0, none⟩)), (10, .int .i64 k), (11, .pointer (some ⟨b11, 0, none⟩)), (2, .int .i64 (nn : Int))] 126 (by kernel_rfl) (by kernel_rfl) (by kernel_rfl) rfl rfl (by decide) rfl (by kernel_rfl) rfl (Nat.le_of_eq rfl) rfl ?ho [undef, undef, undef, undef, undef, undef, undef, undef, undef, undef, undef, undef, undef, undef, undef, undef, undef, undef, undef, undef, undef, undef, undef, undef, undef, undef, undef, undef, u8] ?h00 (Fs.start rfl rfl) ?hs ?hd
     case ho =>
      intro k x hk
      match k, hk with
      | 0, hk => have hk := Option.some.inj hk; subst hk; rfl
      | 1, hk => have hk := Option.some.inj hk; subst hk; rfl
      | 2, hk => have hk := Option.some.inj hk; subst hk; rfl
      | 3, hk => have hk := Option.some.inj hk; subst hk; rfl
      | 4, hk => have hk := Option.some.inj hk; subst hk; rfl
      | _ + 5, hk => exact absurd hk (by simp)
     case h00 => simp only [putO, layL]
     case hs =>
      rintro A listed vs Wr hF hR i hi hun hpre
      obtain ⟨s0, s1, s2, s3, s4, s5, s6, s7, s8, s9, s10, s11, s12, s13, s14, s15, s16, s17, s18, s19, s20, s21, s22, s23, s24, s25, s26, s27, s28, hvs⟩ := exl_of 29 vs (fun l => vs = l) hF.len rfl
      subst hvs
      have hge := Nat.zero_le i
      rcases Nat.lt_or_ge i 14 with hi | hge
      ·rcases Nat.lt_or_ge i 7 with hi | hge
       ·rcases Nat.lt_or_ge i 3 with hi | hge
        ·rcases Nat.lt_or_ge i 1 with hi | hge
         ·obtain rfl := eqi hi hge
          have ro9 : A.tmps[9]? = some (.pointer (some ⟨B9, 0, none⟩)) := hR.out 0 _ rfl
          have hcc := (nine_at (keep_block H9.out (below_none hF.low))).1
          have cH90 := hcc.1
          have cH91 := hcc.2.1
          have cH92 := hcc.2.2.1
          have cH93 := hcc.2.2.2.1
          have cH94 := hcc.2.2.2.2.1
          have cH95 := hcc.2.2.2.2.2.1
          have cH96 := hcc.2.2.2.2.2.2.1
          have cH97 := hcc.2.2.2.2.2.2.2.1
          have cH98 := hcc.2.2.2.2.2.2.2.2
          clear hcc
          refine step_of ⟨some 98, _, _, _, _, _⟩ rfl (fun K' hK => ?_)
          go_simp
          exact hK.out _ _ ⟨_, hF.pure hok hla hpre rfl (Below.refl _ _), rfl⟩
         rcases Nat.lt_or_ge i 2 with hi | hge
         ·obtain rfl := eqi hi hge
          have ro15 : A.tmps[15]? = some (.pointer (some ⟨b15, 0, none⟩)) := hR.out 1 _ rfl
          have hcc := (nine_at (keep_block H15.out (below_none hF.low))).1
          have cH150 := hcc.1
          have cH151 := hcc.2.1
          have cH152 := hcc.2.2.1
          have cH153 := hcc.2.2.2.1
          have cH154 := hcc.2.2.2.2.1
          have cH155 := hcc.2.2.2.2.2.1
          have cH156 := hcc.2.2.2.2.2.2.1
          have cH157 := hcc.2.2.2.2.2.2.2.1
          have cH158 := hcc.2.2.2.2.2.2.2.2
          clear hcc
          refine step_of ⟨some 99, _, _, _, _, _⟩ rfl (fun K' hK => ?_)
          go_simp
          exact hK.out _ _ ⟨_, hF.pure hok hla hpre rfl (Below.refl _ _), rfl⟩
         obtain rfl := eqi hi hge
         have ro10 : A.tmps[10]? = some (.int .i64 k) := hR.out 2 _ rfl
         refine step_of ⟨some 100, _, _, _, _, _⟩ rfl (fun K' hK => ?_)
         go_simp
         exact hK.out _ _ ⟨_, hF.pure hok hla hpre rfl (Below.refl _ _), rfl⟩
        rcases Nat.lt_or_ge i 5 with hi | hge
        ·rcases Nat.lt_or_ge i 4 with hi | hge
         ·obtain rfl := eqi hi hge
          have p2 := hpre 2 (by kernel_rfl)
          have e2 : s2 = .int .i64 k := hF.get 2 _ rfl (.inr p2)
          subst e2
          have r2 : A.tmps[100]? = some (.int .i64 k) := hR.own 2 _ _ rfl rfl
          refine step_of ⟨some 101, _, _, _, _, _⟩ rfl (fun K' hK => ?_)
          go_simp
          go_at_call 7
          (with_reducible refine (FunE.on QtWk.out _ (HI.out.step (below_none hF.low)).env).mono ?_)
          rintro e Wq ⟨rfl, hq⟩
          exact hK.out _ _ ⟨_, hF.pure hok hla hpre rfl hq, rfl⟩
         obtain rfl := eqi hi hge
         have p0 := hpre 0 (by kernel_rfl)
         have e0 : s0 = .agg #[.int .i64 5, .string { data := #[] }, .string { data := #[] }, .string { data := #[] }, .bool false, .int .i64 0, .int .i64 (r : Int), .int .i64 (s : Int), .slice (some ⟨gv, 0, none⟩) L Cv] := hF.get 0 _ rfl (.inr p0)
         subst e0
         have r0 : A.tmps[98]? = some (.agg #[.int .i64 5, .string { data := #[] }, .string { data := #[] }, .string { data := #[] }, .bool false, .int .i64 0, .int .i64 (r : Int), .int .i64 (s : Int), .slice (some ⟨gv, 0, none⟩) L Cv]) := hR.own 0 _ _ rfl rfl
         have p1 := hpre 1 (by kernel_rfl)
         have e1 : s1 = .agg #[.int .i64 5, .string { data := #[] }, .string { data := #[] }, .string { data := #[] }, .bool false, .int .i64 0, .int .i64 (r : Int), .int .i64 1, .slice (some ⟨gk, 0, none⟩) r ck] := hF.get 1 _ rfl (.inr p1)
         subst e1
         have r1 : A.tmps[99]? = some (.agg #[.int .i64 5, .string { data := #[] }, .string { data := #[] }, .string { data := #[] }, .bool false, .int .i64 0, .int .i64 (r : Int), .int .i64 1, .slice (some ⟨gk, 0, none⟩) r ck]) := hR.own 1 _ _ rfl rfl
         have p3 := hpre 3 (by kernel_rfl)
         have e3 : s3 = .agg #[.int .i64 1, .string (numS kq), .string (denS kq), .string { data := #[] }, .bool false, .int .i64 0, .int .i64 0, .int .i64 0, .slice none 0 0] := hF.get 3 _ rfl (.inr p3)
         subst e3
         have r3 : A.tmps[101]? = some (.agg #[.int .i64 1, .string (numS kq), .string (denS kq), .string { data := #[] }, .bool false, .int .i64 0, .int .i64 0, .int .i64 0, .slice none 0 0]) := hR.own 3 _ _ rfl rfl
         refine step_of ⟨some 102, _, _, _, _, _⟩ rfl (fun K' hK => ?_)
         go_simp
         exact hK.out _ _ ⟨_, hF.row hok hla hpre rfl, rfl⟩
        rcases Nat.lt_or_ge i 6 with hi | hge
        ·obtain rfl := eqi hi hge
         have p4 := hpre 4 (by kernel_rfl)
         obtain ⟨G4, eG4, _, hGB4⟩ : ∃ G, s4 = .slice (some ⟨G, 0, none⟩) 3 3 ∧ _ ≤ G ∧ Wr.heap[G]? = some (.cells #[.int .i64 5, .string { data := #[] }, .string { data := #[] }, .string { data := #[] }, .bool false, .int .i64 0, .int .i64 (r : Int), .int .i64 (s : Int), .slice (some ⟨gv, 0, none⟩) L Cv, .int .i64 5, .string { data := #[] }, .string { data := #[] }, .string { data := #[] }, .bool false, .int .i64 0, .int .i64 (r : Int), .int .i64 1, .slice (some ⟨gk, 0, none⟩) r ck, .int .i64 1, .string (numS kq), .string (denS kq), .string { data := #[] }, .bool false, .int .i64 0, .int .i64 0, .int .i64 0, .slice none 0 0] 27 (0, 0)) := hF.get 4 _ rfl (.inr p4)
         subst eG4
         have r4 : A.tmps[102]? = some (.slice (some ⟨G4, 0, none⟩) 3 3) := hR.own 4 _ _ rfl rfl
         refine step_of ⟨some 103, _, _, _, _, _⟩ rfl (fun K' hK => ?_)
         go_simp
         go_at_call 6
         (with_reducible refine (SbC.on QpB.out _ G4 gv Cv gk ck hGB4 (HI.out.step (below_none hF.low)).vv (HKW.out.below (below_none hF.low)) HCV.out.2 (HI.out.step (below_none hF.low)).env).mono ?_)
         rintro e Wq ⟨lq, cq, rfl, hvq, _, hq⟩
         exact hK.out _ _ ⟨_, hF.any hok hla hpre rfl hq ⟨lq, cq, rfl, hvq⟩, rfl⟩
        obtain rfl := eqi hi hge
        have ro11 : A.tmps[11]? = some (.pointer (some ⟨b11, 0, none⟩)) := hR.out 3 _ rfl
        have hcc := (nine_at (keep_block H11.out (below_none hF.low))).1
        have cH110 := hcc.1
        have cH111 := hcc.2.1
        have cH112 := hcc.2.2.1
        have cH113 := hcc.2.2.2.1
        have cH114 := hcc.2.2.2.2.1
        have cH115 := hcc.2.2.2.2.2.1
        have cH116 := hcc.2.2.2.2.2.2.1
        have cH117 := hcc.2.2.2.2.2.2.2.1
        have cH118 := hcc.2.2.2.2.2.2.2.2
        clear hcc
        refine step_of ⟨some 104, _, _, _, _, _⟩ rfl (fun K' hK => ?_)
        go_simp
        exact hK.out _ _ ⟨_, hF.pure hok hla hpre rfl (Below.refl _ _), rfl⟩
       rcases Nat.lt_or_ge i 10 with hi | hge
       ·rcases Nat.lt_or_ge i 8 with hi | hge
        ·obtain rfl := eqi hi hge
         have p5 := hpre 5 (by kernel_rfl)
         obtain ⟨lg5, cap5, e5, hv5⟩ := hF.get 5 _ rfl (.inr p5)
         replace e5 : s5 = .agg #[.int .i64 5, .string { data := #[] }, .string { data := #[] }, .string { data := #[] }, .bool false, .int .i64 0, .int .i64 (r : Int), .int .i64 (s : Int), .slice (some ⟨lg5, 0, none⟩) L cap5] := e5
         subst e5
         have r5 : A.tmps[103]? = some (.agg #[.int .i64 5, .string { data := #[] }, .string { data := #[] }, .string { data := #[] }, .bool false, .int .i64 0, .int .i64 (r : Int), .int .i64 (s : Int), .slice (some ⟨lg5, 0, none⟩) L cap5]) := hR.own 5 _ _ rfl rfl
         have p6 := hpre 6 (by kernel_rfl)
         have e6 : s6 = .agg #[.int .i64 5, .string { data := #[] }, .string { data := #[] }, .string { data := #[] }, .bool false, .int .i64 0, .int .i64 (r : Int), .int .i64 (s : Int), .slice (some ⟨gs, 0, none⟩) L Cs] := hF.get 6 _ rfl (.inr p6)
         subst e6
         have r6 : A.tmps[104]? = some (.agg #[.int .i64 5, .string { data := #[] }, .string { data := #[] }, .string { data := #[] }, .bool false, .int .i64 0, .int .i64 (r : Int), .int .i64 (s : Int), .slice (some ⟨gs, 0, none⟩) L Cs]) := hR.own 6 _ _ rfl rfl
         refine step_of ⟨some 105, _, _, _, _, _⟩ rfl (fun K' hK => ?_)
         go_simp
         go_at_call 9
         (with_reducible refine (Mt.same_tab its r s L lg5 gs cap5 Cs _ Qhits.out hL9 hv5 (HI.out.step (below_none hF.low)).vs).mono ?_)
         rintro e Wq ⟨rfl, hq⟩
         exact hK.out _ _ ⟨_, hF.pure hok hla hpre rfl hq, rfl⟩
        rcases Nat.lt_or_ge i 9 with hi | hge
        ·obtain rfl := eqi hi hge
         have p7 := hpre 7 (by kernel_rfl)
         have e7 : s7 = .bool true := hF.get 7 _ rfl (.inr p7)
         subst e7
         have r7 : A.tmps[105]? = some (.bool true) := hR.own 7 _ _ rfl rfl
         refine step_of ⟨some 106, _, _, _, _, _⟩ rfl (fun K' hK => ?_)
         go_simp
         exact hK.out _ _ ⟨_, hF.pure hok hla hpre rfl (Below.refl _ _), rfl⟩
        obtain rfl := eqi hi hge
        have p8 := hpre 8 (by kernel_rfl)
        have e8 : s8 = .bool true := hF.get 8 _ rfl (.inr p8)
        subst e8
        have r8 : A.tmps[106]? = some (.bool true) := hR.own 8 _ _ rfl rfl
        have ro11 : A.tmps[11]? = some (.pointer (some ⟨b11, 0, none⟩)) := hR.out 3 _ rfl
        have hcc := (nine_at (keep_block H11.out (below_none hF.low))).1
        have cH110 := hcc.1
        have cH111 := hcc.2.1
        have cH112 := hcc.2.2.1
        have cH113 := hcc.2.2.2.1
        have cH114 := hcc.2.2.2.2.1
        have cH115 := hcc.2.2.2.2.2.1
        have cH116 := hcc.2.2.2.2.2.2.1
        have cH117 := hcc.2.2.2.2.2.2.2.1
        have cH118 := hcc.2.2.2.2.2.2.2.2
        clear hcc
        refine step_of ⟨some 107, _, _, _, _, _⟩ rfl (fun K' hK => ?_)
        rw [if_pos (by simp [Region.wanted, yielded, r8])]
        go_simp
        exact hK.out _ _ ⟨_, hF.pure hok hla hpre rfl (Below.refl _ _), rfl⟩
       rcases Nat.lt_or_ge i 12 with hi | hge
       ·rcases Nat.lt_or_ge i 11 with hi | hge
        ·obtain rfl := eqi hi hge
         have p8 := hpre 8 (by kernel_rfl)
         have e8 : s8 = .bool true := hF.get 8 _ rfl (.inr p8)
         subst e8
         have r8 : A.tmps[106]? = some (.bool true) := hR.own 8 _ _ rfl rfl
         have ro2 : A.tmps[2]? = some (.int .i64 (nn : Int)) := hR.out 4 _ rfl
         refine step_of ⟨some 108, _, _, _, _, _⟩ rfl (fun K' hK => ?_)
         rw [if_pos (by simp [Region.wanted, yielded, r8])]
         go_simp
         exact hK.out _ _ ⟨_, hF.pure hok hla hpre rfl (Below.refl _ _), rfl⟩
        obtain rfl := eqi hi hge
        have p10 := hpre 10 (by kernel_rfl)
        have e10 : s10 = .int .i64 (nn : Int) := hF.get 10 _ rfl (.inr p10)
        subst e10
        have r10 : A.tmps[108]? = some (.int .i64 (nn : Int)) := hR.own 10 _ _ rfl rfl
        have p8 := hpre 8 (by kernel_rfl)
        have e8 : s8 = .bool true := hF.get 8 _ rfl (.inr p8)
        subst e8
        have r8 : A.tmps[106]? = some (.bool true) := hR.own 8 _ _ rfl rfl
        refine step_of ⟨some 109, _, _, _, _, _⟩ rfl (fun K' hK => ?_)
        rw [if_pos (by simp [Region.wanted, yielded, r8])]
        go_simp
        go_at_call 7
        (with_reducible refine (FunE.on QtWn.out _ (HI.out.step (below_none hF.low)).env).mono ?_)
        rintro e Wq ⟨rfl, hq⟩
        exact hK.out _ _ ⟨_, hF.pure hok hla hpre rfl hq, rfl⟩
       rcases Nat.lt_or_ge i 13 with hi | hge
       ·obtain rfl := eqi hi hge
        have p8 := hpre 8 (by kernel_rfl)
        have e8 : s8 = .bool true := hF.get 8 _ rfl (.inr p8)
        subst e8
        have r8 : A.tmps[106]? = some (.bool true) := hR.own 8 _ _ rfl rfl
        have ro10 : A.tmps[10]? = some (.int .i64 k) := hR.out 2 _ rfl
        refine step_of ⟨some 110, _, _, _, _, _⟩ rfl (fun K' hK => ?_)
        rw [if_pos (by simp [Region.wanted, yielded, r8])]
        go_simp
        exact hK.out _ _ ⟨_, hF.pure hok hla hpre rfl (Below.refl _ _), rfl⟩
       obtain rfl := eqi hi hge
       have p12 := hpre 12 (by kernel_rfl)
       have e12 : s12 = .int .i64 k := hF.get 12 _ rfl (.inr p12)
       subst e12
       have r12 : A.tmps[110]? = some (.int .i64 k) := hR.own 12 _ _ rfl rfl
       have p8 := hpre 8 (by kernel_rfl)
       have e8 : s8 = .bool true := hF.get 8 _ rfl (.inr p8)
       subst e8
       have r8 : A.tmps[106]? = some (.bool true) := hR.own 8 _ _ rfl rfl
       refine step_of ⟨some 111, _, _, _, _, _⟩ rfl (fun K' hK => ?_)
       rw [if_pos (by simp [Region.wanted, yielded, r8])]
       go_simp
       go_at_call 7
       (with_reducible refine (FunE.on QtWk.out _ (HI.out.step (below_none hF.low)).env).mono ?_)
       rintro e Wq ⟨rfl, hq⟩
       exact hK.out _ _ ⟨_, hF.pure hok hla hpre rfl hq, rfl⟩
      rcases Nat.lt_or_ge i 21 with hi | hge
      ·rcases Nat.lt_or_ge i 17 with hi | hge
       ·rcases Nat.lt_or_ge i 15 with hi | hge
        ·obtain rfl := eqi hi hge
         have p9 := hpre 9 (by kernel_rfl)
         have e9 : s9 = .agg #[.int .i64 5, .string { data := #[] }, .string { data := #[] }, .string { data := #[] }, .bool false, .int .i64 0, .int .i64 (r : Int), .int .i64 (s : Int), .slice (some ⟨gs, 0, none⟩) L Cs] := hF.get 9 _ rfl (.inr p9)
         subst e9
         have r9 : A.tmps[107]? = some (.agg #[.int .i64 5, .string { data := #[] }, .string { data := #[] }, .string { data := #[] }, .bool false, .int .i64 0, .int .i64 (r : Int), .int .i64 (s : Int), .slice (some ⟨gs, 0, none⟩) L Cs]) := hR.own 9 _ _ rfl rfl
         have p11 := hpre 11 (by kernel_rfl)
         have e11 : s11 = .agg #[.int .i64 1, .string (numS nq), .string (denS nq), .string { data := #[] }, .bool false, .int .i64 0, .int .i64 0, .int .i64 0, .slice none 0 0] := hF.get 11 _ rfl (.inr p11)
         subst e11
         have r11 : A.tmps[109]? = some (.agg #[.int .i64 1, .string (numS nq), .string (denS nq), .string { data := #[] }, .bool false, .int .i64 0, .int .i64 0, .int .i64 0, .slice none 0 0]) := hR.own 11 _ _ rfl rfl
         have p13 := hpre 13 (by kernel_rfl)
         have e13 : s13 = .agg #[.int .i64 1, .string (numS kq), .string (denS kq), .string { data := #[] }, .bool false, .int .i64 0, .int .i64 0, .int .i64 0, .slice none 0 0] := hF.get 13 _ rfl (.inr p13)
         subst e13
         have r13 : A.tmps[111]? = some (.agg #[.int .i64 1, .string (numS kq), .string (denS kq), .string { data := #[] }, .bool false, .int .i64 0, .int .i64 0, .int .i64 0, .slice none 0 0]) := hR.own 13 _ _ rfl rfl
         have p8 := hpre 8 (by kernel_rfl)
         have e8 : s8 = .bool true := hF.get 8 _ rfl (.inr p8)
         subst e8
         have r8 : A.tmps[106]? = some (.bool true) := hR.own 8 _ _ rfl rfl
         refine step_of ⟨some 112, _, _, _, _, _⟩ rfl (fun K' hK => ?_)
         rw [if_pos (by simp [Region.wanted, yielded, r8])]
         go_simp
         exact hK.out _ _ ⟨_, hF.row hok hla hpre rfl, rfl⟩
        rcases Nat.lt_or_ge i 16 with hi | hge
        ·obtain rfl := eqi hi hge
         have p14 := hpre 14 (by kernel_rfl)
         obtain ⟨G14, eG14, _, hGB14⟩ : ∃ G, s14 = .slice (some ⟨G, 0, none⟩) 3 3 ∧ _ ≤ G ∧ Wr.heap[G]? = some (.cells #[.int .i64 5, .string { data := #[] }, .string { data := #[] }, .string { data := #[] }, .bool false, .int .i64 0, .int .i64 (r : Int), .int .i64 (s : Int), .slice (some ⟨gs, 0, none⟩) L Cs, .int .i64 1, .string (numS nq), .string (denS nq), .string { data := #[] }, .bool false, .int .i64 0, .int .i64 0, .int .i64 0, .slice none 0 0, .int .i64 1, .string (numS kq), .string (denS kq), .string { data := #[] }, .bool false, .int .i64 0, .int .i64 0, .int .i64 0, .slice none 0 0] 27 (0, 0)) := hF.get 14 _ rfl (.inr p14)
         subst eG14
         have r14 : A.tmps[112]? = some (.slice (some ⟨G14, 0, none⟩) 3 3) := hR.own 14 _ _ rfl rfl
         have p8 := hpre 8 (by kernel_rfl)
         have e8 : s8 = .bool true := hF.get 8 _ rfl (.inr p8)
         subst e8
         have r8 : A.tmps[106]? = some (.bool true) := hR.own 8 _ _ rfl rfl
         refine step_of ⟨some 113, _, _, _, _, _⟩ rfl (fun K' hK => ?_)
         rw [if_pos (by simp [Region.wanted, yielded, r8])]
         go_simp
         go_at_call 6
         (with_reducible refine (SoC.on QpS2.out W13.heap.size _ G14 gs Cs hGB14 (HI.out.step (below_none hF.low)).vs HCS.out (HI.out.step (below_none hF.low)).env (below_none hF.low).size).mono ?_)
         rintro e Wq ⟨lq, cq, rfl, hvq, _, hq⟩
         exact hK.out _ _ ⟨_, hF.any hok hla hpre rfl hq ⟨lq, cq, rfl, hvq⟩, rfl⟩
        obtain rfl := eqi hi hge
        have p8 := hpre 8 (by kernel_rfl)
        have e8 : s8 = .bool true := hF.get 8 _ rfl (.inr p8)
        subst e8
        have r8 : A.tmps[106]? = some (.bool true) := hR.own 8 _ _ rfl rfl
        have ro11 : A.tmps[11]? = some (.pointer (some ⟨b11, 0, none⟩)) := hR.out 3 _ rfl
        have hcc := (nine_at (keep_block H11.out (below_none hF.low))).1
        have cH110 := hcc.1
        have cH111 := hcc.2.1
        have cH112 := hcc.2.2.1
        have cH113 := hcc.2.2.2.1
        have cH114 := hcc.2.2.2.2.1
        have cH115 := hcc.2.2.2.2.2.1
        have cH116 := hcc.2.2.2.2.2.2.1
        have cH117 := hcc.2.2.2.2.2.2.2.1
        have cH118 := hcc.2.2.2.2.2.2.2.2
        clear hcc
        refine step_of ⟨some 114, _, _, _, _, _⟩ rfl (fun K' hK => ?_)
        rw [if_pos (by simp [Region.wanted, yielded, r8])]
        go_simp
        exact hK.out _ _ ⟨_, hF.pure hok hla hpre rfl (Below.refl _ _), rfl⟩
       rcases Nat.lt_or_ge i 19 with hi | hge
       ·rcases Nat.lt_or_ge i 18 with hi | hge
        ·obtain rfl := eqi hi hge
         have p15 := hpre 15 (by kernel_rfl)
         obtain ⟨lg15, cap15, e15, hv15⟩ := hF.get 15 _ rfl (.inr p15)
         replace e15 : s15 = .agg #[.int .i64 5, .string { data := #[] }, .string { data := #[] }, .string { data := #[] }, .bool false, .int .i64 0, .int .i64 (r : Int), .int .i64 (s : Int), .slice (some ⟨lg15, 0, none⟩) L cap15] := e15
         subst e15
         have r15 : A.tmps[113]? = some (.agg #[.int .i64 5, .string { data := #[] }, .string { data := #[] }, .string { data := #[] }, .bool false, .int .i64 0, .int .i64 (r : Int), .int .i64 (s : Int), .slice (some ⟨lg15, 0, none⟩) L cap15]) := hR.own 15 _ _ rfl rfl
         have p16 := hpre 16 (by kernel_rfl)
         have e16 : s16 = .agg #[.int .i64 5, .string { data := #[] }, .string { data := #[] }, .string { data := #[] }, .bool false, .int .i64 0, .int .i64 (r : Int), .int .i64 (s : Int), .slice (some ⟨gs, 0, none⟩) L Cs] := hF.get 16 _ rfl (.inr p16)
         subst e16
         have r16 : A.tmps[114]? = some (.agg #[.int .i64 5, .string { data := #[] }, .string { data := #[] }, .string { data := #[] }, .bool false, .int .i64 0, .int .i64 (r : Int), .int .i64 (s : Int), .slice (some ⟨gs, 0, none⟩) L Cs]) := hR.own 16 _ _ rfl rfl
         have p8 := hpre 8 (by kernel_rfl)
         have e8 : s8 = .bool true := hF.get 8 _ rfl (.inr p8)
         subst e8
         have r8 : A.tmps[106]? = some (.bool true) := hR.own 8 _ _ rfl rfl
         refine step_of ⟨some 115, _, _, _, _, _⟩ rfl (fun K' hK => ?_)
         rw [if_pos (by simp [Region.wanted, yielded, r8])]
         go_simp
         go_at_call 9
         (with_reducible refine (Mt.same_tab its r s L lg15 gs cap15 Cs _ Qhits.out hL9 hv15.1 (HI.out.step (below_none hF.low)).vs).mono ?_)
         rintro e Wq ⟨rfl, hq⟩
         exact hK.out _ _ ⟨_, hF.pure hok hla hpre rfl hq, rfl⟩
        obtain rfl := eqi hi hge
        have p8 := hpre 8 (by kernel_rfl)
        have e8 : s8 = .bool true := hF.get 8 _ rfl (.inr p8)
        subst e8
        have r8 : A.tmps[106]? = some (.bool true) := hR.own 8 _ _ rfl rfl
        have p17 := hpre 17 (by kernel_rfl)
        have e17 : s17 = .bool true := hF.get 17 _ rfl (.inr p17)
        subst e17
        have r17 : A.tmps[115]? = some (.bool true) := hR.own 17 _ _ rfl rfl
        refine step_of ⟨some 116, _, _, _, _, _⟩ rfl (fun K' hK => ?_)
        go_simp
        exact hK.out _ _ ⟨_, hF.pure hok hla hpre rfl (Below.refl _ _), rfl⟩
       rcases Nat.lt_or_ge i 20 with hi | hge
       ·obtain rfl := eqi hi hge
        have p18 := hpre 18 (by kernel_rfl)
        have e18 : s18 = .bool true := hF.get 18 _ rfl (.inr p18)
        subst e18
        have r18 : A.tmps[116]? = some (.bool true) := hR.own 18 _ _ rfl rfl
        refine step_of ⟨some 117, _, _, _, _, _⟩ rfl (fun K' hK => ?_)
        go_simp
        exact hK.out _ _ ⟨_, hF.pure hok hla hpre rfl (Below.refl _ _), rfl⟩
       obtain rfl := eqi hi hge
       have p19 := hpre 19 (by kernel_rfl)
       have e19 : s19 = .bool true := hF.get 19 _ rfl (.inr p19)
       subst e19
       have r19 : A.tmps[117]? = some (.bool true) := hR.own 19 _ _ rfl rfl
       have ro11 : A.tmps[11]? = some (.pointer (some ⟨b11, 0, none⟩)) := hR.out 3 _ rfl
       have hcc := (nine_at (keep_block H11.out (below_none hF.low))).1
       have cH110 := hcc.1
       have cH111 := hcc.2.1
       have cH112 := hcc.2.2.1
       have cH113 := hcc.2.2.2.1
       have cH114 := hcc.2.2.2.2.1
       have cH115 := hcc.2.2.2.2.2.1
       have cH116 := hcc.2.2.2.2.2.2.1
       have cH117 := hcc.2.2.2.2.2.2.2.1
       have cH118 := hcc.2.2.2.2.2.2.2.2
       clear hcc
       refine step_of ⟨some 118, _, _, _, _, _⟩ rfl (fun K' hK => ?_)
       rw [if_pos (by simp [Region.wanted, yielded, r19])]
       go_simp
       exact hK.out _ _ ⟨_, hF.pure hok hla hpre rfl (Below.refl _ _), rfl⟩
      rcases Nat.lt_or_ge i 25 with hi | hge
      ·rcases Nat.lt_or_ge i 23 with hi | hge
       ·rcases Nat.lt_or_ge i 22 with hi | hge
        ·obtain rfl := eqi hi hge
         have p20 := hpre 20 (by kernel_rfl)
         have e20 : s20 = .agg #[.int .i64 5, .string { data := #[] }, .string { data := #[] }, .string { data := #[] }, .bool false, .int .i64 0, .int .i64 (r : Int), .int .i64 (s : Int), .slice (some ⟨gs, 0, none⟩) L Cs] := hF.get 20 _ rfl (.inr p20)
         subst e20
         have r20 : A.tmps[118]? = some (.agg #[.int .i64 5, .string { data := #[] }, .string { data := #[] }, .string { data := #[] }, .bool false, .int .i64 0, .int .i64 (r : Int), .int .i64 (s : Int), .slice (some ⟨gs, 0, none⟩) L Cs]) := hR.own 20 _ _ rfl rfl
         have p19 := hpre 19 (by kernel_rfl)
         have e19 : s19 = .bool true := hF.get 19 _ rfl (.inr p19)
         subst e19
         have r19 : A.tmps[117]? = some (.bool true) := hR.own 19 _ _ rfl rfl
         refine step_of ⟨some 119, _, _, _, _, _⟩ rfl (fun K' hK => ?_)
         rw [if_pos (by simp [Region.wanted, yielded, r19])]
         go_simp
         exact hK.out _ _ ⟨_, hF.row hok hla hpre rfl, rfl⟩
        obtain rfl := eqi hi hge
        have p21 := hpre 21 (by kernel_rfl)
        obtain ⟨G21, eG21, _, hGB21⟩ : ∃ G, s21 = .slice (some ⟨G, 0, none⟩) 1 1 ∧ _ ≤ G ∧ Wr.heap[G]? = some (.cells #[.int .i64 5, .string { data := #[] }, .string { data := #[] }, .string { data := #[] }, .bool false, .int .i64 0, .int .i64 (r : Int), .int .i64 (s : Int), .slice (some ⟨gs, 0, none⟩) L Cs] 27 (0, 0)) := hF.get 21 _ rfl (.inr p21)
        subst eG21
        have r21 : A.tmps[119]? = some (.slice (some ⟨G21, 0, none⟩) 1 1) := hR.own 21 _ _ rfl rfl
        have p19 := hpre 19 (by kernel_rfl)
        have e19 : s19 = .bool true := hF.get 19 _ rfl (.inr p19)
        subst e19
        have r19 : A.tmps[117]? = some (.bool true) := hR.own 19 _ _ rfl rfl
        refine step_of ⟨some 120, _, _, _, _, _⟩ rfl (fun K' hK => ?_)
        rw [if_pos (by simp [Region.wanted, yielded, r19])]
        go_simp
        go_at_call 10
        (with_reducible refine (SmC.on QpM2.out _ G21 gs Cs hGB21 (HI.out.step (below_none hF.low)).vs (HI.out.step (below_none hF.low)).env).mono ?_)
        rintro e Wq ⟨rfl, hq⟩
        exact hK.out _ _ ⟨_, hF.pure hok hla hpre rfl hq, rfl⟩
       rcases Nat.lt_or_ge i 24 with hi | hge
       ·obtain rfl := eqi hi hge
        have p19 := hpre 19 (by kernel_rfl)
        have e19 : s19 = .bool true := hF.get 19 _ rfl (.inr p19)
        subst e19
        have r19 : A.tmps[117]? = some (.bool true) := hR.own 19 _ _ rfl rfl
        have ro9 : A.tmps[9]? = some (.pointer (some ⟨B9, 0, none⟩)) := hR.out 0 _ rfl
        have hcc := (nine_at (keep_block H9.out (below_none hF.low))).1
        have cH90 := hcc.1
        have cH91 := hcc.2.1
        have cH92 := hcc.2.2.1
        have cH93 := hcc.2.2.2.1
        have cH94 := hcc.2.2.2.2.1
        have cH95 := hcc.2.2.2.2.2.1
        have cH96 := hcc.2.2.2.2.2.2.1
        have cH97 := hcc.2.2.2.2.2.2.2.1
        have cH98 := hcc.2.2.2.2.2.2.2.2
        clear hcc
        refine step_of ⟨some 121, _, _, _, _, _⟩ rfl (fun K' hK => ?_)
        rw [if_pos (by simp [Region.wanted, yielded, r19])]
        go_simp
        exact hK.out _ _ ⟨_, hF.pure hok hla hpre rfl (Below.refl _ _), rfl⟩
       obtain rfl := eqi hi hge
       have p23 := hpre 23 (by kernel_rfl)
       have e23 : s23 = .agg #[.int .i64 5, .string { data := #[] }, .string { data := #[] }, .string { data := #[] }, .bool false, .int .i64 0, .int .i64 (r : Int), .int .i64 (s : Int), .slice (some ⟨gv, 0, none⟩) L Cv] := hF.get 23 _ rfl (.inr p23)
       subst e23
       have r23 : A.tmps[121]? = some (.agg #[.int .i64 5, .string { data := #[] }, .string { data := #[] }, .string { data := #[] }, .bool false, .int .i64 0, .int .i64 (r : Int), .int .i64 (s : Int), .slice (some ⟨gv, 0, none⟩) L Cv]) := hR.own 23 _ _ rfl rfl
       have p19 := hpre 19 (by kernel_rfl)
       have e19 : s19 = .bool true := hF.get 19 _ rfl (.inr p19)
       subst e19
       have r19 : A.tmps[117]? = some (.bool true) := hR.own 19 _ _ rfl rfl
       refine step_of ⟨some 122, _, _, _, _, _⟩ rfl (fun K' hK => ?_)
       rw [if_pos (by simp [Region.wanted, yielded, r19])]
       go_simp
       exact hK.out _ _ ⟨_, hF.row hok hla hpre rfl, rfl⟩
      rcases Nat.lt_or_ge i 27 with hi | hge
      ·rcases Nat.lt_or_ge i 26 with hi | hge
       ·obtain rfl := eqi hi hge
        have p24 := hpre 24 (by kernel_rfl)
        obtain ⟨G24, eG24, _, hGB24⟩ : ∃ G, s24 = .slice (some ⟨G, 0, none⟩) 1 1 ∧ _ ≤ G ∧ Wr.heap[G]? = some (.cells #[.int .i64 5, .string { data := #[] }, .string { data := #[] }, .string { data := #[] }, .bool false, .int .i64 0, .int .i64 (r : Int), .int .i64 (s : Int), .slice (some ⟨gv, 0, none⟩) L Cv] 27 (0, 0)) := hF.get 24 _ rfl (.inr p24)
        subst eG24
        have r24 : A.tmps[122]? = some (.slice (some ⟨G24, 0, none⟩) 1 1) := hR.own 24 _ _ rfl rfl
        have p19 := hpre 19 (by kernel_rfl)
        have e19 : s19 = .bool true := hF.get 19 _ rfl (.inr p19)
        subst e19
        have r19 : A.tmps[117]? = some (.bool true) := hR.own 19 _ _ rfl rfl
        refine step_of ⟨some 123, _, _, _, _, _⟩ rfl (fun K' hK => ?_)
        rw [if_pos (by simp [Region.wanted, yielded, r19])]
        go_simp
        go_at_call 10
        (with_reducible refine (SmC.on QpM.out _ G24 gv Cv hGB24 (HI.out.step (below_none hF.low)).vv (HI.out.step (below_none hF.low)).env).mono ?_)
        rintro e Wq ⟨rfl, hq⟩
        exact hK.out _ _ ⟨_, hF.pure hok hla hpre rfl hq, rfl⟩
       obtain rfl := eqi hi hge
       have p22 := hpre 22 (by kernel_rfl)
       have e22 : s22 = .agg #[.int .i64 1, .string (numS sm), .string (denS sm), .string { data := #[] }, .bool false, .int .i64 0, .int .i64 0, .int .i64 0, .slice none 0 0] := hF.get 22 _ rfl (.inr p22)
       subst e22
       have r22 : A.tmps[120]? = some (.agg #[.int .i64 1, .string (numS sm), .string (denS sm), .string { data := #[] }, .bool false, .int .i64 0, .int .i64 0, .int .i64 0, .slice none 0 0]) := hR.own 22 _ _ rfl rfl
       have p25 := hpre 25 (by kernel_rfl)
       have e25 : s25 = .agg #[.int .i64 1, .string (numS sm), .string (denS sm), .string { data := #[] }, .bool false, .int .i64 0, .int .i64 0, .int .i64 0, .slice none 0 0] := hF.get 25 _ rfl (.inr p25)
       subst e25
       have r25 : A.tmps[123]? = some (.agg #[.int .i64 1, .string (numS sm), .string (denS sm), .string { data := #[] }, .bool false, .int .i64 0, .int .i64 0, .int .i64 0, .slice none 0 0]) := hR.own 25 _ _ rfl rfl
       have p19 := hpre 19 (by kernel_rfl)
       have e19 : s19 = .bool true := hF.get 19 _ rfl (.inr p19)
       subst e19
       have r19 : A.tmps[117]? = some (.bool true) := hR.own 19 _ _ rfl rfl
       refine step_of ⟨some 124, _, _, _, _, _⟩ rfl (fun K' hK => ?_)
       rw [if_pos (by simp [Region.wanted, yielded, r19])]
       go_simp
       go_at_call 9
       (with_reducible refine (Mt.same_one sm _).mono ?_)
       rintro e Wq ⟨rfl, hq⟩
       exact hK.out _ _ ⟨_, hF.pure hok hla hpre rfl hq, rfl⟩
      rcases Nat.lt_or_ge i 28 with hi | hge
      ·obtain rfl := eqi hi hge
       have p19 := hpre 19 (by kernel_rfl)
       have e19 : s19 = .bool true := hF.get 19 _ rfl (.inr p19)
       subst e19
       have r19 : A.tmps[117]? = some (.bool true) := hR.own 19 _ _ rfl rfl
       have p26 := hpre 26 (by kernel_rfl)
       have e26 : s26 = .bool true := hF.get 26 _ rfl (.inr p26)
       subst e26
       have r26 : A.tmps[124]? = some (.bool true) := hR.own 26 _ _ rfl rfl
       refine step_of ⟨some 125, _, _, _, _, _⟩ rfl (fun K' hK => ?_)
       go_simp
       exact hK.out _ _ ⟨_, hF.pure hok hla hpre rfl (Below.refl _ _), rfl⟩
      obtain rfl := eqi hi hge
      have p27 := hpre 27 (by kernel_rfl)
      have e27 : s27 = .bool true := hF.get 27 _ rfl (.inr p27)
      subst e27
      have r27 : A.tmps[125]? = some (.bool true) := hR.own 27 _ _ rfl rfl
      refine step_of ⟨some 8, _, _, _, _, _⟩ rfl (fun K' hK => ?_)
      go_simp
      exact hK.out _ _ ⟨_, hF.pure hok hla hpre rfl (Below.refl _ _), rfl⟩
     case hd =>
      rintro listed vs W15 hF hall
      obtain ⟨s0, s1, s2, s3, s4, s5, s6, s7, s8, s9, s10, s11, s12, s13, s14, s15, s16, s17, s18, s19, s20, s21, s22, s23, s24, s25, s26, s27, s28, hvs⟩ := exl_of 29 vs (fun l => vs = l) hF.len rfl
      subst hvs
      have e28 : s28 = .bool true := hF.get 28 _ rfl (.inr (hall 28 (by decide)))
      subst e28
      have hq := below_none hF.low
      replace H9 := Lib.hid (keep_block H9.out hq)
      replace H11 := Lib.hid (keep_block H11.out hq)
      replace H15 := Lib.hid (keep_block H15.out hq)
      replace HI := Lib.hid (HI.out.step hq)
      clear hq
      clear hF hall hok hla
      refine rest_end ?_
      simp only [putO, layL]
      go_wp2
      go_ret
      exact ⟨rfl, HI.out.low⟩
end Go.Proofs.YtkghpiaoggljjaaGreatDoor.Num.Fl
