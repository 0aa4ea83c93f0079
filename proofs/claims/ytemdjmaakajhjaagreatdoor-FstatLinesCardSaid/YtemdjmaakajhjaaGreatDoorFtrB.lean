/- Numbers as texts of digits, fractions, values and the functions of fmath: contracts of the program's functions, joined from smaller texts. Conditions stand at each theorem. -/
import Derived.Test.YtemdjmaakajhjaaGreatDoorFtaB
import Derived.Test.YtemdjmaakajhjaaGreatDoorFtcA
import Derived.Test.YtemdjmaakajhjaaGreatDoorFtrA
import Derived.Test.YtemdjmaakajhjaaGreatDoorFtbA
import Derived.Test.YtemdjmaakajhjaaGreatDoorFtaD

/- package fstat: read at two arrays of numbers. Conditions: what the small functions give. -/
namespace Go.Proofs.YtemdjmaakajhjaaGreatDoor.Num.Ft
open Go.RowKit Go.Lib Num

/-- what stays while the pairs are read -/
structure RdI (W : World) (R G : Nat) (qa qb : List Rat) (k : Nat) (vx vy : Value) (wx : World) : Prop where
  h4 : wx.heap[R]? = some (.cells #[.slice none 0 0, .slice none 0 0, .string { data := #[] }, .string { data := #[] }, .string { data := #[] }, .string { data := #[] }, .string { data := #[] }, .string { data := #[] }, .string { data := #[] }, .string { data := #[] }, .string { data := #[] }, .string { data := #[] }] 147 (0, 0))
  h7 : wx.heap[G]? = some (.cells #[vx, vy, .string { data := #[] }, .string { data := #[] }, .string { data := #[] }, .string { data := #[] }, .string { data := #[] }, .string { data := #[] }, .string { data := #[] }, .string { data := #[] }, .string { data := #[] }, .string { data := #[] }] 147 (0, 0))
  ox : wx.ownsRow W.heap.size 24 2 vx k (fracCells (qa.take k))
  oy : wx.ownsRow W.heap.size 24 2 vy k (fracCells (qb.take k))
  ap : Off vx vy
  gg : vx.ownBlock ≠ some G ∧ vy.ownBlock ≠ some G
  gr : vx.ownBlock ≠ some R ∧ vy.ownBlock ≠ some R
  low : Below W.heap.size W wx
/-- what stays while the deviations are summed -/
structure RdJ (W : World) (R G g1 g2 c1 c2 n : Nat) (u1 u2 : Array Value) (mx my sxx syy sxy : Rat) (wx : World) : Prop where
  h4 : wx.heap[R]? = some (.cells #[.slice none 0 0, .slice none 0 0, .string { data := #[] }, .string { data := #[] }, .string { data := #[] }, .string { data := #[] }, .string { data := #[] }, .string { data := #[] }, .string { data := #[] }, .string { data := #[] }, .string { data := #[] }, .string { data := #[] }] 147 (0, 0))
  h7 : wx.heap[G]? = some (.cells #[.slice (some ⟨g1, 0, none⟩) n c1, .slice (some ⟨g2, 0, none⟩) n c2, .string (numS mx), .string (denS mx), .string (numS my), .string (denS my), .string (numS sxx), .string (denS sxx), .string (numS syy), .string (denS syy), .string (numS sxy), .string (denS sxy)] 147 (0, 0))
  hx : wx.heap[g1]? = some (.cells u1 24 (0, 0))
  hy : wx.heap[g2]? = some (.cells u2 24 (0, 0))
  low : Below W.heap.size W wx
theorem frow_of {W : World} {g : Nat} {cur : Array Value} {qs : List Rat} (h : W.heap[g]? = some (.cells cur 24 (0, 0))) (hc : ∀ i (h : i < qs.length), cur[i * 2]? = some (.string (numS qs[i])) ∧ cur[i * 2 + 1]? = some (.string (denS qs[i]))) : FracsAt W g qs := RowB.fracs ⟨cur, h, hc⟩
theorem own_row {W : World} {B n : Nat} {v : Value} {qs : List Rat} (h : W.ownsRow B 24 2 v n (fracCells qs)) (hn : qs.length = n) (h0 : 0 < n) : ∃ g c cur, v = .slice (some ⟨g, 0, none⟩) n c ∧ B ≤ g ∧ W.heap[g]? = some (.cells cur 24 (0, 0)) ∧ ∀ i (h : i < qs.length), cur[i * 2]? = some (.string (numS qs[i])) ∧ cur[i * 2 + 1]? = some (.string (denS qs[i])) := by
  subst hn
  obtain ⟨g, c, e, hB, cur, hh, hc⟩ := OwnF.rowB (B := B) (v := v) (qs := qs) (W := W) h h0
  exact ⟨g, c, cur, e, hB, hh, hc⟩
/-- a block from before into which several stores write, in a region that draws its order -/
theorem old_blk {nd : Nat → Nat → Bool} {n : Nat} {ks : List RK} {w : World} {row : Option Nat} {listed : Array Bool} {vs : List Value} {W : World} (hF : Fs nd n ks w row listed vs W) {i g : Nat} {z f : List Value} {sts : List (Option Nat)} {T : TypeId} (hi : ks[i]? = some (.blk (some g) z f sts T)) (hn : On n listed i) :
    vs.getD i undef = .pointer (some ⟨g, 0, none⟩) ∧ w.heap.size ≤ g ∧ W.heap[g]? = some (.cells (mixL listed z f sts).toArray T (0, 0)) := by
  obtain ⟨G, e, hg, h1, h2⟩ := hF.get i _ hi hn
  have := hg _ rfl
  subst this
  exact ⟨e, h1, h2⟩
attribute [local irreducible] wpOp
set_option linter.unusedVariables false in
/-- what the operations of region 1 yield -/
def read_walkKs1 (n ga gb Ca Cb : Nat) (ra sa rb sb : Int) : List RK :=
  [.pure (.agg #[.int .i64 5, .string { data := #[] }, .string { data := #[] }, .string { data := #[] }, .bool false, .int .i64 0, .int .i64 ra, .int .i64 sa, .slice (some ⟨ga, 0, none⟩) n Ca]),
   .pure (.slice (some ⟨ga, 0, none⟩) n Ca),
   .pure (.agg #[.int .i64 5, .string { data := #[] }, .string { data := #[] }, .string { data := #[] }, .bool false, .int .i64 0, .int .i64 rb, .int .i64 sb, .slice (some ⟨gb, 0, none⟩) n Cb]),
   .pure (.slice (some ⟨gb, 0, none⟩) n Cb),
   .pure (.slice (some ⟨ga, 0, none⟩) n Ca),
   .pure (.slice (some ⟨gb, 0, none⟩) n Cb)]
set_option linter.unusedVariables false in
/-- what the operations of region 10 yield -/
def read_walkKs10 (q p : Rat) (k n ga gb Ca Cb R G cx cy : Nat) (ax ay : Option Addr) : List RK :=
  [.pure (.pointer (some ⟨G, 0, none⟩)),
   .pure (.slice ax k cx),
   .pure (.slice (some ⟨ga, 0, none⟩) n Ca),
   .pure (.int .i64 (k : Int)),
   .pure (.pointer (some ⟨ga, k * 9, none⟩)),
   .pure (.pointer (some ⟨ga, k * 9 + 1, none⟩)),
   .pure (.agg #[.string (numS q), .string (denS q)]),
   .row #[.string (numS q), .string (denS q)] 24 1,
   .free,
   .pure (.pointer (some ⟨G, 1, none⟩)),
   .pure (.slice ay k cy),
   .pure (.slice (some ⟨gb, 0, none⟩) n Cb),
   .pure (.int .i64 (k : Int)),
   .pure (.pointer (some ⟨gb, k * 9, none⟩)),
   .pure (.pointer (some ⟨gb, k * 9 + 1, none⟩)),
   .pure (.agg #[.string (numS p), .string (denS p)]),
   .row #[.string (numS p), .string (denS p)] 24 1,
   .free,
   .pure (.pointer (some ⟨G, 0, none⟩)),
   .free,
   .pure (.pointer (some ⟨G, 1, none⟩)),
   .free,
   .box (some R) #[.slice none 0 0, .slice none 0 0, .string { data := #[] }, .string { data := #[] }, .string { data := #[] }, .string { data := #[] }, .string { data := #[] }, .string { data := #[] }, .string { data := #[] }, .string { data := #[] }, .string { data := #[] }, .string { data := #[] }] #[.slice none 0 0, .slice none 0 0, .string { data := #[] }, .string { data := #[] }, .string { data := #[] }, .string { data := #[] }, .string { data := #[] }, .string { data := #[] }, .string { data := #[] }, .string { data := #[] }, .string { data := #[] }, .string { data := #[] }] 147 23]
set_option linter.unusedVariables false in
/-- what the operations of region 13 yield -/
def read_walkKs13 (mx my : Rat) (k G g1 g2 c1 c2 : Nat) : List RK :=
  [.pure (.pointer (some ⟨G, 0, none⟩)),
   .pure (.slice (some ⟨g1, 0, none⟩) k c1),
   .pure (.agg #[.string (numS mx), .string (denS mx)]),
   .pure (.pointer (some ⟨G, 1, none⟩)),
   .pure (.slice (some ⟨g2, 0, none⟩) k c2),
   .pure (.agg #[.string (numS my), .string (denS my)]),
   .pure (.pointer (some ⟨G, 2, none⟩)),
   .put 0,
   .put 0,
   .put 0]
set_option linter.unusedVariables false in
/-- what the operations of region 15 yield -/
def read_walkKs15 (z mx my : Rat) (k G R g1 g2 c1 c2 : Nat) (u1 u2 : Array Value) (w5 : World) : List RK :=
  [.pure (.agg #[.string (numS z), .string (denS z)]),
   .pure (.agg #[.string (numS z), .string (denS z)]),
   .pure (.agg #[.string (numS z), .string (denS z)]),
   .pure (.pointer (some ⟨G, 6, none⟩)),
   .put 9,
   .pure (.pointer (some ⟨G, 8, none⟩)),
   .put 9,
   .pure (.pointer (some ⟨G, 10, none⟩)),
   .put 9,
   .blk (some (G)) [.slice (some ⟨g1, 0, none⟩) k c1, .slice (some ⟨g2, 0, none⟩) k c2, .string (numS mx), .string (denS mx), .string (numS my), .string (denS my), .string { data := #[] }, .string { data := #[] }, .string { data := #[] }, .string { data := #[] }, .string { data := #[] }, .string { data := #[] }] [.slice (some ⟨g1, 0, none⟩) k c1, .slice (some ⟨g2, 0, none⟩) k c2, .string (numS mx), .string (denS mx), .string (numS my), .string (denS my), .string (numS z), .string (denS z), .string (numS z), .string (denS z), .string (numS z), .string (denS z)] [none, none, none, none, none, none, some 4, some 4, some 6, some 6, some 8, some 8] 147,
   .box (some (w5.heap.size)) #[.string (numS z), .string (denS z)] #[.string (numS z), .string (denS z)] 24 14,
   .box (some (R)) #[.slice none 0 0, .slice none 0 0, .string { data := #[] }, .string { data := #[] }, .string { data := #[] }, .string { data := #[] }, .string { data := #[] }, .string { data := #[] }, .string { data := #[] }, .string { data := #[] }, .string { data := #[] }, .string { data := #[] }] #[.slice none 0 0, .slice none 0 0, .string { data := #[] }, .string { data := #[] }, .string { data := #[] }, .string { data := #[] }, .string { data := #[] }, .string { data := #[] }, .string { data := #[] }, .string { data := #[] }, .string { data := #[] }, .string { data := #[] }] 147 14,
   .box (some (g1)) u1 u1 24 14,
   .box (some (g2)) u2 u2 24 14]
set_option linter.unusedVariables false in
/-- what the operations of region 19 yield -/
def read_walkKs19 (q p mx my d e : Rat) (i k G g1 g2 c1 c2 : Nat) : List RK :=
  [.pure (.pointer (some ⟨G, 0, none⟩)),
   .pure (.slice (some ⟨g1, 0, none⟩) k c1),
   .pure (.int .i64 (i : Int)),
   .pure (.pointer (some ⟨g1, i * 2, none⟩)),
   .pure (.agg #[.string (numS q), .string (denS q)]),
   .pure (.pointer (some ⟨G, 2, none⟩)),
   .pure (.agg #[.string (numS mx), .string (denS mx)]),
   .pure (.agg #[.string (numS d), .string (denS d)]),
   .pure (.pointer (some ⟨G, 1, none⟩)),
   .pure (.slice (some ⟨g2, 0, none⟩) k c2),
   .pure (.int .i64 (i : Int)),
   .pure (.pointer (some ⟨g2, i * 2, none⟩)),
   .pure (.agg #[.string (numS p), .string (denS p)]),
   .pure (.pointer (some ⟨G, 4, none⟩)),
   .pure (.agg #[.string (numS my), .string (denS my)]),
   .pure (.agg #[.string (numS e), .string (denS e)]),
   .box none #[.string { data := #[] }, .string { data := #[] }] #[.string (numS d), .string (denS d)] 24 18,
   .box none #[.string { data := #[] }, .string { data := #[] }] #[.string (numS e), .string (denS e)] 24 19,
   .put 16,
   .put 17]
set_option linter.unusedVariables false in
/-- what the operations of region 20 yield -/
def read_walkKs20 (sx sy sc d e dd ee de tx ty tc : Rat) (G b11 b12 : Nat) : List RK :=
  [.pure (.pointer (some ⟨G, 6, none⟩)),
   .pure (.agg #[.string (numS sx), .string (denS sx)]),
   .pure (.agg #[.string (numS d), .string (denS d)]),
   .pure (.agg #[.string (numS d), .string (denS d)]),
   .pure (.agg #[.string (numS dd), .string (denS dd)]),
   .pure (.agg #[.string (numS tx), .string (denS tx)]),
   .pure (.pointer (some ⟨G, 8, none⟩)),
   .pure (.agg #[.string (numS sy), .string (denS sy)]),
   .pure (.agg #[.string (numS e), .string (denS e)]),
   .pure (.agg #[.string (numS e), .string (denS e)]),
   .pure (.agg #[.string (numS ee), .string (denS ee)]),
   .pure (.agg #[.string (numS ty), .string (denS ty)]),
   .pure (.pointer (some ⟨G, 10, none⟩)),
   .pure (.agg #[.string (numS sc), .string (denS sc)]),
   .pure (.agg #[.string (numS d), .string (denS d)]),
   .pure (.agg #[.string (numS e), .string (denS e)]),
   .pure (.agg #[.string (numS de), .string (denS de)]),
   .pure (.agg #[.string (numS tc), .string (denS tc)]),
   .pure (.pointer (some ⟨G, 6, none⟩)),
   .put 0,
   .put 0,
   .put 0,
   .put 0,
   .put 0]
set_option linter.unusedSimpArgs false in
set_option linter.unusedVariables false in
set_option maxHeartbeats 4000000 in
set_option maxRecDepth 100000 in
theorem read_walk (n ga gb Ca Cb : Nat) (ra sa rb sb : Int) (qa qb : List Rat) (mx my z : Rat) (XX YY XY D E DD EE DE : Nat → Rat) (W : World) (hqa : qa.length = n)
    (hqb : qb.length = n)
    (h0 : 0 < n)
    (h9 : n ≤ 1000)
    (hva : ValsAt W ga 0 (numVals qa))
    (hvb : ValsAt W gb 0 (numVals qb))
    (hma : RowF 163 qa (.agg #[.string (numS mx), .string (denS mx)]))
    (hmb : RowF 163 qb (.agg #[.string (numS my), .string (denS my)]))
    (c0 : Fun1 29 (.int .i64 0) (.agg #[.string (numS z), .string (denS z)]))
    (hS : XX 0 = z ∧ YY 0 = z ∧ XY 0 = z)
    (hd : ∀ (k : Nat) (h : k < qa.length), Fun2 147 (fracV qa[k]) (fracV mx) (fracV (D k)))
    (he : ∀ (k : Nat) (h : k < qb.length), Fun2 147 (fracV qb[k]) (fracV my) (fracV (E k)))
    (hm : ∀ (k : Nat), k < n → Fun2 144 (fracV (D k)) (fracV (D k)) (fracV (DD k)) ∧ Fun2 144 (fracV (E k)) (fracV (E k)) (fracV (EE k)) ∧ Fun2 144 (fracV (D k)) (fracV (E k)) (fracV (DE k)))
    (ha : ∀ (k : Nat), k < n → Fun2 140 (fracV (XX k)) (fracV (DD k)) (fracV (XX (k + 1))) ∧ Fun2 140 (fracV (YY k)) (fracV (EE k)) (fracV (YY (k + 1))) ∧ Fun2 140 (fracV (XY k)) (fracV (DE k)) (fracV (XY (k + 1)))) (hE : EnvY W) :
    Calls Tryz.prog 175 #[.agg #[.int .i64 5, .string { data := #[] }, .string { data := #[] }, .string { data := #[] }, .bool false, .int .i64 0, .int .i64 ra, .int .i64 sa, .slice (some ⟨ga, 0, none⟩) n Ca], .agg #[.int .i64 5, .string { data := #[] }, .string { data := #[] }, .string { data := #[] }, .bool false, .int .i64 0, .int .i64 rb, .int .i64 sb, .slice (some ⟨gb, 0, none⟩) n Cb]] W fun e w' => (∃ A1 c1 A2 c2, e = .returned (.agg #[.slice A1 n c1, .slice A2 n c2, .string (numS mx), .string (denS mx), .string (numS my), .string (denS my), .string (numS (XX n)), .string (denS (XX n)), .string (numS (YY n)), .string (denS (YY n)), .string (numS (XY n)), .string (denS (XY n))])) ∧ Below W.heap.size W w' := by
  have HQA := Lib.hid hqa
  have HQB := Lib.hid hqb
  have H0 := Lib.hid h0
  have HVA := Lib.hid hva
  have HVB := Lib.hid hvb
  have TIA : Hid (∀ W', Below W.heap.size W W' → EnvY W' → Calls Tryz.prog 71 #[.agg #[.int .i64 5, .string { data := #[] }, .string { data := #[] }, .string { data := #[] }, .bool false, .int .i64 0, .int .i64 ra, .int .i64 sa, .slice (some ⟨ga, 0, none⟩) n Ca]] W' fun e w' => ∃ u, e = .returned u ∧ Below W'.heap.size W' w') := Lib.hid (fun W' hb ge => by
    have h := inside_arr qa ra sa ga Ca W' (by omega) (by omega) (hva.below hb) ge
    rw [hqa] at h
    exact h.mono fun e w' ⟨u, h1, _, _, h4⟩ => ⟨u, h1, h4⟩)
  have TIB : Hid (∀ W', Below W.heap.size W W' → EnvY W' → Calls Tryz.prog 71 #[.agg #[.int .i64 5, .string { data := #[] }, .string { data := #[] }, .string { data := #[] }, .bool false, .int .i64 0, .int .i64 rb, .int .i64 sb, .slice (some ⟨gb, 0, none⟩) n Cb]] W' fun e w' => ∃ u, e = .returned u ∧ Below W'.heap.size W' w') := Lib.hid (fun W' hb ge => by
    have h := inside_arr qb rb sb gb Cb W' (by omega) (by omega) (hvb.below hb) ge
    rw [hqb] at h
    exact h.mono fun e w' ⟨u, h1, _, _, h4⟩ => ⟨u, h1, h4⟩)
  have QMA := Lib.hid hma
  have QMB := Lib.hid hmb
  unfold RowF at QMA QMB
  rw [hqa] at QMA
  rw [hqb] at QMB
  have Q0 := Lib.hid c0
  unfold Fun1 at Q0
  have HS := Lib.hid hS
  have QD := Lib.hid hd
  have QE := Lib.hid he
  have QM := Lib.hid hm
  have QA := Lib.hid ha
  have h00 : ((n : Int) == 0) = false := by simp; omega
  have h01 : (n == 0) = false := by simp; omega
  have hnn : ((n : Int) != (n : Int)) = false := by simp
  obtain ⟨i0, hi0', hz0, hz1, hz2⟩ := info_frac
  have HE0 := Lib.hid hE
  have HG := Lib.hid (show Below W.heap.size W (((W.alloc (.cells #[.int .i64 5, .string { data := #[] }, .string { data := #[] }, .string { data := #[] }, .bool false, .int .i64 0, .int .i64 ra, .int .i64 sa, .slice (some ⟨ga, 0, none⟩) n Ca] 27)).alloc (.cells #[.int .i64 5, .string { data := #[] }, .string { data := #[] }, .string { data := #[] }, .bool false, .int .i64 0, .int .i64 rb, .int .i64 sb, .slice (some ⟨gb, 0, none⟩) n Cb] 27)).alloc (.cells #[.slice none 0 0, .slice none 0 0, .string { data := #[] }, .string { data := #[] }, .string { data := #[] }, .string { data := #[] }, .string { data := #[] }, .string { data := #[] }, .string { data := #[] }, .string { data := #[] }, .string { data := #[] }, .string { data := #[] }] 147)) from ((((Below.refl _ _).alloc (Nat.le_refl _) _).alloc (by simp only [World.size_alloc]; omega) _).alloc (by simp only [World.size_alloc]; omega) _))
  have H2 : Hid ((((W.alloc (.cells #[.int .i64 5, .string { data := #[] }, .string { data := #[] }, .string { data := #[] }, .bool false, .int .i64 0, .int .i64 ra, .int .i64 sa, .slice (some ⟨ga, 0, none⟩) n Ca] 27)).alloc (.cells #[.int .i64 5, .string { data := #[] }, .string { data := #[] }, .string { data := #[] }, .bool false, .int .i64 0, .int .i64 rb, .int .i64 sb, .slice (some ⟨gb, 0, none⟩) n Cb] 27)).alloc (.cells #[.slice none 0 0, .slice none 0 0, .string { data := #[] }, .string { data := #[] }, .string { data := #[] }, .string { data := #[] }, .string { data := #[] }, .string { data := #[] }, .string { data := #[] }, .string { data := #[] }, .string { data := #[] }, .string { data := #[] }] 147)).heap[W.heap.size]? = some (.cells #[.int .i64 5, .string { data := #[] }, .string { data := #[] }, .string { data := #[] }, .bool false, .int .i64 0, .int .i64 ra, .int .i64 sa, .slice (some ⟨ga, 0, none⟩) n Ca] 27 (0, 0))) := Lib.hid (by
    have h := heap_alloc_new W (.cells #[.int .i64 5, .string { data := #[] }, .string { data := #[] }, .string { data := #[] }, .bool false, .int .i64 0, .int .i64 ra, .int .i64 sa, .slice (some ⟨ga, 0, none⟩) n Ca] 27)
    exact new_keep (new_keep (h)))
  have H3 : Hid ((((W.alloc (.cells #[.int .i64 5, .string { data := #[] }, .string { data := #[] }, .string { data := #[] }, .bool false, .int .i64 0, .int .i64 ra, .int .i64 sa, .slice (some ⟨ga, 0, none⟩) n Ca] 27)).alloc (.cells #[.int .i64 5, .string { data := #[] }, .string { data := #[] }, .string { data := #[] }, .bool false, .int .i64 0, .int .i64 rb, .int .i64 sb, .slice (some ⟨gb, 0, none⟩) n Cb] 27)).alloc (.cells #[.slice none 0 0, .slice none 0 0, .string { data := #[] }, .string { data := #[] }, .string { data := #[] }, .string { data := #[] }, .string { data := #[] }, .string { data := #[] }, .string { data := #[] }, .string { data := #[] }, .string { data := #[] }, .string { data := #[] }] 147)).heap[W.heap.size + 1]? = some (.cells #[.int .i64 5, .string { data := #[] }, .string { data := #[] }, .string { data := #[] }, .bool false, .int .i64 0, .int .i64 rb, .int .i64 sb, .slice (some ⟨gb, 0, none⟩) n Cb] 27 (0, 0))) := Lib.hid (by
    have h := heap_alloc_new (W.alloc (.cells #[.int .i64 5, .string { data := #[] }, .string { data := #[] }, .string { data := #[] }, .bool false, .int .i64 0, .int .i64 ra, .int .i64 sa, .slice (some ⟨ga, 0, none⟩) n Ca] 27)) (.cells #[.int .i64 5, .string { data := #[] }, .string { data := #[] }, .string { data := #[] }, .bool false, .int .i64 0, .int .i64 rb, .int .i64 sb, .slice (some ⟨gb, 0, none⟩) n Cb] 27)
    simp only [World.size_alloc] at h
    exact new_keep (h))
  have H4 : Hid ((((W.alloc (.cells #[.int .i64 5, .string { data := #[] }, .string { data := #[] }, .string { data := #[] }, .bool false, .int .i64 0, .int .i64 ra, .int .i64 sa, .slice (some ⟨ga, 0, none⟩) n Ca] 27)).alloc (.cells #[.int .i64 5, .string { data := #[] }, .string { data := #[] }, .string { data := #[] }, .bool false, .int .i64 0, .int .i64 rb, .int .i64 sb, .slice (some ⟨gb, 0, none⟩) n Cb] 27)).alloc (.cells #[.slice none 0 0, .slice none 0 0, .string { data := #[] }, .string { data := #[] }, .string { data := #[] }, .string { data := #[] }, .string { data := #[] }, .string { data := #[] }, .string { data := #[] }, .string { data := #[] }, .string { data := #[] }, .string { data := #[] }] 147)).heap[W.heap.size + 2]? = some (.cells #[.slice none 0 0, .slice none 0 0, .string { data := #[] }, .string { data := #[] }, .string { data := #[] }, .string { data := #[] }, .string { data := #[] }, .string { data := #[] }, .string { data := #[] }, .string { data := #[] }, .string { data := #[] }, .string { data := #[] }] 147 (0, 0))) := Lib.hid (by
    have h := heap_alloc_new ((W.alloc (.cells #[.int .i64 5, .string { data := #[] }, .string { data := #[] }, .string { data := #[] }, .bool false, .int .i64 0, .int .i64 ra, .int .i64 sa, .slice (some ⟨ga, 0, none⟩) n Ca] 27)).alloc (.cells #[.int .i64 5, .string { data := #[] }, .string { data := #[] }, .string { data := #[] }, .bool false, .int .i64 0, .int .i64 rb, .int .i64 sb, .slice (some ⟨gb, 0, none⟩) n Cb] 27)) (.cells #[.slice none 0 0, .slice none 0 0, .string { data := #[] }, .string { data := #[] }, .string { data := #[] }, .string { data := #[] }, .string { data := #[] }, .string { data := #[] }, .string { data := #[] }, .string { data := #[] }, .string { data := #[] }, .string { data := #[] }] 147)
    simp only [World.size_alloc] at h
    exact h)
  obtain ⟨W0, hW0⟩ : ∃ Z, (((W.alloc (.cells #[.int .i64 5, .string { data := #[] }, .string { data := #[] }, .string { data := #[] }, .bool false, .int .i64 0, .int .i64 ra, .int .i64 sa, .slice (some ⟨ga, 0, none⟩) n Ca] 27)).alloc (.cells #[.int .i64 5, .string { data := #[] }, .string { data := #[] }, .string { data := #[] }, .bool false, .int .i64 0, .int .i64 rb, .int .i64 sb, .slice (some ⟨gb, 0, none⟩) n Cb] 27)).alloc (.cells #[.slice none 0 0, .slice none 0 0, .string { data := #[] }, .string { data := #[] }, .string { data := #[] }, .string { data := #[] }, .string { data := #[] }, .string { data := #[] }, .string { data := #[] }, .string { data := #[] }, .string { data := #[] }, .string { data := #[] }] 147)) = Z := ⟨_, rfl⟩
  rw [hW0] at HG H2 H3 H4
  have EW0 := Lib.hid hW0
  have HE := Lib.hid (HE0.out.below HG.out)
  clear hW0 hE  hqa hqb hva hvb hma hmb c0 hS hd he hm ha
  go_enter Tryz.func175, Tryz.ntmps175
  have lt_2 := Lib.hid (heap_lt H2.out)
  have lt_3 := Lib.hid (heap_lt H3.out)
  have lt_4 := Lib.hid (heap_lt H4.out)
  have geW := Lib.hid HG.out.size
  go_wp2_with fail
  rw [EW0.out]
  have hok : okB 6 (read_walkKs1 n ga gb Ca Cb ra sa rb sb) = true := by kernel_rfl
  have hna := noAny_of (ks := (read_walkKs1 n ga gb Ca Cb ra sa rb sb)) (by kernel_rfl)
  have hla := lasts_of hna
  refine wp_region_facts (row := none) (w := W0) 6 (read_walkKs1 n ga gb Ca Cb ra sa rb sb) [some 13, some 14, some 15, some 16, some 5, some 6] (by kernel_rfl) (by kernel_rfl) rfl [undef, undef, undef, undef, undef, undef] ?h00 (Fs.start rfl rfl) ?hs ?hd
  case h00 => simp only [putO, layL]
  case hs =>
    rintro listed vs Wr hF i hi hun hpre
    obtain ⟨s0, s1, s2, s3, s4, s5, hvs⟩ := exl_of 6 vs (fun l => vs = l) hF.len rfl
    subst hvs
    have hge := Nat.zero_le i
    simp only [putO, layL]
    rcases Nat.lt_or_ge i 3 with hlt | hgt
    · replace hi := hlt
      clear hlt
      rcases Nat.lt_or_ge i 1 with hlt | hgt
      · replace hi := hlt
        clear hlt
        obtain rfl := eqi hi hge
        have hcc := (nine_at (keep_block H2.out (below_none hF.low))).1
        have cH20 := hcc.1
        have cH21 := hcc.2.1
        have cH22 := hcc.2.2.1
        have cH23 := hcc.2.2.2.1
        have cH24 := hcc.2.2.2.2.1
        have cH25 := hcc.2.2.2.2.2.1
        have cH26 := hcc.2.2.2.2.2.2.1
        have cH27 := hcc.2.2.2.2.2.2.2.1
        have cH28 := hcc.2.2.2.2.2.2.2.2
        clear hcc
        refine step_of ⟨some 13, _, _, _, _, _⟩ rfl (fun K' hK => ?_)
        go_simp
        refine hK.out _ _ ⟨_, hF.pure hok hla hpre rfl (Below.refl _ _), ?fr⟩
        case fr => simp only [putO, layL]
      · replace hge : 1 ≤ i := hgt
        clear hgt
        rcases Nat.lt_or_ge i 2 with hlt | hgt
        · replace hi := hlt
          clear hlt
          obtain rfl := eqi hi hge
          have p0 := hpre 0 (by kernel_rfl)
          have e0 : s0 = .agg #[.int .i64 5, .string { data := #[] }, .string { data := #[] }, .string { data := #[] }, .bool false, .int .i64 0, .int .i64 ra, .int .i64 sa, .slice (some ⟨ga, 0, none⟩) n Ca] := hF.get 0 _ rfl (.inr p0)
          subst e0
          refine step_of ⟨some 14, _, _, _, _, _⟩ rfl (fun K' hK => ?_)
          go_simp
          go_at_call 135
          (with_reducible refine (list_arr ra sa ga n Ca _).mono ?_)
          rintro e Wq ⟨rfl, hq⟩
          refine hK.out _ _ ⟨_, hF.pure hok hla hpre rfl hq, ?fr⟩
          case fr => simp only [putO, layL]
        · replace hge : 2 ≤ i := hgt
          clear hgt
          obtain rfl := eqi hi hge
          have hcc := (nine_at (keep_block H3.out (below_none hF.low))).1
          have cH30 := hcc.1
          have cH31 := hcc.2.1
          have cH32 := hcc.2.2.1
          have cH33 := hcc.2.2.2.1
          have cH34 := hcc.2.2.2.2.1
          have cH35 := hcc.2.2.2.2.2.1
          have cH36 := hcc.2.2.2.2.2.2.1
          have cH37 := hcc.2.2.2.2.2.2.2.1
          have cH38 := hcc.2.2.2.2.2.2.2.2
          clear hcc
          refine step_of ⟨some 15, _, _, _, _, _⟩ rfl (fun K' hK => ?_)
          go_simp
          refine hK.out _ _ ⟨_, hF.pure hok hla hpre rfl (Below.refl _ _), ?fr⟩
          case fr => simp only [putO, layL]
    · replace hge : 3 ≤ i := hgt
      clear hgt
      rcases Nat.lt_or_ge i 4 with hlt | hgt
      · replace hi := hlt
        clear hlt
        obtain rfl := eqi hi hge
        have p2 := hpre 2 (by kernel_rfl)
        have e2 : s2 = .agg #[.int .i64 5, .string { data := #[] }, .string { data := #[] }, .string { data := #[] }, .bool false, .int .i64 0, .int .i64 rb, .int .i64 sb, .slice (some ⟨gb, 0, none⟩) n Cb] := hF.get 2 _ rfl (.inr p2)
        subst e2
        refine step_of ⟨some 16, _, _, _, _, _⟩ rfl (fun K' hK => ?_)
        go_simp
        go_at_call 135
        (with_reducible refine (list_arr rb sb gb n Cb _).mono ?_)
        rintro e Wq ⟨rfl, hq⟩
        refine hK.out _ _ ⟨_, hF.pure hok hla hpre rfl hq, ?fr⟩
        case fr => simp only [putO, layL]
      · replace hge : 4 ≤ i := hgt
        clear hgt
        rcases Nat.lt_or_ge i 5 with hlt | hgt
        · replace hi := hlt
          clear hlt
          obtain rfl := eqi hi hge
          have p1 := hpre 1 (by kernel_rfl)
          have e1 : s1 = .slice (some ⟨ga, 0, none⟩) n Ca := hF.get 1 _ rfl (.inr p1)
          subst e1
          refine step_of ⟨some 5, _, _, _, _, _⟩ rfl (fun K' hK => ?_)
          go_simp
          refine hK.out _ _ ⟨_, hF.pure hok hla hpre rfl (Below.refl _ _), ?fr⟩
          case fr => simp only [putO, layL]
        · replace hge : 5 ≤ i := hgt
          clear hgt
          obtain rfl := eqi hi hge
          have p3 := hpre 3 (by kernel_rfl)
          have e3 : s3 = .slice (some ⟨gb, 0, none⟩) n Cb := hF.get 3 _ rfl (.inr p3)
          subst e3
          refine step_of ⟨some 6, _, _, _, _, _⟩ rfl (fun K' hK => ?_)
          go_simp
          refine hK.out _ _ ⟨_, hF.pure hok hla hpre rfl (Below.refl _ _), ?fr⟩
          case fr => simp only [putO, layL]
  case hd =>
    rintro listed vs WA hF hall
    obtain ⟨s0, s1, s2, s3, s4, s5, hvs⟩ := exl_of 6 vs (fun l => vs = l) hF.len rfl
    subst hvs
    have e4 : s4 = .slice (some ⟨ga, 0, none⟩) n Ca := hF.get 4 _ rfl (.inr (hall 4 (by decide)))
    subst e4
    have e5 : s5 = .slice (some ⟨gb, 0, none⟩) n Cb := hF.get 5 _ rfl (.inr (hall 5 (by decide)))
    subst e5
    have hq := below_none hF.low
    replace H2 := Lib.hid (keep_block H2.out hq)
    replace H3 := Lib.hid (keep_block H3.out hq)
    replace H4 := Lib.hid (keep_block H4.out hq)
    replace HE := Lib.hid (HE.out.below hq)
    replace HG := Lib.hid (HG.out.trans (hq.mono HG.out.size))
    clear hq
    clear hF hall hok hna hla
    simp only [putO, layL]
    clear geW lt_2 lt_3 lt_4
    go_wp2_with fail
    refine (stop_no 6 _).mono ?_
    rintro e w1 ⟨rfl, hws⟩
    replace hws := hws.symm
    subst hws
    obtain ⟨⟨x2_0, x2_1, x2_2, x2_3, x2_4, x2_5, x2_6, x2_7, x2_8⟩, x2_f0, x2_f1, x2_f2, x2_f3, x2_f4, x2_f5, x2_f6, x2_f7, x2_f8⟩ := nine_at H2.out
    go_wp2_with fail
    refine (TIA.out _ HG.out HE.out).mono ?_
    clear x2_0 x2_1 x2_2 x2_3 x2_4 x2_5 x2_6 x2_7 x2_8 x2_f0 x2_f1 x2_f2 x2_f3 x2_f4 x2_f5 x2_f6 x2_f7 x2_f8
    rintro e w2 ⟨u24, rfl, hb⟩
    replace H2 := Lib.hid (keep_block H2.out hb)
    replace H3 := Lib.hid (keep_block H3.out hb)
    replace H4 := Lib.hid (keep_block H4.out hb)
    replace HE := Lib.hid (HE.out.below hb)
    replace HG := Lib.hid (HG.out.trans (hb.mono HG.out.size))
    clear hb
    obtain ⟨⟨x3_0, x3_1, x3_2, x3_3, x3_4, x3_5, x3_6, x3_7, x3_8⟩, x3_f0, x3_f1, x3_f2, x3_f3, x3_f4, x3_f5, x3_f6, x3_f7, x3_f8⟩ := nine_at H3.out
    go_wp2_with fail
    refine (TIB.out _ HG.out HE.out).mono ?_
    clear x3_0 x3_1 x3_2 x3_3 x3_4 x3_5 x3_6 x3_7 x3_8 x3_f0 x3_f1 x3_f2 x3_f3 x3_f4 x3_f5 x3_f6 x3_f7 x3_f8
    rintro e w3 ⟨u26, rfl, hb⟩
    replace H2 := Lib.hid (keep_block H2.out hb)
    replace H3 := Lib.hid (keep_block H3.out hb)
    replace H4 := Lib.hid (keep_block H4.out hb)
    replace HE := Lib.hid (HE.out.below hb)
    replace HG := Lib.hid (HG.out.trans (hb.mono HG.out.size))
    clear hb
    have lt_2 := heap_lt H2.out
    have lt_3 := heap_lt H3.out
    have lt_4 := heap_lt H4.out
    have geW := HG.out.size
    have L7_2 : Hid (W.heap.size < w3.heap.size) := Lib.hid (by omega)
    have L7_3 : Hid (W.heap.size + 1 < w3.heap.size) := Lib.hid (by omega)
    have L7_4 : Hid (W.heap.size + 2 < w3.heap.size) := Lib.hid (by omega)
    have G7 : Hid (W.heap.size ≤ w3.heap.size) := Lib.hid (by omega)
    have hb : Below w3.heap.size w3 (w3.alloc (.cells #[.slice none 0 0, .slice none 0 0, .string { data := #[] }, .string { data := #[] }, .string { data := #[] }, .string { data := #[] }, .string { data := #[] }, .string { data := #[] }, .string { data := #[] }, .string { data := #[] }, .string { data := #[] }, .string { data := #[] }] 147)) := (Below.refl _ _).alloc (Nat.le_refl _) _
    replace H2 := Lib.hid (keep_block H2.out hb)
    replace H3 := Lib.hid (keep_block H3.out hb)
    replace H4 := Lib.hid (keep_block H4.out hb)
    replace HE := Lib.hid (HE.out.below hb)
    replace HG := Lib.hid (HG.out.trans (hb.mono HG.out.size))
    have H7 := Lib.hid (heap_alloc_new w3 (.cells #[.slice none 0 0, .slice none 0 0, .string { data := #[] }, .string { data := #[] }, .string { data := #[] }, .string { data := #[] }, .string { data := #[] }, .string { data := #[] }, .string { data := #[] }, .string { data := #[] }, .string { data := #[] }, .string { data := #[] }] 147))
    clear hb
    clear geW lt_2 lt_3 lt_4
    obtain ⟨WL2, hWL2⟩ : ∃ Z, (w3.alloc (.cells #[.slice none 0 0, .slice none 0 0, .string { data := #[] }, .string { data := #[] }, .string { data := #[] }, .string { data := #[] }, .string { data := #[] }, .string { data := #[] }, .string { data := #[] }, .string { data := #[] }, .string { data := #[] }, .string { data := #[] }] 147)) = Z := ⟨_, rfl⟩
    rw [hWL2] at HE HG H2 H3 H4 H7
    have EWL2 := Lib.hid hWL2
    clear hWL2
    go_wp2_with fail
    rw [EWL2.out]
    obtain ⟨R, hR⟩ : ∃ R, W.heap.size + 2 = R := ⟨_, rfl⟩
    obtain ⟨G, hG⟩ : ∃ G, w3.heap.size = G := ⟨_, rfl⟩
    rw [hR] at H4 L7_4 ⊢
    rw [hG] at H7 G7 L7_4 ⊢
    have G4 : Hid (W.heap.size ≤ R) := Lib.hid (by omega)
    clear hR hG L7_2 L7_3
    go_loopg [29] n (fun gh v29 wx => ∃ (k : Nat) (vx vy : Value), v29 = .int .i64 (k : Int) ∧ k ≤ n ∧ gh = n - k ∧ RdI W R G qa qb k vx vy wx)
    case atStart => exact ⟨0, .slice none 0 0, .slice none 0 0, rfl, Nat.zero_le _, rfl, ⟨H4.out, H7.out, World.ownsRow_nil _ _ _ _, World.ownsRow_nil _ _ _ _, .inl rfl, ⟨by simp [Value.ownBlock], by simp [Value.ownBlock]⟩, ⟨by simp [Value.ownBlock], by simp [Value.ownBlock]⟩, HG.out⟩⟩
    case round =>
      clear H2 H3 H4 H7 HG HE
      obtain ⟨k, vx, vy, rfl, hk, hgk, hI⟩ := hrel
      have HI := Lib.hid hI
      clear hI
      by_cases hlt : k < n
      · have hdd : decide ((k : Int) < (n : Int)) = true := decide_eq_true (by omega)
        have hdd2 : decide (k < n) = true := decide_eq_true hlt
        have hi0 : (0 : Int) ≤ (k : Int) := by omega
        have hi1 : (k : Int) < (n : Int) := by omega
        have hwk : IntKind.i64.wrap ((k : Int) + 1) = (k : Int) + 1 := IntWalk.i64_in _ (by omega)
        have hka : k < qa.length := by have := HQA.out; omega
        have hkb : k < qb.length := by have := HQB.out; omega
        obtain ⟨q, hq⟩ : ∃ q, qa[k] = q := ⟨_, rfl⟩
        obtain ⟨p, hp⟩ : ∃ p, qb[k] = p := ⟨_, rfl⟩
        have HTA := Lib.hid (show fracCells (qa.take (k + 1)) = fracCells (qa.take k) ++ [.string (numS q), .string (denS q)] by rw [List.take_succ_eq_append_getElem hka, hq, fracCells_snoc])
        have HTB := Lib.hid (show fracCells (qb.take (k + 1)) = fracCells (qb.take k) ++ [.string (numS p), .string (denS p)] by rw [List.take_succ_eq_append_getElem hkb, hp, fracCells_snoc])
        obtain ⟨a0, a1, a2, _⟩ := item_at (HVA.out.below HI.out.low) k hka q hq
        obtain ⟨d0, d1, d2, _⟩ := item_at (HVB.out.below HI.out.low) k hkb p hp
        obtain ⟨_, b1, b2, _⟩ := item_at HVA.out k hka q hq
        obtain ⟨_, b3, b4, _⟩ := item_at HVB.out k hkb p hp
        have HA1 := Lib.hid b1
        have HA2 := Lib.hid b2
        have HB1 := Lib.hid b3
        have HB2 := Lib.hid b4
        have hml : k + 1 ≤ maxLen := by unfold maxLen; omega
        obtain ⟨xs, hxs⟩ : ∃ xs, fracCells (qa.take k) = xs := ⟨_, rfl⟩
        obtain ⟨ys, hys⟩ : ∃ ys, fracCells (qb.take k) = ys := ⟨_, rfl⟩
        have OX := HI.out.ox
        have OY := HI.out.oy
        rw [hxs] at HTA OX
        rw [hys] at HTB OY
        have HOX := Lib.hid OX
        have HOY := Lib.hid OY
        obtain ⟨ax, cx, hu⟩ := owns_form OX
        obtain ⟨ay, cy, hv⟩ := owns_form OY
        subst hu
        subst hv
        clear hq hp hka hkb a1 a2 d1 d2 b1 b2 b3 b4 hxs hys OX OY
        go_upto_region 10 with fail
        clear a0 d0
        have hok : okB 22 (read_walkKs10 q p k n ga gb Ca Cb R G cx cy ax ay) = true := by kernel_rfl
        have hna := noAny1_of (ks := (read_walkKs10 q p k n ga gb Ca Cb R G cx cy ax ay)) (by kernel_rfl)
        have hG7 := G7.out
        have hGR : G ≠ R := by have := L7_4.out; omega
        refine wp_region_pair (w := W) (T := 24) (TP := 147) (sz := 2) (G := G) (rest := [.string { data := #[] }, .string { data := #[] }, .string { data := #[] }, .string { data := #[] }, .string { data := #[] }, .string { data := #[] }, .string { data := #[] }, .string { data := #[] }, .string { data := #[] }, .string { data := #[] }]) (ax := 8) (ay := 17) (sx := 19) (sy := 21) (m := k) (vx := .slice ax k cx) (vy := .slice ay k cy) (xs := xs) (ys := ys) (nx := [.string (numS q), .string (denS q)]) (ny := [.string (numS p), .string (denS p)]) 22 (read_walkKs10 q p k n ga gb Ca Cb R G cx cy ax ay) [some 46, some 47, some 48, some 49, some 50, some 51, some 52, some 53, some 54, some 55, some 56, some 57, some 58, some 59, some 60, some 61, some 62, some 63, some 64, none, some 65, none] (by kernel_rfl) (by kernel_rfl) rfl [u46, u47, u48, u49, u50, u51, u52, u53, u54, u55, u56, u57, u58, u59, u60, u61, u62, u63, u64, undef, u65, undef, .pointer (some ⟨R, 0, none⟩)] ?h00 (Pr.start rfl rfl hna rfl rfl HI.out.low G4.out HI.out.h4 HOX.out HOY.out HI.out.ap HI.out.h7 HI.out.gr.1 HI.out.gr.2 HI.out.gg.1 HI.out.gg.2 hGR) ?hs ?hd
        case h00 => simp only [putO, layL]
        case hs =>
          rintro listed vs Wr h i hi hun hpre
          obtain ⟨s0, s1, s2, s3, s4, s5, s6, s7, s8, s9, s10, s11, s12, s13, s14, s15, s16, s17, s18, s19, s20, s21, o0, hvs⟩ := exl_of 23 vs (fun l => vs = l) h.fs.len rfl
          subst hvs
          have hge := Nat.zero_le i
          have HF := Lib.hid h
          clear h
          simp only [putO, layL]
          rcases Nat.lt_or_ge i 11 with hlt | hgt
          · replace hi := hlt
            clear hlt
            rcases Nat.lt_or_ge i 5 with hlt | hgt
            · replace hi := hlt
              clear hlt
              rcases Nat.lt_or_ge i 2 with hlt | hgt
              · replace hi := hlt
                clear hlt
                rcases Nat.lt_or_ge i 1 with hlt | hgt
                · replace hi := hlt
                  clear hlt
                  obtain rfl := eqi hi hge
                  refine step_of ⟨some 46, _, _, _, _, _⟩ rfl (fun K' hK => ?_)
                  go_simp
                  refine hK.out _ _ ⟨_, HF.out.quiet hok hna hpre rfl (fun _ h => by cases h) (by decide) (by decide) (by decide) (by decide) (Below.refl _ _) rfl (fun h => by cases h), ?fr⟩
                  case fr => simp only [putO, layL]
                · replace hge : 1 ≤ i := hgt
                  clear hgt
                  obtain rfl := eqi hi hge
                  have p0 := hpre 0 (by kernel_rfl)
                  have e0 : s0 = .pointer (some ⟨G, 0, none⟩) := HF.out.fs.get 0 _ rfl (.inr p0)
                  subst e0
                  have hb := HF.out.blk
                  rw [if_neg (fun e => bit_off hun (HF.out.fs.back 19 1 e (by kernel_rfl)))] at hb
                  have y0 : Wr.cell? ⟨G, 0, none⟩ = some (.slice ax k cx) := Lib.cell_of_heap hb 0
                  clear hb
                  refine step_of ⟨some 47, _, _, _, _, _⟩ rfl (fun K' hK => ?_)
                  go_simp
                  refine hK.out _ _ ⟨_, HF.out.quiet hok hna hpre rfl (fun _ h => by cases h) (by decide) (by decide) (by decide) (by decide) (Below.refl _ _) rfl (fun h => by cases h), ?fr⟩
                  case fr => simp only [putO, layL]
              · replace hge : 2 ≤ i := hgt
                clear hgt
                rcases Nat.lt_or_ge i 3 with hlt | hgt
                · replace hi := hlt
                  clear hlt
                  obtain rfl := eqi hi hge
                  refine step_of ⟨some 48, _, _, _, _, _⟩ rfl (fun K' hK => ?_)
                  go_simp
                  refine hK.out _ _ ⟨_, HF.out.quiet hok hna hpre rfl (fun _ h => by cases h) (by decide) (by decide) (by decide) (by decide) (Below.refl _ _) rfl (fun h => by cases h), ?fr⟩
                  case fr => simp only [putO, layL]
                · replace hge : 3 ≤ i := hgt
                  clear hgt
                  rcases Nat.lt_or_ge i 4 with hlt | hgt
                  · replace hi := hlt
                    clear hlt
                    obtain rfl := eqi hi hge
                    refine step_of ⟨some 49, _, _, _, _, _⟩ rfl (fun K' hK => ?_)
                    go_simp
                    refine hK.out _ _ ⟨_, HF.out.quiet hok hna hpre rfl (fun _ h => by cases h) (by decide) (by decide) (by decide) (by decide) (Below.refl _ _) rfl (fun h => by cases h), ?fr⟩
                    case fr => simp only [putO, layL]
                  · replace hge : 4 ≤ i := hgt
                    clear hgt
                    obtain rfl := eqi hi hge
                    have p2 := hpre 2 (by kernel_rfl)
                    have e2 : s2 = .slice (some ⟨ga, 0, none⟩) n Ca := HF.out.fs.get 2 _ rfl (.inr p2)
                    subst e2
                    have p3 := hpre 3 (by kernel_rfl)
                    have e3 : s3 = .int .i64 (k : Int) := HF.out.fs.get 3 _ rfl (.inr p3)
                    subst e3
                    refine step_of ⟨some 50, _, _, _, _, _⟩ rfl (fun K' hK => ?_)
                    go_simp
                    refine hK.out _ _ ⟨_, HF.out.quiet hok hna hpre rfl (fun _ h => by cases h) (by decide) (by decide) (by decide) (by decide) (Below.refl _ _) rfl (fun h => by cases h), ?fr⟩
                    case fr => simp only [putO, layL]
            · replace hge : 5 ≤ i := hgt
              clear hgt
              rcases Nat.lt_or_ge i 8 with hlt | hgt
              · replace hi := hlt
                clear hlt
                rcases Nat.lt_or_ge i 6 with hlt | hgt
                · replace hi := hlt
                  clear hlt
                  obtain rfl := eqi hi hge
                  have p4 := hpre 4 (by kernel_rfl)
                  have e4 : s4 = .pointer (some ⟨ga, k * 9, none⟩) := HF.out.fs.get 4 _ rfl (.inr p4)
                  subst e4
                  refine step_of ⟨some 51, _, _, _, _, _⟩ rfl (fun K' hK => ?_)
                  go_simp
                  refine hK.out _ _ ⟨_, HF.out.quiet hok hna hpre rfl (fun _ h => by cases h) (by decide) (by decide) (by decide) (by decide) (Below.refl _ _) rfl (fun h => by cases h), ?fr⟩
                  case fr => simp only [putO, layL]
                · replace hge : 6 ≤ i := hgt
                  clear hgt
                  rcases Nat.lt_or_ge i 7 with hlt | hgt
                  · replace hi := hlt
                    clear hlt
                    obtain rfl := eqi hi hge
                    have p5 := hpre 5 (by kernel_rfl)
                    have e5 : s5 = .pointer (some ⟨ga, k * 9 + 1, none⟩) := HF.out.fs.get 5 _ rfl (.inr p5)
                    subst e5
                    have z0 := cell_below HA1.out (below_none HF.out.fs.low)
                    have z1 := cell_below HA2.out (below_none HF.out.fs.low)
                    refine step_of ⟨some 52, _, _, _, _, _⟩ rfl (fun K' hK => ?_)
                    go_simp
                    refine hK.out _ _ ⟨_, HF.out.quiet hok hna hpre rfl (fun _ h => by cases h) (by decide) (by decide) (by decide) (by decide) (Below.refl _ _) rfl (fun h => by cases h), ?fr⟩
                    case fr => simp only [putO, layL]
                  · replace hge : 7 ≤ i := hgt
                    clear hgt
                    obtain rfl := eqi hi hge
                    have p6 := hpre 6 (by kernel_rfl)
                    have e6 : s6 = .agg #[.string (numS q), .string (denS q)] := HF.out.fs.get 6 _ rfl (.inr p6)
                    subst e6
                    refine step_of ⟨some 53, _, _, _, _, _⟩ rfl (fun K' hK => ?_)
                    go_simp
                    refine hK.out _ _ ⟨_, HF.out.quiet hok hna hpre rfl (fun _ h => by cases h) (by decide) (by decide) (by decide) (by decide) ((Below.refl _ _).alloc (Nat.le_refl _) _) ⟨_, rfl, HF.out.fs.low.size, heap_alloc_new Wr _⟩ (fun _ => ⟨_, rfl, Nat.le_refl _⟩), ?fr⟩
                    case fr => simp only [putO, layL]
              · replace hge : 8 ≤ i := hgt
                clear hgt
                rcases Nat.lt_or_ge i 9 with hlt | hgt
                · replace hi := hlt
                  clear hlt
                  obtain rfl := eqi hi hge
                  have p1 := hpre 1 (by kernel_rfl)
                  have e1 : s1 = .slice ax k cx := HF.out.fs.get 1 _ rfl (.inr p1)
                  subst e1
                  have p7 := hpre 7 (by kernel_rfl)
                  obtain ⟨Gr, eG, _, hGB⟩ : ∃ G, s7 = .slice (some ⟨G, 0, none⟩) 1 1 ∧ _ ≤ G ∧ Wr.heap[G]? = some (.cells #[.string (numS q), .string (denS q)] 24 (0, 0)) := HF.out.fs.get 7 _ rfl (.inr p7)
                  subst eG
                  have hoff := bit_off hun
                  have hox := HF.out.ox
                  rw [curV_off hoff, curN_off hoff, curL_off hoff] at hox
                  have hsz := HF.out.fs.low.size
                  refine step_of ⟨some 54, _, _, _, _, _⟩ rfl (fun K' hK => ?_)
                  refine step_append_apart rfl _ _ 84 rfl W.heap.size 24 i0 _ 2 32 Tryz.underlying84 hi0' hz0 hz1 hz2 rfl (by decide) (.slice ax k cx) k xs (by first | rfl | simp [Act.eval, Act.put]) hox ⟨Gr, 0, none⟩ 1 1 [.string (numS q), .string (denS q)] (by first | rfl | simp [Act.eval, Act.put]) rfl (World.news_of_block (cs := #[.string (numS q), .string (denS q)]) (t := 24) (fr := (0, 0)) hGB) (by simp [Value.oneCell']) hml (by omega) hsz ?_
                  intro v5 w5 hown5 hgrow5 hap5
                  refine hK.out _ _ ⟨v5, HF.out.appx hok hna hpre hun rfl (by decide) (by decide) (by decide) (by kernel_rfl) hown5 hgrow5 hap5, ?fr⟩
                  case fr => simp only [Act.put, putO, layL]
                · replace hge : 9 ≤ i := hgt
                  clear hgt
                  rcases Nat.lt_or_ge i 10 with hlt | hgt
                  · replace hi := hlt
                    clear hlt
                    obtain rfl := eqi hi hge
                    refine step_of ⟨some 55, _, _, _, _, _⟩ rfl (fun K' hK => ?_)
                    go_simp
                    refine hK.out _ _ ⟨_, HF.out.quiet hok hna hpre rfl (fun _ h => by cases h) (by decide) (by decide) (by decide) (by decide) (Below.refl _ _) rfl (fun h => by cases h), ?fr⟩
                    case fr => simp only [putO, layL]
                  · replace hge : 10 ≤ i := hgt
                    clear hgt
                    obtain rfl := eqi hi hge
                    have p9 := hpre 9 (by kernel_rfl)
                    have e9 : s9 = .pointer (some ⟨G, 1, none⟩) := HF.out.fs.get 9 _ rfl (.inr p9)
                    subst e9
                    have hb := HF.out.blk
                    rw [if_neg (fun e => bit_off hun (HF.out.fs.back 21 10 e (by kernel_rfl)))] at hb
                    have y0 : Wr.cell? ⟨G, 1, none⟩ = some (.slice ay k cy) := Lib.cell_of_heap hb 1
                    clear hb
                    refine step_of ⟨some 56, _, _, _, _, _⟩ rfl (fun K' hK => ?_)
                    go_simp
                    refine hK.out _ _ ⟨_, HF.out.quiet hok hna hpre rfl (fun _ h => by cases h) (by decide) (by decide) (by decide) (by decide) (Below.refl _ _) rfl (fun h => by cases h), ?fr⟩
                    case fr => simp only [putO, layL]
          · replace hge : 11 ≤ i := hgt
            clear hgt
            rcases Nat.lt_or_ge i 16 with hlt | hgt
            · replace hi := hlt
              clear hlt
              rcases Nat.lt_or_ge i 13 with hlt | hgt
              · replace hi := hlt
                clear hlt
                rcases Nat.lt_or_ge i 12 with hlt | hgt
                · replace hi := hlt
                  clear hlt
                  obtain rfl := eqi hi hge
                  refine step_of ⟨some 57, _, _, _, _, _⟩ rfl (fun K' hK => ?_)
                  go_simp
                  refine hK.out _ _ ⟨_, HF.out.quiet hok hna hpre rfl (fun _ h => by cases h) (by decide) (by decide) (by decide) (by decide) (Below.refl _ _) rfl (fun h => by cases h), ?fr⟩
                  case fr => simp only [putO, layL]
                · replace hge : 12 ≤ i := hgt
                  clear hgt
                  obtain rfl := eqi hi hge
                  refine step_of ⟨some 58, _, _, _, _, _⟩ rfl (fun K' hK => ?_)
                  go_simp
                  refine hK.out _ _ ⟨_, HF.out.quiet hok hna hpre rfl (fun _ h => by cases h) (by decide) (by decide) (by decide) (by decide) (Below.refl _ _) rfl (fun h => by cases h), ?fr⟩
                  case fr => simp only [putO, layL]
              · replace hge : 13 ≤ i := hgt
                clear hgt
                rcases Nat.lt_or_ge i 14 with hlt | hgt
                · replace hi := hlt
                  clear hlt
                  obtain rfl := eqi hi hge
                  have p11 := hpre 11 (by kernel_rfl)
                  have e11 : s11 = .slice (some ⟨gb, 0, none⟩) n Cb := HF.out.fs.get 11 _ rfl (.inr p11)
                  subst e11
                  have p12 := hpre 12 (by kernel_rfl)
                  have e12 : s12 = .int .i64 (k : Int) := HF.out.fs.get 12 _ rfl (.inr p12)
                  subst e12
                  refine step_of ⟨some 59, _, _, _, _, _⟩ rfl (fun K' hK => ?_)
                  go_simp
                  refine hK.out _ _ ⟨_, HF.out.quiet hok hna hpre rfl (fun _ h => by cases h) (by decide) (by decide) (by decide) (by decide) (Below.refl _ _) rfl (fun h => by cases h), ?fr⟩
                  case fr => simp only [putO, layL]
                · replace hge : 14 ≤ i := hgt
                  clear hgt
                  rcases Nat.lt_or_ge i 15 with hlt | hgt
                  · replace hi := hlt
                    clear hlt
                    obtain rfl := eqi hi hge
                    have p13 := hpre 13 (by kernel_rfl)
                    have e13 : s13 = .pointer (some ⟨gb, k * 9, none⟩) := HF.out.fs.get 13 _ rfl (.inr p13)
                    subst e13
                    refine step_of ⟨some 60, _, _, _, _, _⟩ rfl (fun K' hK => ?_)
                    go_simp
                    refine hK.out _ _ ⟨_, HF.out.quiet hok hna hpre rfl (fun _ h => by cases h) (by decide) (by decide) (by decide) (by decide) (Below.refl _ _) rfl (fun h => by cases h), ?fr⟩
                    case fr => simp only [putO, layL]
                  · replace hge : 15 ≤ i := hgt
                    clear hgt
                    obtain rfl := eqi hi hge
                    have p14 := hpre 14 (by kernel_rfl)
                    have e14 : s14 = .pointer (some ⟨gb, k * 9 + 1, none⟩) := HF.out.fs.get 14 _ rfl (.inr p14)
                    subst e14
                    have z0 := cell_below HB1.out (below_none HF.out.fs.low)
                    have z1 := cell_below HB2.out (below_none HF.out.fs.low)
                    refine step_of ⟨some 61, _, _, _, _, _⟩ rfl (fun K' hK => ?_)
                    go_simp
                    refine hK.out _ _ ⟨_, HF.out.quiet hok hna hpre rfl (fun _ h => by cases h) (by decide) (by decide) (by decide) (by decide) (Below.refl _ _) rfl (fun h => by cases h), ?fr⟩
                    case fr => simp only [putO, layL]
            · replace hge : 16 ≤ i := hgt
              clear hgt
              rcases Nat.lt_or_ge i 19 with hlt | hgt
              · replace hi := hlt
                clear hlt
                rcases Nat.lt_or_ge i 17 with hlt | hgt
                · replace hi := hlt
                  clear hlt
                  obtain rfl := eqi hi hge
                  have p15 := hpre 15 (by kernel_rfl)
                  have e15 : s15 = .agg #[.string (numS p), .string (denS p)] := HF.out.fs.get 15 _ rfl (.inr p15)
                  subst e15
                  refine step_of ⟨some 62, _, _, _, _, _⟩ rfl (fun K' hK => ?_)
                  go_simp
                  refine hK.out _ _ ⟨_, HF.out.quiet hok hna hpre rfl (fun _ h => by cases h) (by decide) (by decide) (by decide) (by decide) ((Below.refl _ _).alloc (Nat.le_refl _) _) ⟨_, rfl, HF.out.fs.low.size, heap_alloc_new Wr _⟩ (fun _ => ⟨_, rfl, Nat.le_refl _⟩), ?fr⟩
                  case fr => simp only [putO, layL]
                · replace hge : 17 ≤ i := hgt
                  clear hgt
                  rcases Nat.lt_or_ge i 18 with hlt | hgt
                  · replace hi := hlt
                    clear hlt
                    obtain rfl := eqi hi hge
                    have p10 := hpre 10 (by kernel_rfl)
                    have e10 : s10 = .slice ay k cy := HF.out.fs.get 10 _ rfl (.inr p10)
                    subst e10
                    have p16 := hpre 16 (by kernel_rfl)
                    obtain ⟨Gr, eG, _, hGB⟩ : ∃ G, s16 = .slice (some ⟨G, 0, none⟩) 1 1 ∧ _ ≤ G ∧ Wr.heap[G]? = some (.cells #[.string (numS p), .string (denS p)] 24 (0, 0)) := HF.out.fs.get 16 _ rfl (.inr p16)
                    subst eG
                    have hoff := bit_off hun
                    have hox := HF.out.oy
                    rw [curV_off hoff, curN_off hoff, curL_off hoff] at hox
                    have hsz := HF.out.fs.low.size
                    refine step_of ⟨some 63, _, _, _, _, _⟩ rfl (fun K' hK => ?_)
                    refine step_append_apart rfl _ _ 84 rfl W.heap.size 24 i0 _ 2 32 Tryz.underlying84 hi0' hz0 hz1 hz2 rfl (by decide) (.slice ay k cy) k ys (by first | rfl | simp [Act.eval, Act.put]) hox ⟨Gr, 0, none⟩ 1 1 [.string (numS p), .string (denS p)] (by first | rfl | simp [Act.eval, Act.put]) rfl (World.news_of_block (cs := #[.string (numS p), .string (denS p)]) (t := 24) (fr := (0, 0)) hGB) (by simp [Value.oneCell']) hml (by omega) hsz ?_
                    intro v5 w5 hown5 hgrow5 hap5
                    refine hK.out _ _ ⟨v5, HF.out.appy hok hna hpre hun rfl (by decide) (by decide) (by decide) (by kernel_rfl) hown5 hgrow5 hap5, ?fr⟩
                    case fr => simp only [Act.put, putO, layL]
                  · replace hge : 18 ≤ i := hgt
                    clear hgt
                    obtain rfl := eqi hi hge
                    refine step_of ⟨some 64, _, _, _, _, _⟩ rfl (fun K' hK => ?_)
                    go_simp
                    refine hK.out _ _ ⟨_, HF.out.quiet hok hna hpre rfl (fun _ h => by cases h) (by decide) (by decide) (by decide) (by decide) (Below.refl _ _) rfl (fun h => by cases h), ?fr⟩
                    case fr => simp only [putO, layL]
              · replace hge : 19 ≤ i := hgt
                clear hgt
                rcases Nat.lt_or_ge i 20 with hlt | hgt
                · replace hi := hlt
                  clear hlt
                  obtain rfl := eqi hi hge
                  have p18 := hpre 18 (by kernel_rfl)
                  have e18 : s18 = .pointer (some ⟨G, 0, none⟩) := HF.out.fs.get 18 _ rfl (.inr p18)
                  subst e18
                  have p8 := hpre 8 (by kernel_rfl)
                  have ho := HF.out.ox
                  rw [curV_on p8, curN_on p8] at ho
                  obtain ⟨av8, cv8, hu8⟩ := owns_form ho
                  replace hu8 : s8 = .slice av8 (k + 1) cv8 := hu8
                  subst hu8
                  clear ho
                  have y0 : ∃ v, Wr.cell? ⟨G, 0, none⟩ = some v := ⟨_, Lib.cell_of_heap HF.out.blk 0⟩
                  obtain ⟨y, y0⟩ := y0
                  have g0 : Wr.frozen? ⟨G, 0, none⟩ = false := by rw [Lib.frozen_of_heap HF.out.blk 0]
                  refine step_of ⟨none, _, _, _, _, _⟩ rfl (fun K' hK => ?_)
                  go_simp
                  refine hK.out _ _ ⟨undef, HF.out.stox hok hna hpre hun rfl (by decide) (by decide) (by decide) hG7 undef (u8 := .slice av8 (k + 1) cv8) rfl, ?fr⟩
                  case fr => simp only [putO, layL]
                · replace hge : 20 ≤ i := hgt
                  clear hgt
                  rcases Nat.lt_or_ge i 21 with hlt | hgt
                  · replace hi := hlt
                    clear hlt
                    obtain rfl := eqi hi hge
                    refine step_of ⟨some 65, _, _, _, _, _⟩ rfl (fun K' hK => ?_)
                    go_simp
                    refine hK.out _ _ ⟨_, HF.out.quiet hok hna hpre rfl (fun _ h => by cases h) (by decide) (by decide) (by decide) (by decide) (Below.refl _ _) rfl (fun h => by cases h), ?fr⟩
                    case fr => simp only [putO, layL]
                  · replace hge : 21 ≤ i := hgt
                    clear hgt
                    obtain rfl := eqi hi hge
                    have p20 := hpre 20 (by kernel_rfl)
                    have e20 : s20 = .pointer (some ⟨G, 1, none⟩) := HF.out.fs.get 20 _ rfl (.inr p20)
                    subst e20
                    have p17 := hpre 17 (by kernel_rfl)
                    have ho := HF.out.oy
                    rw [curV_on p17, curN_on p17] at ho
                    obtain ⟨av8, cv8, hu8⟩ := owns_form ho
                    replace hu8 : s17 = .slice av8 (k + 1) cv8 := hu8
                    subst hu8
                    clear ho
                    have y0 : ∃ v, Wr.cell? ⟨G, 1, none⟩ = some v := ⟨_, Lib.cell_of_heap HF.out.blk 1⟩
                    obtain ⟨y, y0⟩ := y0
                    have g0 : Wr.frozen? ⟨G, 1, none⟩ = false := by rw [Lib.frozen_of_heap HF.out.blk 1]
                    refine step_of ⟨none, _, _, _, _, _⟩ rfl (fun K' hK => ?_)
                    go_simp
                    refine hK.out _ _ ⟨undef, HF.out.stoy hok hna hpre hun rfl (by decide) (by decide) (by decide) hG7 undef (u8 := .slice av8 (k + 1) cv8) rfl, ?fr⟩
                    case fr => simp only [putO, layL]
        case hd =>
          rintro listed vs WB h hall
          obtain ⟨s0, s1, s2, s3, s4, s5, s6, s7, s8, s9, s10, s11, s12, s13, s14, s15, s16, s17, s18, s19, s20, s21, o0, hvs⟩ := exl_of 23 vs (fun l => vs = l) h.fs.len rfl
          subst hvs
          obtain ⟨ox, oy, ap, hb, gg, gr, hr, low⟩ := h.done hall rfl (by decide) (by decide) (by decide) (by decide)
          have HI2 := Lib.hid (show RdI W R G qa qb (k + 1) s8 s17 WB from ⟨hr, hb, by rw [HTA.out]; exact ox, by rw [HTB.out]; exact oy, ap, gg, gr, low⟩)
          clear h hall hok hna ox oy ap hb gg gr hr low
          simp only [putO, layL]
          go_wp2
          go_roundg (n - (k + 1))
          case measure => omega
          case rel => exact ⟨k + 1, s8, s17, by go_num, by omega, by omega, HI2.out⟩
      · have hdd : decide ((k : Int) < (n : Int)) = false := decide_eq_false (by omega)
        have hdd2 : decide (k < n) = false := decide_eq_false hlt
        have hkn : k = n := by omega
        subst hkn
        have OX := HI.out.ox
        have OY := HI.out.oy
        rw [show qa.take k = qa by rw [← HQA.out, List.take_length]] at OX
        rw [show qb.take k = qb by rw [← HQB.out, List.take_length]] at OY
        obtain ⟨g1, c1, u1, ex, hg1, hx1, hc1⟩ := own_row OX HQA.out H0.out
        obtain ⟨g2, c2, u2, ey, hg2, hx2, hc2⟩ := own_row OY HQB.out H0.out
        subst ex
        subst ey
        have HX := Lib.hid hx1
        have HY := Lib.hid hx2
        have HC1 := Lib.hid hc1
        have HC2 := Lib.hid hc2
        have GX := Lib.hid hg1
        have GY := Lib.hid hg2
        have LX_7 : Hid (g1 ≠ G) := Lib.hid (fun e => HI.out.gg.1 (by rw [e]; rfl))
        have LY_7 : Hid (g2 ≠ G) := Lib.hid (fun e => HI.out.gg.2 (by rw [e]; rfl))
        have LX_4 : Hid (g1 ≠ R) := Lib.hid (fun e => HI.out.gr.1 (by rw [e]; rfl))
        have LY_4 : Hid (g2 ≠ R) := Lib.hid (fun e => HI.out.gr.2 (by rw [e]; rfl))
        have LY_X : Hid (g2 ≠ g1) := Lib.hid (by
          rcases HI.out.ap with e | e | e
          · cases e
          · cases e
          · exact fun h => e (by rw [h]; rfl))
        have H4 := Lib.hid HI.out.h4
        have H7 := Lib.hid HI.out.h7
        have HG := Lib.hid HI.out.low
        have HE := Lib.hid (HE0.out.below HI.out.low)
        clear HI OX OY hg1 hg2 hx1 hx2 hc1 hc2 hlt
        obtain ⟨⟨x7_0, x7_1, x7_2, x7_3, x7_4, x7_5, x7_6, x7_7, x7_8, x7_9, x7_10, x7_11⟩, x7_f0, x7_f1, x7_f2, x7_f3, x7_f4, x7_f5, x7_f6, x7_f7, x7_f8, x7_f9, x7_f10, x7_f11⟩ := twelve_at H7.out
        go_wp2_with fail
        refine (stop_no 1 _).mono ?_
        clear x7_0 x7_1 x7_2 x7_3 x7_4 x7_5 x7_6 x7_7 x7_8 x7_9 x7_10 x7_11 x7_f0 x7_f1 x7_f2 x7_f3 x7_f4 x7_f5 x7_f6 x7_f7 x7_f8 x7_f9 x7_f10 x7_f11
        rintro e w4 ⟨rfl, hws⟩
        replace hws := hws.symm
        subst hws
        have lt_4 := Lib.hid (heap_lt H4.out)
        have lt_7 := Lib.hid (heap_lt H7.out)
        have lt_X := Lib.hid (heap_lt HX.out)
        have lt_Y := Lib.hid (heap_lt HY.out)
        have geW := Lib.hid HG.out.size
        go_wp2_with fail
        have hok : okB 10 (read_walkKs13 mx my k G g1 g2 c1 c2) = true := by kernel_rfl
        have hna := noAny_of (ks := (read_walkKs13 mx my k G g1 g2 c1 c2)) (by kernel_rfl)
        have hla := lasts_of hna
        refine wp_region_facts_tail (row := none) (w := wr) 7 3 10 [7, 8, 9] (read_walkKs13 mx my k G g1 g2 c1 c2) [some 72, some 73, some 74, some 75, some 76, some 77, some 78, none, some 79, none] (by kernel_rfl) (by kernel_rfl) (by kernel_rfl) rfl rfl (by decide) rfl [undef, undef, undef, undef, undef, undef, undef, undef, undef, undef] ?h00 (Fs.start rfl rfl) ?hs ?hd
        case h00 => simp only [putO, layL]
        case hs =>
          rintro listed vs Wr hF i hi hun hpre
          obtain ⟨s0, s1, s2, s3, s4, s5, s6, s7, s8, s9, hvs⟩ := exl_of 10 vs (fun l => vs = l) hF.len rfl
          subst hvs
          have hge := Nat.zero_le i
          simp only [putO, layL]
          rcases Nat.lt_or_ge i 3 with hlt | hgt
          · replace hi := hlt
            clear hlt
            rcases Nat.lt_or_ge i 1 with hlt | hgt
            · replace hi := hlt
              clear hlt
              obtain rfl := eqi hi hge
              refine step_of ⟨some 72, _, _, _, _, _⟩ rfl (fun K' hK => ?_)
              go_simp
              refine hK.out _ _ ⟨_, hF.pure hok hla hpre rfl (Below.refl _ _), ?fr⟩
              case fr => simp only [putO, layL]
            · replace hge : 1 ≤ i := hgt
              clear hgt
              rcases Nat.lt_or_ge i 2 with hlt | hgt
              · replace hi := hlt
                clear hlt
                obtain rfl := eqi hi hge
                have p0 := hpre 0 (by kernel_rfl)
                have e0 : s0 = .pointer (some ⟨G, 0, none⟩) := hF.get 0 _ rfl (.inr p0)
                subst e0
                have hcc := (twelve_at (keep_block H7.out (below_none hF.low))).1
                have cH70 := hcc.1
                have cH71 := hcc.2.1
                have cH72 := hcc.2.2.1
                have cH73 := hcc.2.2.2.1
                have cH74 := hcc.2.2.2.2.1
                have cH75 := hcc.2.2.2.2.2.1
                have cH76 := hcc.2.2.2.2.2.2.1
                have cH77 := hcc.2.2.2.2.2.2.2.1
                have cH78 := hcc.2.2.2.2.2.2.2.2.1
                have cH79 := hcc.2.2.2.2.2.2.2.2.2.1
                have cH710 := hcc.2.2.2.2.2.2.2.2.2.2.1
                have cH711 := hcc.2.2.2.2.2.2.2.2.2.2.2
                clear hcc
                refine step_of ⟨some 73, _, _, _, _, _⟩ rfl (fun K' hK => ?_)
                go_simp
                refine hK.out _ _ ⟨_, hF.pure hok hla hpre rfl (Below.refl _ _), ?fr⟩
                case fr => simp only [putO, layL]
              · replace hge : 2 ≤ i := hgt
                clear hgt
                obtain rfl := eqi hi hge
                have p1 := hpre 1 (by kernel_rfl)
                have e1 : s1 = .slice (some ⟨g1, 0, none⟩) k c1 := hF.get 1 _ rfl (.inr p1)
                subst e1
                have hfr := frow_of (keep_block HX.out (below_none hF.low)) HC1.out
                refine step_of ⟨some 74, _, _, _, _, _⟩ rfl (fun K' hK => ?_)
                go_simp
                go_at_call 163
                (with_reducible refine (QMA.out _ g1 c1 hfr (HE.out.below (below_none hF.low))).mono ?_)
                rintro e Wq ⟨rfl, hq⟩
                refine hK.out _ _ ⟨_, hF.pure hok hla hpre rfl hq, ?fr⟩
                case fr => simp only [putO, layL]
          · replace hge : 3 ≤ i := hgt
            clear hgt
            rcases Nat.lt_or_ge i 5 with hlt | hgt
            · replace hi := hlt
              clear hlt
              rcases Nat.lt_or_ge i 4 with hlt | hgt
              · replace hi := hlt
                clear hlt
                obtain rfl := eqi hi hge
                refine step_of ⟨some 75, _, _, _, _, _⟩ rfl (fun K' hK => ?_)
                go_simp
                refine hK.out _ _ ⟨_, hF.pure hok hla hpre rfl (Below.refl _ _), ?fr⟩
                case fr => simp only [putO, layL]
              · replace hge : 4 ≤ i := hgt
                clear hgt
                obtain rfl := eqi hi hge
                have p3 := hpre 3 (by kernel_rfl)
                have e3 : s3 = .pointer (some ⟨G, 1, none⟩) := hF.get 3 _ rfl (.inr p3)
                subst e3
                have hcc := (twelve_at (keep_block H7.out (below_none hF.low))).1
                have cH70 := hcc.1
                have cH71 := hcc.2.1
                have cH72 := hcc.2.2.1
                have cH73 := hcc.2.2.2.1
                have cH74 := hcc.2.2.2.2.1
                have cH75 := hcc.2.2.2.2.2.1
                have cH76 := hcc.2.2.2.2.2.2.1
                have cH77 := hcc.2.2.2.2.2.2.2.1
                have cH78 := hcc.2.2.2.2.2.2.2.2.1
                have cH79 := hcc.2.2.2.2.2.2.2.2.2.1
                have cH710 := hcc.2.2.2.2.2.2.2.2.2.2.1
                have cH711 := hcc.2.2.2.2.2.2.2.2.2.2.2
                clear hcc
                refine step_of ⟨some 76, _, _, _, _, _⟩ rfl (fun K' hK => ?_)
                go_simp
                refine hK.out _ _ ⟨_, hF.pure hok hla hpre rfl (Below.refl _ _), ?fr⟩
                case fr => simp only [putO, layL]
            · replace hge : 5 ≤ i := hgt
              clear hgt
              rcases Nat.lt_or_ge i 6 with hlt | hgt
              · replace hi := hlt
                clear hlt
                obtain rfl := eqi hi hge
                have p4 := hpre 4 (by kernel_rfl)
                have e4 : s4 = .slice (some ⟨g2, 0, none⟩) k c2 := hF.get 4 _ rfl (.inr p4)
                subst e4
                have hfr := frow_of (keep_block HY.out (below_none hF.low)) HC2.out
                refine step_of ⟨some 77, _, _, _, _, _⟩ rfl (fun K' hK => ?_)
                go_simp
                go_at_call 163
                (with_reducible refine (QMB.out _ g2 c2 hfr (HE.out.below (below_none hF.low))).mono ?_)
                rintro e Wq ⟨rfl, hq⟩
                refine hK.out _ _ ⟨_, hF.pure hok hla hpre rfl hq, ?fr⟩
                case fr => simp only [putO, layL]
              · replace hge : 6 ≤ i := hgt
                clear hgt
                obtain rfl := eqi hi hge
                refine step_of ⟨some 78, _, _, _, _, _⟩ rfl (fun K' hK => ?_)
                go_simp
                refine hK.out _ _ ⟨_, hF.pure hok hla hpre rfl (Below.refl _ _), ?fr⟩
                case fr => simp only [putO, layL]
        case hd =>
          rintro listed vs WC hF hall
          obtain ⟨s0, s1, s2, s3, s4, s5, s6, s7, s8, s9, hvs⟩ := exl_of 10 vs (fun l => vs = l) hF.len rfl
          subst hvs
          have e2 : s2 = .agg #[.string (numS mx), .string (denS mx)] := hF.get 2 _ rfl (.inr (hall 2 (by decide)))
          subst e2
          have e5 : s5 = .agg #[.string (numS my), .string (denS my)] := hF.get 5 _ rfl (.inr (hall 5 (by decide)))
          subst e5
          have e6 : s6 = .pointer (some ⟨G, 2, none⟩) := hF.get 6 _ rfl (.inr (hall 6 (by decide)))
          subst e6
          have hq := below_none hF.low
          replace H4 := Lib.hid (keep_block H4.out hq)
          replace H7 := Lib.hid (keep_block H7.out hq)
          replace HX := Lib.hid (keep_block HX.out hq)
          replace HY := Lib.hid (keep_block HY.out hq)
          replace HE := Lib.hid (HE.out.below hq)
          replace HG := Lib.hid (HG.out.trans (hq.mono HG.out.size))
          clear hq
          clear hF hall hok hna hla
          simp only [putO, layL]
          clear geW lt_4 lt_7 lt_X lt_Y
          obtain ⟨⟨x7_0, x7_1, x7_2, x7_3, x7_4, x7_5, x7_6, x7_7, x7_8, x7_9, x7_10, x7_11⟩, x7_f0, x7_f1, x7_f2, x7_f3, x7_f4, x7_f5, x7_f6, x7_f7, x7_f8, x7_f9, x7_f10, x7_f11⟩ := twelve_at H7.out
          refine rest_one 7 ⟨none, _, _, _, _, _⟩ rfl (by kernel_rfl) rfl (fun K' hK => ?_)
          go_simp
          refine hK.out _ _ ?_
          clear x7_0 x7_1 x7_2 x7_3 x7_4 x7_5 x7_6 x7_7 x7_8 x7_9 x7_10 x7_11 x7_f0 x7_f1 x7_f2 x7_f3 x7_f4 x7_f5 x7_f6 x7_f7 x7_f8 x7_f9 x7_f10 x7_f11
          have k4 : ((WC.setCell ⟨G, 2, none⟩ (.string (numS mx))).setCell ⟨G, 3, none⟩ (.string (denS mx))).heap[R]? = some (.cells #[.slice none 0 0, .slice none 0 0, .string { data := #[] }, .string { data := #[] }, .string { data := #[] }, .string { data := #[] }, .string { data := #[] }, .string { data := #[] }, .string { data := #[] }, .string { data := #[] }, .string { data := #[] }, .string { data := #[] }] 147 (0, 0)) := (Below.heap_setCell _ ⟨G, 3, none⟩ _ _ (show R ≠ G from by have := L7_4.out; omega)).trans ((Below.heap_setCell _ ⟨G, 2, none⟩ _ _ (show R ≠ G from by have := L7_4.out; omega)).trans H4.out)
          have kX : ((WC.setCell ⟨G, 2, none⟩ (.string (numS mx))).setCell ⟨G, 3, none⟩ (.string (denS mx))).heap[g1]? = some (.cells u1 24 (0, 0)) := (Below.heap_setCell _ ⟨G, 3, none⟩ _ _ (show g1 ≠ G from by have := LX_7.out; omega)).trans ((Below.heap_setCell _ ⟨G, 2, none⟩ _ _ (show g1 ≠ G from by have := LX_7.out; omega)).trans HX.out)
          have kY : ((WC.setCell ⟨G, 2, none⟩ (.string (numS mx))).setCell ⟨G, 3, none⟩ (.string (denS mx))).heap[g2]? = some (.cells u2 24 (0, 0)) := (Below.heap_setCell _ ⟨G, 3, none⟩ _ _ (show g2 ≠ G from by have := LY_7.out; omega)).trans ((Below.heap_setCell _ ⟨G, 2, none⟩ _ _ (show g2 ≠ G from by have := LY_7.out; omega)).trans HY.out)
          have knew : ((WC.setCell ⟨G, 2, none⟩ (.string (numS mx))).setCell ⟨G, 3, none⟩ (.string (denS mx))).heap[G]? = some (.cells #[.slice (some ⟨g1, 0, none⟩) k c1, .slice (some ⟨g2, 0, none⟩) k c2, .string (numS mx), .string (denS mx), .string { data := #[] }, .string { data := #[] }, .string { data := #[] }, .string { data := #[] }, .string { data := #[] }, .string { data := #[] }, .string { data := #[] }, .string { data := #[] }] 147 (0, 0)) := heap_setCell_at (heap_setCell_at H7.out 2 (.string (numS mx))) 3 (.string (denS mx))
          have kgr : Below W.heap.size W ((WC.setCell ⟨G, 2, none⟩ (.string (numS mx))).setCell ⟨G, 3, none⟩ (.string (denS mx))) := (HG.out.setCell (p := ⟨G, 2, none⟩) (show W.heap.size ≤ G from G7.out) _).setCell (p := ⟨G, 3, none⟩) (show W.heap.size ≤ G from G7.out) _
          obtain ⟨WS4, hW⟩ : ∃ Z, ((WC.setCell ⟨G, 2, none⟩ (.string (numS mx))).setCell ⟨G, 3, none⟩ (.string (denS mx))) = Z := ⟨_, rfl⟩
          rw [hW] at knew kgr k4 kX kY
          rw [hW]
          replace H7 := Lib.hid knew
          replace HG := Lib.hid kgr
          replace HE := Lib.hid (HE0.out.below kgr)
          replace H4 := Lib.hid k4
          replace HX := Lib.hid kX
          replace HY := Lib.hid kY
          clear hW knew kgr k4 kX kY
          refine rest_one 8 ⟨some 79, _, _, _, _, _⟩ rfl (by kernel_rfl) rfl (fun K' hK => ?_)
          go_simp
          refine hK.out _ _ ?_
          obtain ⟨⟨x7_0, x7_1, x7_2, x7_3, x7_4, x7_5, x7_6, x7_7, x7_8, x7_9, x7_10, x7_11⟩, x7_f0, x7_f1, x7_f2, x7_f3, x7_f4, x7_f5, x7_f6, x7_f7, x7_f8, x7_f9, x7_f10, x7_f11⟩ := twelve_at H7.out
          refine rest_one 9 ⟨none, _, _, _, _, _⟩ rfl (by kernel_rfl) rfl (fun K' hK => ?_)
          go_simp
          refine hK.out _ _ ?_
          clear x7_0 x7_1 x7_2 x7_3 x7_4 x7_5 x7_6 x7_7 x7_8 x7_9 x7_10 x7_11 x7_f0 x7_f1 x7_f2 x7_f3 x7_f4 x7_f5 x7_f6 x7_f7 x7_f8 x7_f9 x7_f10 x7_f11
          have k4 : ((WS4.setCell ⟨G, 4, none⟩ (.string (numS my))).setCell ⟨G, 5, none⟩ (.string (denS my))).heap[R]? = some (.cells #[.slice none 0 0, .slice none 0 0, .string { data := #[] }, .string { data := #[] }, .string { data := #[] }, .string { data := #[] }, .string { data := #[] }, .string { data := #[] }, .string { data := #[] }, .string { data := #[] }, .string { data := #[] }, .string { data := #[] }] 147 (0, 0)) := (Below.heap_setCell _ ⟨G, 5, none⟩ _ _ (show R ≠ G from by have := L7_4.out; omega)).trans ((Below.heap_setCell _ ⟨G, 4, none⟩ _ _ (show R ≠ G from by have := L7_4.out; omega)).trans H4.out)
          have kX : ((WS4.setCell ⟨G, 4, none⟩ (.string (numS my))).setCell ⟨G, 5, none⟩ (.string (denS my))).heap[g1]? = some (.cells u1 24 (0, 0)) := (Below.heap_setCell _ ⟨G, 5, none⟩ _ _ (show g1 ≠ G from by have := LX_7.out; omega)).trans ((Below.heap_setCell _ ⟨G, 4, none⟩ _ _ (show g1 ≠ G from by have := LX_7.out; omega)).trans HX.out)
          have kY : ((WS4.setCell ⟨G, 4, none⟩ (.string (numS my))).setCell ⟨G, 5, none⟩ (.string (denS my))).heap[g2]? = some (.cells u2 24 (0, 0)) := (Below.heap_setCell _ ⟨G, 5, none⟩ _ _ (show g2 ≠ G from by have := LY_7.out; omega)).trans ((Below.heap_setCell _ ⟨G, 4, none⟩ _ _ (show g2 ≠ G from by have := LY_7.out; omega)).trans HY.out)
          have knew : ((WS4.setCell ⟨G, 4, none⟩ (.string (numS my))).setCell ⟨G, 5, none⟩ (.string (denS my))).heap[G]? = some (.cells #[.slice (some ⟨g1, 0, none⟩) k c1, .slice (some ⟨g2, 0, none⟩) k c2, .string (numS mx), .string (denS mx), .string (numS my), .string (denS my), .string { data := #[] }, .string { data := #[] }, .string { data := #[] }, .string { data := #[] }, .string { data := #[] }, .string { data := #[] }] 147 (0, 0)) := heap_setCell_at (heap_setCell_at H7.out 4 (.string (numS my))) 5 (.string (denS my))
          have kgr : Below W.heap.size W ((WS4.setCell ⟨G, 4, none⟩ (.string (numS my))).setCell ⟨G, 5, none⟩ (.string (denS my))) := (HG.out.setCell (p := ⟨G, 4, none⟩) (show W.heap.size ≤ G from G7.out) _).setCell (p := ⟨G, 5, none⟩) (show W.heap.size ≤ G from G7.out) _
          obtain ⟨WS5, hW⟩ : ∃ Z, ((WS4.setCell ⟨G, 4, none⟩ (.string (numS my))).setCell ⟨G, 5, none⟩ (.string (denS my))) = Z := ⟨_, rfl⟩
          rw [hW] at knew kgr k4 kX kY
          rw [hW]
          replace H7 := Lib.hid knew
          replace HG := Lib.hid kgr
          replace HE := Lib.hid (HE0.out.below kgr)
          replace H4 := Lib.hid k4
          replace HX := Lib.hid kX
          replace HY := Lib.hid kY
          clear hW knew kgr k4 kX kY
          refine rest_end ?_
          go_wp2_with fail
          refine (Q0.out _ HE.out).mono ?_
          rintro e w5 ⟨rfl, hb⟩
          replace H4 := Lib.hid (keep_block H4.out hb)
          replace H7 := Lib.hid (keep_block H7.out hb)
          replace HX := Lib.hid (keep_block HX.out hb)
          replace HY := Lib.hid (keep_block HY.out hb)
          replace HE := Lib.hid (HE.out.below hb)
          replace HG := Lib.hid (HG.out.trans (hb.mono HG.out.size))
          clear hb
          have lt_4 := heap_lt H4.out
          have lt_7 := heap_lt H7.out
          have lt_X := heap_lt HX.out
          have lt_Y := heap_lt HY.out
          have geW := HG.out.size
          have L9_4 : Hid (R < w5.heap.size) := Lib.hid (by omega)
          have L9_7 : Hid (G < w5.heap.size) := Lib.hid (by omega)
          have L9_X : Hid (g1 < w5.heap.size) := Lib.hid (by omega)
          have L9_Y : Hid (g2 < w5.heap.size) := Lib.hid (by omega)
          have G9 : Hid (W.heap.size ≤ w5.heap.size) := Lib.hid (by omega)
          have hb : Below w5.heap.size w5 (w5.alloc (.cells #[.string (numS z), .string (denS z)] 24)) := (Below.refl _ _).alloc (Nat.le_refl _) _
          replace H4 := Lib.hid (keep_block H4.out hb)
          replace H7 := Lib.hid (keep_block H7.out hb)
          replace HX := Lib.hid (keep_block HX.out hb)
          replace HY := Lib.hid (keep_block HY.out hb)
          replace HE := Lib.hid (HE.out.below hb)
          replace HG := Lib.hid (HG.out.trans (hb.mono HG.out.size))
          have H9 := Lib.hid (heap_alloc_new w5 (.cells #[.string (numS z), .string (denS z)] 24))
          clear hb
          clear geW lt_4 lt_7 lt_X lt_Y
          obtain ⟨WL6, hWL6⟩ : ∃ Z, (w5.alloc (.cells #[.string (numS z), .string (denS z)] 24)) = Z := ⟨_, rfl⟩
          rw [hWL6] at HE HG H4 H7 HX HY H9
          have EWL6 := Lib.hid hWL6
          clear hWL6
          go_wp2_with fail
          rw [EWL6.out]
          have := L7_4.out
          have := L9_7.out
          have := L9_4.out
          have := L9_X.out
          have := L9_Y.out
          have := LX_7.out
          have := LX_4.out
          have := LY_7.out
          have := LY_4.out
          have := LY_X.out
          have := HG.out.size
          have := G7.out
          have := G9.out
          have := G4.out
          have := GX.out
          have := GY.out
          have hok : okB 9 (read_walkKs15 z mx my k G R g1 g2 c1 c2 u1 u2 w5) = true := by kernel_rfl
          have hna := noAny1_of (ks := (read_walkKs15 z mx my k G R g1 g2 c1 c2 u1 u2 w5)) (by kernel_rfl)
          have hla := lasts_of' hna
          refine wp_region_facts (row := none) (w := W) 9 (read_walkKs15 z mx my k G R g1 g2 c1 c2 u1 u2 w5) [some 81, some 82, some 83, some 84, none, some 85, none, some 86, none] (by kernel_rfl) (by kernel_rfl) rfl [undef, undef, undef, undef, undef, undef, undef, undef, undef, .pointer (some ⟨G, 0, none⟩), .pointer (some ⟨w5.heap.size, 0, none⟩), .pointer (some ⟨R, 0, none⟩), .pointer (some ⟨g1, 0, none⟩), .pointer (some ⟨g2, 0, none⟩)] ?h00 (Fs.start_olds hla rfl (only_of_below HG.out none) ⟨⟨_, rfl, fun _ h => Option.some.inj h, by omega, (by rw [mix_empty]; exact H7.out)⟩, fun _ => ⟨fun _ => far_of (by omega), fun _ => far_of (by omega), fun _ => far_of (by omega), fun _ => far_of (by omega), trivial⟩, ⟨⟨_, rfl, fun _ h => Option.some.inj h, by omega, H9.out⟩, fun _ => ⟨fun _ => far_of (by omega), fun _ => far_of (by omega), fun _ => far_of (by omega), trivial⟩, ⟨⟨_, rfl, fun _ h => Option.some.inj h, by omega, H4.out⟩, fun _ => ⟨fun _ => far_of (by omega), fun _ => far_of (by omega), trivial⟩, ⟨⟨_, rfl, fun _ h => Option.some.inj h, by omega, HX.out⟩, fun _ => ⟨fun _ => far_of (by omega), trivial⟩, ⟨⟨_, rfl, fun _ h => Option.some.inj h, by omega, HY.out⟩, fun _ => trivial, trivial⟩⟩⟩⟩⟩) ?hs ?hd
          case h00 => simp only [putO, layL]
          case hs =>
            rintro listed vs Wr hF i hi hun hpre
            obtain ⟨s0, s1, s2, s3, s4, s5, s6, s7, s8, o0, o1, o2, o3, o4, hvs⟩ := exl_of 14 vs (fun l => vs = l) hF.len rfl
            subst hvs
            obtain ⟨eG0, gG0, hO0⟩ := old_blk hF (i := 9) rfl (.inl (by decide))
            replace eG0 : o0 = _ := eG0
            subst eG0
            simp only [mixL] at hO0
            obtain ⟨eG1, gG1, hO1⟩ := old_of hF (i := 10) rfl (.inl (by decide))
            replace eG1 : o1 = _ := eG1
            subst eG1
            obtain ⟨eG2, gG2, hO2⟩ := old_of hF (i := 11) rfl (.inl (by decide))
            replace eG2 : o2 = _ := eG2
            subst eG2
            obtain ⟨eG3, gG3, hO3⟩ := old_of hF (i := 12) rfl (.inl (by decide))
            replace eG3 : o3 = _ := eG3
            subst eG3
            obtain ⟨eG4, gG4, hO4⟩ := old_of hF (i := 13) rfl (.inl (by decide))
            replace eG4 : o4 = _ := eG4
            subst eG4
            have hge := Nat.zero_le i
            simp only [putO, layL]
            rcases Nat.lt_or_ge i 4 with hlt | hgt
            · replace hi := hlt
              clear hlt
              rcases Nat.lt_or_ge i 2 with hlt | hgt
              · replace hi := hlt
                clear hlt
                rcases Nat.lt_or_ge i 1 with hlt | hgt
                · replace hi := hlt
                  clear hlt
                  obtain rfl := eqi hi hge
                  rw [if_neg (hF.unst (by decide))] at hO1
                  have hcc := (two_at (hO1)).1
                  have cH90 := hcc.1
                  have cH91 := hcc.2
                  clear hcc
                  refine step_of ⟨some 81, _, _, _, _, _⟩ rfl (fun K' hK => ?_)
                  go_simp
                  refine hK.out _ _ ⟨_, hF.pure hok hla hpre rfl (Below.refl _ _), ?fr⟩
                  case fr => simp only [putO, layL]
                · replace hge : 1 ≤ i := hgt
                  clear hgt
                  obtain rfl := eqi hi hge
                  rw [if_neg (hF.unst (by decide))] at hO1
                  have hcc := (two_at (hO1)).1
                  have cH90 := hcc.1
                  have cH91 := hcc.2
                  clear hcc
                  refine step_of ⟨some 82, _, _, _, _, _⟩ rfl (fun K' hK => ?_)
                  go_simp
                  refine hK.out _ _ ⟨_, hF.pure hok hla hpre rfl (Below.refl _ _), ?fr⟩
                  case fr => simp only [putO, layL]
              · replace hge : 2 ≤ i := hgt
                clear hgt
                rcases Nat.lt_or_ge i 3 with hlt | hgt
                · replace hi := hlt
                  clear hlt
                  obtain rfl := eqi hi hge
                  rw [if_neg (hF.unst (by decide))] at hO1
                  have hcc := (two_at (hO1)).1
                  have cH90 := hcc.1
                  have cH91 := hcc.2
                  clear hcc
                  refine step_of ⟨some 83, _, _, _, _, _⟩ rfl (fun K' hK => ?_)
                  go_simp
                  refine hK.out _ _ ⟨_, hF.pure hok hla hpre rfl (Below.refl _ _), ?fr⟩
                  case fr => simp only [putO, layL]
                · replace hge : 3 ≤ i := hgt
                  clear hgt
                  obtain rfl := eqi hi hge
                  refine step_of ⟨some 84, _, _, _, _, _⟩ rfl (fun K' hK => ?_)
                  go_simp
                  refine hK.out _ _ ⟨_, hF.pure hok hla hpre rfl (Below.refl _ _), ?fr⟩
                  case fr => simp only [putO, layL]
            · replace hge : 4 ≤ i := hgt
              clear hgt
              rcases Nat.lt_or_ge i 6 with hlt | hgt
              · replace hi := hlt
                clear hlt
                rcases Nat.lt_or_ge i 5 with hlt | hgt
                · replace hi := hlt
                  clear hlt
                  obtain rfl := eqi hi hge
                  have p3 := hpre 3 (by kernel_rfl)
                  have e3 : s3 = .pointer (some ⟨G, 6, none⟩) := hF.get 3 _ rfl (.inr p3)
                  subst e3
                  have p0 := hpre 0 (by kernel_rfl)
                  have e0 : s0 = .agg #[.string (numS z), .string (denS z)] := hF.get 0 _ rfl (.inr p0)
                  subst e0
                  have y0 : ∃ v, Wr.cell? ⟨G, 6, none⟩ = some v := ⟨_, Lib.cell_of_heap hO0 6⟩
                  obtain ⟨z0, y0⟩ := y0
                  have fz0 : Wr.frozen? ⟨G, 6, none⟩ = false := by rw [Lib.frozen_of_heap hO0 6]
                  have y1 : ∃ v, Wr.cell? ⟨G, 7, none⟩ = some v := ⟨_, Lib.cell_of_heap hO0 7⟩
                  obtain ⟨z1, y1⟩ := y1
                  have fz1 : Wr.frozen? ⟨G, 7, none⟩ = false := by rw [Lib.frozen_of_heap hO0 7]
                  have hset := heap_setCell_at (heap_setCell_at (hO0) 6 (.string (numS z))) 7 (.string (denS z))
                  simp only [mixL, List.setIfInBounds_toArray, List.set_cons_zero, List.set_cons_succ] at hset
                  have hmix : mixL (listed.setIfInBounds 4 true) [.slice (some ⟨g1, 0, none⟩) k c1, .slice (some ⟨g2, 0, none⟩) k c2, .string (numS mx), .string (denS mx), .string (numS my), .string (denS my), .string { data := #[] }, .string { data := #[] }, .string { data := #[] }, .string { data := #[] }, .string { data := #[] }, .string { data := #[] }] [.slice (some ⟨g1, 0, none⟩) k c1, .slice (some ⟨g2, 0, none⟩) k c2, .string (numS mx), .string (denS mx), .string (numS my), .string (denS my), .string (numS z), .string (denS z), .string (numS z), .string (denS z), .string (numS z), .string (denS z)] [none, none, none, none, none, none, some 4, some 4, some 6, some 6, some 8, some 8] = [.slice (some ⟨g1, 0, none⟩) k c1, .slice (some ⟨g2, 0, none⟩) k c2, .string (numS mx), .string (denS mx), .string (numS my), .string (denS my), .string (numS z), .string (denS z), if listed.getD 6 false = true then .string (numS z) else .string { data := #[] }, if listed.getD 6 false = true then .string (denS z) else .string { data := #[] }, if listed.getD 8 false = true then .string (numS z) else .string { data := #[] }, if listed.getD 8 false = true then .string (denS z) else .string { data := #[] }] := by simp only [mixL, bit_self hun, bit_ne (listed := listed) (show (4 : Nat) ≠ 6 by decide), bit_ne (listed := listed) (show (4 : Nat) ≠ 8 by decide), eq_self, if_true]
                  refine step_of ⟨none, _, _, _, _, _⟩ rfl (fun K' hK => ?_)
                  go_simp
                  refine hK.out _ _ ⟨undef, hF.putb hok hna hpre rfl undef rfl (.inl (by decide)) rfl (by rw [hmix]; exact hset) (fun k hk => (Below.heap_setCell _ ⟨G, 7, none⟩ _ k hk).trans (Below.heap_setCell _ ⟨G, 6, none⟩ _ k hk)) (((Below.refl _ _).setCell (p := ⟨_, 6, none⟩) gG0 _).setCell (p := ⟨_, 7, none⟩) gG0 _), ?fr⟩
                  case fr => simp only [putO, layL]
                · replace hge : 5 ≤ i := hgt
                  clear hgt
                  obtain rfl := eqi hi hge
                  refine step_of ⟨some 85, _, _, _, _, _⟩ rfl (fun K' hK => ?_)
                  go_simp
                  refine hK.out _ _ ⟨_, hF.pure hok hla hpre rfl (Below.refl _ _), ?fr⟩
                  case fr => simp only [putO, layL]
              · replace hge : 6 ≤ i := hgt
                clear hgt
                rcases Nat.lt_or_ge i 7 with hlt | hgt
                · replace hi := hlt
                  clear hlt
                  obtain rfl := eqi hi hge
                  have p5 := hpre 5 (by kernel_rfl)
                  have e5 : s5 = .pointer (some ⟨G, 8, none⟩) := hF.get 5 _ rfl (.inr p5)
                  subst e5
                  have p1 := hpre 1 (by kernel_rfl)
                  have e1 : s1 = .agg #[.string (numS z), .string (denS z)] := hF.get 1 _ rfl (.inr p1)
                  subst e1
                  have y0 : ∃ v, Wr.cell? ⟨G, 8, none⟩ = some v := ⟨_, Lib.cell_of_heap hO0 8⟩
                  obtain ⟨z0, y0⟩ := y0
                  have fz0 : Wr.frozen? ⟨G, 8, none⟩ = false := by rw [Lib.frozen_of_heap hO0 8]
                  have y1 : ∃ v, Wr.cell? ⟨G, 9, none⟩ = some v := ⟨_, Lib.cell_of_heap hO0 9⟩
                  obtain ⟨z1, y1⟩ := y1
                  have fz1 : Wr.frozen? ⟨G, 9, none⟩ = false := by rw [Lib.frozen_of_heap hO0 9]
                  have hset := heap_setCell_at (heap_setCell_at (hO0) 8 (.string (numS z))) 9 (.string (denS z))
                  simp only [mixL, List.setIfInBounds_toArray, List.set_cons_zero, List.set_cons_succ] at hset
                  have hmix : mixL (listed.setIfInBounds 6 true) [.slice (some ⟨g1, 0, none⟩) k c1, .slice (some ⟨g2, 0, none⟩) k c2, .string (numS mx), .string (denS mx), .string (numS my), .string (denS my), .string { data := #[] }, .string { data := #[] }, .string { data := #[] }, .string { data := #[] }, .string { data := #[] }, .string { data := #[] }] [.slice (some ⟨g1, 0, none⟩) k c1, .slice (some ⟨g2, 0, none⟩) k c2, .string (numS mx), .string (denS mx), .string (numS my), .string (denS my), .string (numS z), .string (denS z), .string (numS z), .string (denS z), .string (numS z), .string (denS z)] [none, none, none, none, none, none, some 4, some 4, some 6, some 6, some 8, some 8] = [.slice (some ⟨g1, 0, none⟩) k c1, .slice (some ⟨g2, 0, none⟩) k c2, .string (numS mx), .string (denS mx), .string (numS my), .string (denS my), if listed.getD 4 false = true then .string (numS z) else .string { data := #[] }, if listed.getD 4 false = true then .string (denS z) else .string { data := #[] }, .string (numS z), .string (denS z), if listed.getD 8 false = true then .string (numS z) else .string { data := #[] }, if listed.getD 8 false = true then .string (denS z) else .string { data := #[] }] := by simp only [mixL, bit_self hun, bit_ne (listed := listed) (show (6 : Nat) ≠ 4 by decide), bit_ne (listed := listed) (show (6 : Nat) ≠ 8 by decide), eq_self, if_true]
                  refine step_of ⟨none, _, _, _, _, _⟩ rfl (fun K' hK => ?_)
                  go_simp
                  refine hK.out _ _ ⟨undef, hF.putb hok hna hpre rfl undef rfl (.inl (by decide)) rfl (by rw [hmix]; exact hset) (fun k hk => (Below.heap_setCell _ ⟨G, 9, none⟩ _ k hk).trans (Below.heap_setCell _ ⟨G, 8, none⟩ _ k hk)) (((Below.refl _ _).setCell (p := ⟨_, 8, none⟩) gG0 _).setCell (p := ⟨_, 9, none⟩) gG0 _), ?fr⟩
                  case fr => simp only [putO, layL]
                · replace hge : 7 ≤ i := hgt
                  clear hgt
                  rcases Nat.lt_or_ge i 8 with hlt | hgt
                  · replace hi := hlt
                    clear hlt
                    obtain rfl := eqi hi hge
                    refine step_of ⟨some 86, _, _, _, _, _⟩ rfl (fun K' hK => ?_)
                    go_simp
                    refine hK.out _ _ ⟨_, hF.pure hok hla hpre rfl (Below.refl _ _), ?fr⟩
                    case fr => simp only [putO, layL]
                  · replace hge : 8 ≤ i := hgt
                    clear hgt
                    obtain rfl := eqi hi hge
                    have p7 := hpre 7 (by kernel_rfl)
                    have e7 : s7 = .pointer (some ⟨G, 10, none⟩) := hF.get 7 _ rfl (.inr p7)
                    subst e7
                    have p2 := hpre 2 (by kernel_rfl)
                    have e2 : s2 = .agg #[.string (numS z), .string (denS z)] := hF.get 2 _ rfl (.inr p2)
                    subst e2
                    have y0 : ∃ v, Wr.cell? ⟨G, 10, none⟩ = some v := ⟨_, Lib.cell_of_heap hO0 10⟩
                    obtain ⟨z0, y0⟩ := y0
                    have fz0 : Wr.frozen? ⟨G, 10, none⟩ = false := by rw [Lib.frozen_of_heap hO0 10]
                    have y1 : ∃ v, Wr.cell? ⟨G, 11, none⟩ = some v := ⟨_, Lib.cell_of_heap hO0 11⟩
                    obtain ⟨z1, y1⟩ := y1
                    have fz1 : Wr.frozen? ⟨G, 11, none⟩ = false := by rw [Lib.frozen_of_heap hO0 11]
                    have hset := heap_setCell_at (heap_setCell_at (hO0) 10 (.string (numS z))) 11 (.string (denS z))
                    simp only [mixL, List.setIfInBounds_toArray, List.set_cons_zero, List.set_cons_succ] at hset
                    have hmix : mixL (listed.setIfInBounds 8 true) [.slice (some ⟨g1, 0, none⟩) k c1, .slice (some ⟨g2, 0, none⟩) k c2, .string (numS mx), .string (denS mx), .string (numS my), .string (denS my), .string { data := #[] }, .string { data := #[] }, .string { data := #[] }, .string { data := #[] }, .string { data := #[] }, .string { data := #[] }] [.slice (some ⟨g1, 0, none⟩) k c1, .slice (some ⟨g2, 0, none⟩) k c2, .string (numS mx), .string (denS mx), .string (numS my), .string (denS my), .string (numS z), .string (denS z), .string (numS z), .string (denS z), .string (numS z), .string (denS z)] [none, none, none, none, none, none, some 4, some 4, some 6, some 6, some 8, some 8] = [.slice (some ⟨g1, 0, none⟩) k c1, .slice (some ⟨g2, 0, none⟩) k c2, .string (numS mx), .string (denS mx), .string (numS my), .string (denS my), if listed.getD 4 false = true then .string (numS z) else .string { data := #[] }, if listed.getD 4 false = true then .string (denS z) else .string { data := #[] }, if listed.getD 6 false = true then .string (numS z) else .string { data := #[] }, if listed.getD 6 false = true then .string (denS z) else .string { data := #[] }, .string (numS z), .string (denS z)] := by simp only [mixL, bit_self hun, bit_ne (listed := listed) (show (8 : Nat) ≠ 4 by decide), bit_ne (listed := listed) (show (8 : Nat) ≠ 6 by decide), eq_self, if_true]
                    refine step_of ⟨none, _, _, _, _, _⟩ rfl (fun K' hK => ?_)
                    go_simp
                    refine hK.out _ _ ⟨undef, hF.putb hok hna hpre rfl undef rfl (.inl (by decide)) rfl (by rw [hmix]; exact hset) (fun k hk => (Below.heap_setCell _ ⟨G, 11, none⟩ _ k hk).trans (Below.heap_setCell _ ⟨G, 10, none⟩ _ k hk)) (((Below.refl _ _).setCell (p := ⟨_, 10, none⟩) gG0 _).setCell (p := ⟨_, 11, none⟩) gG0 _), ?fr⟩
                    case fr => simp only [putO, layL]
          case hd =>
            rintro listed vs WD hF hall
            obtain ⟨s0, s1, s2, s3, s4, s5, s6, s7, s8, o0, o1, o2, o3, o4, hvs⟩ := exl_of 14 vs (fun l => vs = l) hF.len rfl
            subst hvs
            obtain ⟨eG0, gG0, hO0⟩ := old_blk hF (i := 9) rfl (.inl (by decide))
            replace eG0 : o0 = _ := eG0
            subst eG0
            simp only [mixL] at hO0
            obtain ⟨eG1, gG1, hO1⟩ := old_of hF (i := 10) rfl (.inl (by decide))
            replace eG1 : o1 = _ := eG1
            subst eG1
            obtain ⟨eG2, gG2, hO2⟩ := old_of hF (i := 11) rfl (.inl (by decide))
            replace eG2 : o2 = _ := eG2
            subst eG2
            obtain ⟨eG3, gG3, hO3⟩ := old_of hF (i := 12) rfl (.inl (by decide))
            replace eG3 : o3 = _ := eG3
            subst eG3
            obtain ⟨eG4, gG4, hO4⟩ := old_of hF (i := 13) rfl (.inl (by decide))
            replace eG4 : o4 = _ := eG4
            subst eG4
            simp only [mixL, hall 4 (by decide), hall 6 (by decide), hall 8 (by decide), if_true] at hO0
            replace H7 := Lib.hid hO0
            clear hO0
            rw [if_neg (hF.unst (by decide))] at hO1
            replace H9 := Lib.hid hO1
            clear hO1
            rw [if_neg (hF.unst (by decide))] at hO2
            replace H4 := Lib.hid hO2
            clear hO2
            rw [if_neg (hF.unst (by decide))] at hO3
            replace HX := Lib.hid hO3
            clear hO3
            rw [if_neg (hF.unst (by decide))] at hO4
            replace HY := Lib.hid hO4
            clear hO4
            have HQ := Lib.hid hF.low
            clear hF hall hok hna hla
            simp only [putO, layL]
            replace HG := Lib.hid (below_none HQ.out)
            clear HQ
            replace HE := Lib.hid (HE0.out.below HG.out)
            obtain ⟨⟨x7_0, x7_1, x7_2, x7_3, x7_4, x7_5, x7_6, x7_7, x7_8, x7_9, x7_10, x7_11⟩, x7_f0, x7_f1, x7_f2, x7_f3, x7_f4, x7_f5, x7_f6, x7_f7, x7_f8, x7_f9, x7_f10, x7_f11⟩ := twelve_at H7.out
            go_wp2_with fail
            go_loopg [90] k (fun gh v90 wx => ∃ i : Nat, v90 = .int .i64 (i : Int) ∧ i ≤ k ∧ gh = k - i ∧ RdJ W R G g1 g2 c1 c2 k u1 u2 mx my (XX i) (YY i) (XY i) wx)
            case atStart => exact ⟨0, rfl, Nat.zero_le _, rfl, ⟨H4.out, by rw [HS.out.1, HS.out.2.1, HS.out.2.2]; exact H7.out, HX.out, HY.out, HG.out⟩⟩
            case round =>
              clear H4 H7 HX HY HG HE H9
              obtain ⟨i, rfl, hi, hgi, hJ⟩ := hrel
              have H4 := Lib.hid hJ.h4
              have H7 := Lib.hid hJ.h7
              have HX := Lib.hid hJ.hx
              have HY := Lib.hid hJ.hy
              have HG := Lib.hid hJ.low
              have HE := Lib.hid (HE0.out.below hJ.low)
              clear hJ
              by_cases hlt : i < k
              · have hdd : decide ((i : Int) < (k : Int)) = true := decide_eq_true (by omega)
                have hdd2 : decide (i < k) = true := decide_eq_true hlt
                have hi0 : (0 : Int) ≤ (i : Int) := by omega
                have hi1 : (i : Int) < (k : Int) := by omega
                have hwk : IntKind.i64.wrap ((i : Int) + 1) = (i : Int) + 1 := IntWalk.i64_in _ (by omega)
                have hka := Lib.hid (show i < qa.length by have := HQA.out; omega)
                have hkb := Lib.hid (show i < qb.length by have := HQB.out; omega)
                have QDi := Lib.hid (QD.out i hka.out)
                have QEi := Lib.hid (QE.out i hkb.out)
                have QM1 := Lib.hid (QM.out i hlt).1
                have QM2 := Lib.hid (QM.out i hlt).2.1
                have QM3 := Lib.hid (QM.out i hlt).2.2
                have QA1 := Lib.hid (QA.out i hlt).1
                have QA2 := Lib.hid (QA.out i hlt).2.1
                have QA3 := Lib.hid (QA.out i hlt).2.2
                obtain ⟨q, hq⟩ : ∃ q, qa[i]'hka.out = q := ⟨_, rfl⟩
                obtain ⟨p, hp⟩ : ∃ p, qb[i]'hkb.out = p := ⟨_, rfl⟩
                have HQ := Lib.hid hq
                have HP := Lib.hid hp
                rw [hq] at QDi
                rw [hp] at QEi
                obtain ⟨d, hd⟩ : ∃ x, D i = x := ⟨_, rfl⟩
                rw [hd] at QDi QM1 QM3
                obtain ⟨e, he⟩ : ∃ x, E i = x := ⟨_, rfl⟩
                rw [he] at QEi QM2 QM3
                obtain ⟨dd, hdd⟩ : ∃ x, DD i = x := ⟨_, rfl⟩
                rw [hdd] at QM1 QA1
                obtain ⟨ee, hee⟩ : ∃ x, EE i = x := ⟨_, rfl⟩
                rw [hee] at QM2 QA2
                obtain ⟨de, hde⟩ : ∃ x, DE i = x := ⟨_, rfl⟩
                rw [hde] at QM3 QA3
                obtain ⟨sx, hsx⟩ : ∃ x, XX i = x := ⟨_, rfl⟩
                rw [hsx] at QA1 H7
                obtain ⟨sy, hsy⟩ : ∃ x, YY i = x := ⟨_, rfl⟩
                rw [hsy] at QA2 H7
                obtain ⟨sc, hsc⟩ : ∃ x, XY i = x := ⟨_, rfl⟩
                rw [hsc] at QA3 H7
                obtain ⟨tx, htx⟩ : ∃ x, XX (i + 1) = x := ⟨_, rfl⟩
                rw [htx] at QA1
                obtain ⟨ty, hty⟩ : ∃ x, YY (i + 1) = x := ⟨_, rfl⟩
                rw [hty] at QA2
                obtain ⟨tc, htc⟩ : ∃ x, XY (i + 1) = x := ⟨_, rfl⟩
                rw [htc] at QA3
                have HTX := Lib.hid (And.intro htx (And.intro hty htc))
                unfold Fun2 at QDi QEi QM1 QM2 QM3 QA1 QA2 QA3
                rw [fracV_is q, fracV_is mx, fracV_is d] at QDi
                rw [fracV_is p, fracV_is my, fracV_is e] at QEi
                rw [fracV_is d, fracV_is dd] at QM1
                rw [fracV_is e, fracV_is ee] at QM2
                rw [fracV_is d, fracV_is e, fracV_is de] at QM3
                rw [fracV_is sx, fracV_is dd, fracV_is tx] at QA1
                rw [fracV_is sy, fracV_is ee, fracV_is ty] at QA2
                rw [fracV_is sc, fracV_is de, fracV_is tc] at QA3
                clear hq hp hd he hee hde hsx hsy hsc htx hty htc
                go_upto_region 19 with fail
                have lt_4 := Lib.hid (heap_lt H4.out)
                have lt_7 := Lib.hid (heap_lt H7.out)
                have lt_X := Lib.hid (heap_lt HX.out)
                have lt_Y := Lib.hid (heap_lt HY.out)
                have geW := Lib.hid HG.out.size
                go_wp2_with fail
                have hok : okB 20 (read_walkKs19 q p mx my d e i k G g1 g2 c1 c2) = true := by kernel_rfl
                have hna := noAny_of (ks := (read_walkKs19 q p mx my d e i k G g1 g2 c1 c2)) (by kernel_rfl)
                have hla := lasts_of hna
                refine wp_region_facts (row := none) (w := wr) 20 (read_walkKs19 q p mx my d e i k G g1 g2 c1 c2) [some 93, some 94, some 95, some 96, some 97, some 98, some 99, some 100, some 101, some 102, some 103, some 104, some 105, some 106, some 107, some 108, some 11, some 12, none, none] (by kernel_rfl) (by kernel_rfl) rfl [u93, u94, u95, u96, u97, u98, u99, u100, u101, u102, u103, u104, u105, u106, u107, u108, u11, u12, undef, undef] ?h00 (Fs.start rfl rfl) ?hs ?hd
                case h00 => simp only [putO, layL]
                case hs =>
                  rintro listed vs Wr hF i hi hun hpre
                  obtain ⟨s0, s1, s2, s3, s4, s5, s6, s7, s8, s9, s10, s11, s12, s13, s14, s15, s16, s17, s18, s19, hvs⟩ := exl_of 20 vs (fun l => vs = l) hF.len rfl
                  subst hvs
                  have hge := Nat.zero_le i
                  simp only [putO, layL]
                  rcases Nat.lt_or_ge i 10 with hlt | hgt
                  · replace hi := hlt
                    clear hlt
                    rcases Nat.lt_or_ge i 5 with hlt | hgt
                    · replace hi := hlt
                      clear hlt
                      rcases Nat.lt_or_ge i 2 with hlt | hgt
                      · replace hi := hlt
                        clear hlt
                        rcases Nat.lt_or_ge i 1 with hlt | hgt
                        · replace hi := hlt
                          clear hlt
                          obtain rfl := eqi hi hge
                          refine step_of ⟨some 93, _, _, _, _, _⟩ rfl (fun K' hK => ?_)
                          go_simp
                          refine hK.out _ _ ⟨_, hF.pure hok hla hpre rfl (Below.refl _ _), ?fr⟩
                          case fr => simp only [putO, layL]
                        · replace hge : 1 ≤ i := hgt
                          clear hgt
                          obtain rfl := eqi hi hge
                          have p0 := hpre 0 (by kernel_rfl)
                          have e0 : s0 = .pointer (some ⟨G, 0, none⟩) := hF.get 0 _ rfl (.inr p0)
                          subst e0
                          have hcc := (twelve_at (keep_block H7.out (below_none hF.low))).1
                          have cH70 := hcc.1
                          have cH71 := hcc.2.1
                          have cH72 := hcc.2.2.1
                          have cH73 := hcc.2.2.2.1
                          have cH74 := hcc.2.2.2.2.1
                          have cH75 := hcc.2.2.2.2.2.1
                          have cH76 := hcc.2.2.2.2.2.2.1
                          have cH77 := hcc.2.2.2.2.2.2.2.1
                          have cH78 := hcc.2.2.2.2.2.2.2.2.1
                          have cH79 := hcc.2.2.2.2.2.2.2.2.2.1
                          have cH710 := hcc.2.2.2.2.2.2.2.2.2.2.1
                          have cH711 := hcc.2.2.2.2.2.2.2.2.2.2.2
                          clear hcc
                          refine step_of ⟨some 94, _, _, _, _, _⟩ rfl (fun K' hK => ?_)
                          go_simp
                          refine hK.out _ _ ⟨_, hF.pure hok hla hpre rfl (Below.refl _ _), ?fr⟩
                          case fr => simp only [putO, layL]
                      · replace hge : 2 ≤ i := hgt
                        clear hgt
                        rcases Nat.lt_or_ge i 3 with hlt | hgt
                        · replace hi := hlt
                          clear hlt
                          obtain rfl := eqi hi hge
                          refine step_of ⟨some 95, _, _, _, _, _⟩ rfl (fun K' hK => ?_)
                          go_simp
                          refine hK.out _ _ ⟨_, hF.pure hok hla hpre rfl (Below.refl _ _), ?fr⟩
                          case fr => simp only [putO, layL]
                        · replace hge : 3 ≤ i := hgt
                          clear hgt
                          rcases Nat.lt_or_ge i 4 with hlt | hgt
                          · replace hi := hlt
                            clear hlt
                            obtain rfl := eqi hi hge
                            have p1 := hpre 1 (by kernel_rfl)
                            have e1 : s1 = .slice (some ⟨g1, 0, none⟩) k c1 := hF.get 1 _ rfl (.inr p1)
                            subst e1
                            have p2 := hpre 2 (by kernel_rfl)
                            have e2 : s2 = .int .i64 (i : Int) := hF.get 2 _ rfl (.inr p2)
                            subst e2
                            refine step_of ⟨some 96, _, _, _, _, _⟩ rfl (fun K' hK => ?_)
                            go_simp
                            refine hK.out _ _ ⟨_, hF.pure hok hla hpre rfl (Below.refl _ _), ?fr⟩
                            case fr => simp only [putO, layL]
                          · replace hge : 4 ≤ i := hgt
                            clear hgt
                            obtain rfl := eqi hi hge
                            have p3 := hpre 3 (by kernel_rfl)
                            have e3 : s3 = .pointer (some ⟨g1, i * 2, none⟩) := hF.get 3 _ rfl (.inr p3)
                            subst e3
                            have hz := frow_of (keep_block HX.out (below_none hF.low)) HC1.out i hka.out
                            rw [HQ.out] at hz
                            have z0 := hz.1
                            have z1 := hz.2
                            clear hz
                            refine step_of ⟨some 97, _, _, _, _, _⟩ rfl (fun K' hK => ?_)
                            go_simp
                            refine hK.out _ _ ⟨_, hF.pure hok hla hpre rfl (Below.refl _ _), ?fr⟩
                            case fr => simp only [putO, layL]
                    · replace hge : 5 ≤ i := hgt
                      clear hgt
                      rcases Nat.lt_or_ge i 7 with hlt | hgt
                      · replace hi := hlt
                        clear hlt
                        rcases Nat.lt_or_ge i 6 with hlt | hgt
                        · replace hi := hlt
                          clear hlt
                          obtain rfl := eqi hi hge
                          refine step_of ⟨some 98, _, _, _, _, _⟩ rfl (fun K' hK => ?_)
                          go_simp
                          refine hK.out _ _ ⟨_, hF.pure hok hla hpre rfl (Below.refl _ _), ?fr⟩
                          case fr => simp only [putO, layL]
                        · replace hge : 6 ≤ i := hgt
                          clear hgt
                          obtain rfl := eqi hi hge
                          have p5 := hpre 5 (by kernel_rfl)
                          have e5 : s5 = .pointer (some ⟨G, 2, none⟩) := hF.get 5 _ rfl (.inr p5)
                          subst e5
                          have hcc := (twelve_at (keep_block H7.out (below_none hF.low))).1
                          have cH70 := hcc.1
                          have cH71 := hcc.2.1
                          have cH72 := hcc.2.2.1
                          have cH73 := hcc.2.2.2.1
                          have cH74 := hcc.2.2.2.2.1
                          have cH75 := hcc.2.2.2.2.2.1
                          have cH76 := hcc.2.2.2.2.2.2.1
                          have cH77 := hcc.2.2.2.2.2.2.2.1
                          have cH78 := hcc.2.2.2.2.2.2.2.2.1
                          have cH79 := hcc.2.2.2.2.2.2.2.2.2.1
                          have cH710 := hcc.2.2.2.2.2.2.2.2.2.2.1
                          have cH711 := hcc.2.2.2.2.2.2.2.2.2.2.2
                          clear hcc
                          refine step_of ⟨some 99, _, _, _, _, _⟩ rfl (fun K' hK => ?_)
                          go_simp
                          refine hK.out _ _ ⟨_, hF.pure hok hla hpre rfl (Below.refl _ _), ?fr⟩
                          case fr => simp only [putO, layL]
                      · replace hge : 7 ≤ i := hgt
                        clear hgt
                        rcases Nat.lt_or_ge i 8 with hlt | hgt
                        · replace hi := hlt
                          clear hlt
                          obtain rfl := eqi hi hge
                          have p4 := hpre 4 (by kernel_rfl)
                          have e4 : s4 = .agg #[.string (numS q), .string (denS q)] := hF.get 4 _ rfl (.inr p4)
                          subst e4
                          have p6 := hpre 6 (by kernel_rfl)
                          have e6 : s6 = .agg #[.string (numS mx), .string (denS mx)] := hF.get 6 _ rfl (.inr p6)
                          subst e6
                          refine step_of ⟨some 100, _, _, _, _, _⟩ rfl (fun K' hK => ?_)
                          go_simp
                          go_at_call 147
                          (with_reducible refine (QDi.out _ (HE.out.below (below_none hF.low))).mono ?_)
                          rintro e Wq ⟨rfl, hq⟩
                          refine hK.out _ _ ⟨_, hF.pure hok hla hpre rfl hq, ?fr⟩
                          case fr => simp only [putO, layL]
                        · replace hge : 8 ≤ i := hgt
                          clear hgt
                          rcases Nat.lt_or_ge i 9 with hlt | hgt
                          · replace hi := hlt
                            clear hlt
                            obtain rfl := eqi hi hge
                            refine step_of ⟨some 101, _, _, _, _, _⟩ rfl (fun K' hK => ?_)
                            go_simp
                            refine hK.out _ _ ⟨_, hF.pure hok hla hpre rfl (Below.refl _ _), ?fr⟩
                            case fr => simp only [putO, layL]
                          · replace hge : 9 ≤ i := hgt
                            clear hgt
                            obtain rfl := eqi hi hge
                            have p8 := hpre 8 (by kernel_rfl)
                            have e8 : s8 = .pointer (some ⟨G, 1, none⟩) := hF.get 8 _ rfl (.inr p8)
                            subst e8
                            have hcc := (twelve_at (keep_block H7.out (below_none hF.low))).1
                            have cH70 := hcc.1
                            have cH71 := hcc.2.1
                            have cH72 := hcc.2.2.1
                            have cH73 := hcc.2.2.2.1
                            have cH74 := hcc.2.2.2.2.1
                            have cH75 := hcc.2.2.2.2.2.1
                            have cH76 := hcc.2.2.2.2.2.2.1
                            have cH77 := hcc.2.2.2.2.2.2.2.1
                            have cH78 := hcc.2.2.2.2.2.2.2.2.1
                            have cH79 := hcc.2.2.2.2.2.2.2.2.2.1
                            have cH710 := hcc.2.2.2.2.2.2.2.2.2.2.1
                            have cH711 := hcc.2.2.2.2.2.2.2.2.2.2.2
                            clear hcc
                            refine step_of ⟨some 102, _, _, _, _, _⟩ rfl (fun K' hK => ?_)
                            go_simp
                            refine hK.out _ _ ⟨_, hF.pure hok hla hpre rfl (Below.refl _ _), ?fr⟩
                            case fr => simp only [putO, layL]
                  · replace hge : 10 ≤ i := hgt
                    clear hgt
                    rcases Nat.lt_or_ge i 15 with hlt | hgt
                    · replace hi := hlt
                      clear hlt
                      rcases Nat.lt_or_ge i 12 with hlt | hgt
                      · replace hi := hlt
                        clear hlt
                        rcases Nat.lt_or_ge i 11 with hlt | hgt
                        · replace hi := hlt
                          clear hlt
                          obtain rfl := eqi hi hge
                          refine step_of ⟨some 103, _, _, _, _, _⟩ rfl (fun K' hK => ?_)
                          go_simp
                          refine hK.out _ _ ⟨_, hF.pure hok hla hpre rfl (Below.refl _ _), ?fr⟩
                          case fr => simp only [putO, layL]
                        · replace hge : 11 ≤ i := hgt
                          clear hgt
                          obtain rfl := eqi hi hge
                          have p9 := hpre 9 (by kernel_rfl)
                          have e9 : s9 = .slice (some ⟨g2, 0, none⟩) k c2 := hF.get 9 _ rfl (.inr p9)
                          subst e9
                          have p10 := hpre 10 (by kernel_rfl)
                          have e10 : s10 = .int .i64 (i : Int) := hF.get 10 _ rfl (.inr p10)
                          subst e10
                          refine step_of ⟨some 104, _, _, _, _, _⟩ rfl (fun K' hK => ?_)
                          go_simp
                          refine hK.out _ _ ⟨_, hF.pure hok hla hpre rfl (Below.refl _ _), ?fr⟩
                          case fr => simp only [putO, layL]
                      · replace hge : 12 ≤ i := hgt
                        clear hgt
                        rcases Nat.lt_or_ge i 13 with hlt | hgt
                        · replace hi := hlt
                          clear hlt
                          obtain rfl := eqi hi hge
                          have p11 := hpre 11 (by kernel_rfl)
                          have e11 : s11 = .pointer (some ⟨g2, i * 2, none⟩) := hF.get 11 _ rfl (.inr p11)
                          subst e11
                          have hz := frow_of (keep_block HY.out (below_none hF.low)) HC2.out i hkb.out
                          rw [HP.out] at hz
                          have z0 := hz.1
                          have z1 := hz.2
                          clear hz
                          refine step_of ⟨some 105, _, _, _, _, _⟩ rfl (fun K' hK => ?_)
                          go_simp
                          refine hK.out _ _ ⟨_, hF.pure hok hla hpre rfl (Below.refl _ _), ?fr⟩
                          case fr => simp only [putO, layL]
                        · replace hge : 13 ≤ i := hgt
                          clear hgt
                          rcases Nat.lt_or_ge i 14 with hlt | hgt
                          · replace hi := hlt
                            clear hlt
                            obtain rfl := eqi hi hge
                            refine step_of ⟨some 106, _, _, _, _, _⟩ rfl (fun K' hK => ?_)
                            go_simp
                            refine hK.out _ _ ⟨_, hF.pure hok hla hpre rfl (Below.refl _ _), ?fr⟩
                            case fr => simp only [putO, layL]
                          · replace hge : 14 ≤ i := hgt
                            clear hgt
                            obtain rfl := eqi hi hge
                            have p13 := hpre 13 (by kernel_rfl)
                            have e13 : s13 = .pointer (some ⟨G, 4, none⟩) := hF.get 13 _ rfl (.inr p13)
                            subst e13
                            have hcc := (twelve_at (keep_block H7.out (below_none hF.low))).1
                            have cH70 := hcc.1
                            have cH71 := hcc.2.1
                            have cH72 := hcc.2.2.1
                            have cH73 := hcc.2.2.2.1
                            have cH74 := hcc.2.2.2.2.1
                            have cH75 := hcc.2.2.2.2.2.1
                            have cH76 := hcc.2.2.2.2.2.2.1
                            have cH77 := hcc.2.2.2.2.2.2.2.1
                            have cH78 := hcc.2.2.2.2.2.2.2.2.1
                            have cH79 := hcc.2.2.2.2.2.2.2.2.2.1
                            have cH710 := hcc.2.2.2.2.2.2.2.2.2.2.1
                            have cH711 := hcc.2.2.2.2.2.2.2.2.2.2.2
                            clear hcc
                            refine step_of ⟨some 107, _, _, _, _, _⟩ rfl (fun K' hK => ?_)
                            go_simp
                            refine hK.out _ _ ⟨_, hF.pure hok hla hpre rfl (Below.refl _ _), ?fr⟩
                            case fr => simp only [putO, layL]
                    · replace hge : 15 ≤ i := hgt
                      clear hgt
                      rcases Nat.lt_or_ge i 17 with hlt | hgt
                      · replace hi := hlt
                        clear hlt
                        rcases Nat.lt_or_ge i 16 with hlt | hgt
                        · replace hi := hlt
                          clear hlt
                          obtain rfl := eqi hi hge
                          have p12 := hpre 12 (by kernel_rfl)
                          have e12 : s12 = .agg #[.string (numS p), .string (denS p)] := hF.get 12 _ rfl (.inr p12)
                          subst e12
                          have p14 := hpre 14 (by kernel_rfl)
                          have e14 : s14 = .agg #[.string (numS my), .string (denS my)] := hF.get 14 _ rfl (.inr p14)
                          subst e14
                          refine step_of ⟨some 108, _, _, _, _, _⟩ rfl (fun K' hK => ?_)
                          go_simp
                          go_at_call 147
                          (with_reducible refine (QEi.out _ (HE.out.below (below_none hF.low))).mono ?_)
                          rintro e Wq ⟨rfl, hq⟩
                          refine hK.out _ _ ⟨_, hF.pure hok hla hpre rfl hq, ?fr⟩
                          case fr => simp only [putO, layL]
                        · replace hge : 16 ≤ i := hgt
                          clear hgt
                          obtain rfl := eqi hi hge
                          refine step_of ⟨some 11, _, _, _, _, _⟩ rfl (fun K' hK => ?_)
                          go_simp
                          refine hK.out _ _ ⟨_, hF.box hok hla hpre hun rfl, ?fr⟩
                          case fr => simp only [putO, layL]
                      · replace hge : 17 ≤ i := hgt
                        clear hgt
                        rcases Nat.lt_or_ge i 18 with hlt | hgt
                        · replace hi := hlt
                          clear hlt
                          obtain rfl := eqi hi hge
                          refine step_of ⟨some 12, _, _, _, _, _⟩ rfl (fun K' hK => ?_)
                          go_simp
                          refine hK.out _ _ ⟨_, hF.box hok hla hpre hun rfl, ?fr⟩
                          case fr => simp only [putO, layL]
                        · replace hge : 18 ≤ i := hgt
                          clear hgt
                          rcases Nat.lt_or_ge i 19 with hlt | hgt
                          · replace hi := hlt
                            clear hlt
                            obtain rfl := eqi hi hge
                            have p16 := hpre 16 (by kernel_rfl)
                            obtain ⟨G, eG, _, hGl, hGB⟩ : ∃ G, s16 = .pointer (some ⟨G, 0, none⟩) ∧ (∀ k, none = some k → G = k) ∧ wr.heap.size ≤ G ∧ Wr.heap[G]? = some (.cells (if listed.getD 18 false = true then #[.string (numS d), .string (denS d)] else #[.string { data := #[] }, .string { data := #[] }]) 24 (0, 0)) := hF.get 16 _ rfl (.inr p16)
                            subst eG
                            rw [if_neg (bit_off hun)] at hGB
                            have HGB := Lib.hid hGB
                            clear hGB
                            have p7 := hpre 7 (by kernel_rfl)
                            have e7 : s7 = .agg #[.string (numS d), .string (denS d)] := hF.get 7 _ rfl (.inr p7)
                            subst e7
                            obtain ⟨⟨y0, y1⟩, g0, g1⟩ := two_at HGB.out
                            refine step_of ⟨none, _, _, _, _, _⟩ rfl (fun K' hK => ?_)
                            go_simp
                            refine hK.out _ _ ⟨undef, hF.put hok hna hpre hun rfl undef rfl (.inr p16) rfl (set2_at HGB.out (.string (numS d)) (.string (denS d))) (fun k hk => set2_other _ _ (.string (numS d)) (.string (denS d)) hk) (put2_below hGl _ (.string (numS d)) (.string (denS d))), ?fr⟩
                            case fr => simp only [putO, layL]
                          · replace hge : 19 ≤ i := hgt
                            clear hgt
                            obtain rfl := eqi hi hge
                            have p17 := hpre 17 (by kernel_rfl)
                            obtain ⟨G, eG, _, hGl, hGB⟩ : ∃ G, s17 = .pointer (some ⟨G, 0, none⟩) ∧ (∀ k, none = some k → G = k) ∧ wr.heap.size ≤ G ∧ Wr.heap[G]? = some (.cells (if listed.getD 19 false = true then #[.string (numS e), .string (denS e)] else #[.string { data := #[] }, .string { data := #[] }]) 24 (0, 0)) := hF.get 17 _ rfl (.inr p17)
                            subst eG
                            rw [if_neg (bit_off hun)] at hGB
                            have HGB := Lib.hid hGB
                            clear hGB
                            have p15 := hpre 15 (by kernel_rfl)
                            have e15 : s15 = .agg #[.string (numS e), .string (denS e)] := hF.get 15 _ rfl (.inr p15)
                            subst e15
                            obtain ⟨⟨y0, y1⟩, g0, g1⟩ := two_at HGB.out
                            refine step_of ⟨none, _, _, _, _, _⟩ rfl (fun K' hK => ?_)
                            go_simp
                            refine hK.out _ _ ⟨undef, hF.put hok hna hpre hun rfl undef rfl (.inr p17) rfl (set2_at HGB.out (.string (numS e)) (.string (denS e))) (fun k hk => set2_other _ _ (.string (numS e)) (.string (denS e)) hk) (put2_below hGl _ (.string (numS e)) (.string (denS e))), ?fr⟩
                            case fr => simp only [putO, layL]
                case hd =>
                  rintro listed vs WE hF hall
                  obtain ⟨s0, s1, s2, s3, s4, s5, s6, s7, s8, s9, s10, s11, s12, s13, s14, s15, s16, s17, s18, s19, hvs⟩ := exl_of 20 vs (fun l => vs = l) hF.len rfl
                  subst hvs
                  obtain ⟨b11, e16, _, gq, k16⟩ : ∃ G, s16 = .pointer (some ⟨G, 0, none⟩) ∧ (∀ k, none = some k → G = k) ∧ _ ≤ G ∧ WE.heap[G]? = some (.cells (if listed.getD 18 false = true then #[.string (numS d), .string (denS d)] else #[.string { data := #[] }, .string { data := #[] }]) 24 (0, 0)) := hF.get 16 _ rfl (.inr (hall 16 (by decide)))
                  subst e16
                  rw [if_pos (hall 18 (by decide))] at k16
                  have H11 := Lib.hid k16
                  clear k16
                  have ge11 := Lib.hid gq
                  clear gq
                  obtain ⟨b12, e17, _, gq, k17⟩ : ∃ G, s17 = .pointer (some ⟨G, 0, none⟩) ∧ (∀ k, none = some k → G = k) ∧ _ ≤ G ∧ WE.heap[G]? = some (.cells (if listed.getD 19 false = true then #[.string (numS e), .string (denS e)] else #[.string { data := #[] }, .string { data := #[] }]) 24 (0, 0)) := hF.get 17 _ rfl (.inr (hall 17 (by decide)))
                  subst e17
                  rw [if_pos (hall 19 (by decide))] at k17
                  have H12 := Lib.hid k17
                  clear k17
                  have ge12 := Lib.hid gq
                  clear gq
                  have nq := hF.ne 16 17 _ _ (by decide) rfl rfl rfl rfl (.inr (hall 16 (by decide))) (.inr (hall 17 (by decide)))
                  have L12_11 : Hid (b11 ≠ b12) := Lib.hid (fun h => nq (congrArg some h))
                  clear nq
                  have hq := below_none hF.low
                  replace H4 := Lib.hid (keep_block H4.out hq)
                  replace H7 := Lib.hid (keep_block H7.out hq)
                  replace HX := Lib.hid (keep_block HX.out hq)
                  replace HY := Lib.hid (keep_block HY.out hq)
                  replace HE := Lib.hid (HE.out.below hq)
                  replace HG := Lib.hid (HG.out.trans (hq.mono HG.out.size))
                  clear hq
                  clear hF hall hok hna hla
                  simp only [putO, layL]
                  have L11_4 : Hid (R < b11) := Lib.hid (by have := lt_4.out; have := ge11.out; omega)
                  have L11_7 : Hid (G < b11) := Lib.hid (by have := lt_7.out; have := ge11.out; omega)
                  have L11_X : Hid (g1 < b11) := Lib.hid (by have := lt_X.out; have := ge11.out; omega)
                  have L11_Y : Hid (g2 < b11) := Lib.hid (by have := lt_Y.out; have := ge11.out; omega)
                  have G11 : Hid (W.heap.size ≤ b11) := Lib.hid (by have := geW.out; have := ge11.out; omega)
                  have L12_4 : Hid (R < b12) := Lib.hid (by have := lt_4.out; have := ge12.out; omega)
                  have L12_7 : Hid (G < b12) := Lib.hid (by have := lt_7.out; have := ge12.out; omega)
                  have L12_X : Hid (g1 < b12) := Lib.hid (by have := lt_X.out; have := ge12.out; omega)
                  have L12_Y : Hid (g2 < b12) := Lib.hid (by have := lt_Y.out; have := ge12.out; omega)
                  have G12 : Hid (W.heap.size ≤ b12) := Lib.hid (by have := geW.out; have := ge12.out; omega)
                  clear geW lt_4 lt_7 lt_X lt_Y
                  have lt_4 := Lib.hid (heap_lt H4.out)
                  have lt_7 := Lib.hid (heap_lt H7.out)
                  have lt_X := Lib.hid (heap_lt HX.out)
                  have lt_Y := Lib.hid (heap_lt HY.out)
                  have lt_11 := Lib.hid (heap_lt H11.out)
                  have lt_12 := Lib.hid (heap_lt H12.out)
                  have geW := Lib.hid HG.out.size
                  go_wp2_with fail
                  have hok : okB 24 (read_walkKs20 sx sy sc d e dd ee de tx ty tc G b11 b12) = true := by kernel_rfl
                  have hna := noAny_of (ks := (read_walkKs20 sx sy sc d e dd ee de tx ty tc G b11 b12)) (by kernel_rfl)
                  have hla := lasts_of hna
                  refine wp_region_facts_tail_r (row := none) (w := WE) 12 19 5 24 [19, 20, 21, 22, 23] (read_walkKs20 sx sy sc d e dd ee de tx ty tc G b11 b12) [some 109, some 110, some 111, some 112, some 113, some 114, some 115, some 116, some 117, some 118, some 119, some 120, some 121, some 122, some 123, some 124, some 125, some 126, some 127, none, some 128, none, some 129, none] (by kernel_rfl) (by kernel_rfl) (by kernel_rfl) rfl rfl (by decide) rfl [u109, u110, u111, u112, u113, u114, u115, u116, u117, u118, u119, u120, u121, u122, u123, u124, u125, u126, u127, undef, u128, undef, u129, undef] ?h00 (Fs.start rfl rfl) ?hs ?hd
                  case h00 => simp only [putO, layL]
                  case hs =>
                    rintro listed vs Wr hF i hi hun hpre
                    obtain ⟨s0, s1, s2, s3, s4, s5, s6, s7, s8, s9, s10, s11, s12, s13, s14, s15, s16, s17, s18, s19, s20, s21, s22, s23, hvs⟩ := exl_of 24 vs (fun l => vs = l) hF.len rfl
                    subst hvs
                    have hge := Nat.zero_le i
                    simp only [putO, layL]
                    rcases Nat.lt_or_ge i 9 with hlt | hgt
                    · replace hi := hlt
                      clear hlt
                      rcases Nat.lt_or_ge i 4 with hlt | hgt
                      · replace hi := hlt
                        clear hlt
                        rcases Nat.lt_or_ge i 2 with hlt | hgt
                        · replace hi := hlt
                          clear hlt
                          rcases Nat.lt_or_ge i 1 with hlt | hgt
                          · replace hi := hlt
                            clear hlt
                            obtain rfl := eqi hi hge
                            refine step_of ⟨some 109, _, _, _, _, _⟩ rfl (fun K' hK => ?_)
                            go_simp
                            refine hK.out _ _ ⟨_, hF.pure hok hla hpre rfl (Below.refl _ _), ?fr⟩
                            case fr => simp only [putO, layL]
                          · replace hge : 1 ≤ i := hgt
                            clear hgt
                            obtain rfl := eqi hi hge
                            have p0 := hpre 0 (by kernel_rfl)
                            have e0 : s0 = .pointer (some ⟨G, 6, none⟩) := hF.get 0 _ rfl (.inr p0)
                            subst e0
                            have hcc := (twelve_at (keep_block H7.out (below_none hF.low))).1
                            have cH70 := hcc.1
                            have cH71 := hcc.2.1
                            have cH72 := hcc.2.2.1
                            have cH73 := hcc.2.2.2.1
                            have cH74 := hcc.2.2.2.2.1
                            have cH75 := hcc.2.2.2.2.2.1
                            have cH76 := hcc.2.2.2.2.2.2.1
                            have cH77 := hcc.2.2.2.2.2.2.2.1
                            have cH78 := hcc.2.2.2.2.2.2.2.2.1
                            have cH79 := hcc.2.2.2.2.2.2.2.2.2.1
                            have cH710 := hcc.2.2.2.2.2.2.2.2.2.2.1
                            have cH711 := hcc.2.2.2.2.2.2.2.2.2.2.2
                            clear hcc
                            refine step_of ⟨some 110, _, _, _, _, _⟩ rfl (fun K' hK => ?_)
                            go_simp
                            refine hK.out _ _ ⟨_, hF.pure hok hla hpre rfl (Below.refl _ _), ?fr⟩
                            case fr => simp only [putO, layL]
                        · replace hge : 2 ≤ i := hgt
                          clear hgt
                          rcases Nat.lt_or_ge i 3 with hlt | hgt
                          · replace hi := hlt
                            clear hlt
                            obtain rfl := eqi hi hge
                            have hcc := (two_at (keep_block H11.out (below_none hF.low))).1
                            have cH110 := hcc.1
                            have cH111 := hcc.2
                            clear hcc
                            refine step_of ⟨some 111, _, _, _, _, _⟩ rfl (fun K' hK => ?_)
                            go_simp
                            refine hK.out _ _ ⟨_, hF.pure hok hla hpre rfl (Below.refl _ _), ?fr⟩
                            case fr => simp only [putO, layL]
                          · replace hge : 3 ≤ i := hgt
                            clear hgt
                            obtain rfl := eqi hi hge
                            have hcc := (two_at (keep_block H11.out (below_none hF.low))).1
                            have cH110 := hcc.1
                            have cH111 := hcc.2
                            clear hcc
                            refine step_of ⟨some 112, _, _, _, _, _⟩ rfl (fun K' hK => ?_)
                            go_simp
                            refine hK.out _ _ ⟨_, hF.pure hok hla hpre rfl (Below.refl _ _), ?fr⟩
                            case fr => simp only [putO, layL]
                      · replace hge : 4 ≤ i := hgt
                        clear hgt
                        rcases Nat.lt_or_ge i 6 with hlt | hgt
                        · replace hi := hlt
                          clear hlt
                          rcases Nat.lt_or_ge i 5 with hlt | hgt
                          · replace hi := hlt
                            clear hlt
                            obtain rfl := eqi hi hge
                            have p2 := hpre 2 (by kernel_rfl)
                            have e2 : s2 = .agg #[.string (numS d), .string (denS d)] := hF.get 2 _ rfl (.inr p2)
                            subst e2
                            have p3 := hpre 3 (by kernel_rfl)
                            have e3 : s3 = .agg #[.string (numS d), .string (denS d)] := hF.get 3 _ rfl (.inr p3)
                            subst e3
                            refine step_of ⟨some 113, _, _, _, _, _⟩ rfl (fun K' hK => ?_)
                            go_simp
                            go_at_call 144
                            (with_reducible refine (QM1.out _ (HE.out.below (below_none hF.low))).mono ?_)
                            rintro e Wq ⟨rfl, hq⟩
                            refine hK.out _ _ ⟨_, hF.pure hok hla hpre rfl hq, ?fr⟩
                            case fr => simp only [putO, layL]
                          · replace hge : 5 ≤ i := hgt
                            clear hgt
                            obtain rfl := eqi hi hge
                            have p1 := hpre 1 (by kernel_rfl)
                            have e1 : s1 = .agg #[.string (numS sx), .string (denS sx)] := hF.get 1 _ rfl (.inr p1)
                            subst e1
                            have p4 := hpre 4 (by kernel_rfl)
                            have e4 : s4 = .agg #[.string (numS dd), .string (denS dd)] := hF.get 4 _ rfl (.inr p4)
                            subst e4
                            refine step_of ⟨some 114, _, _, _, _, _⟩ rfl (fun K' hK => ?_)
                            go_simp
                            go_at_call 140
                            (with_reducible refine (QA1.out _ (HE.out.below (below_none hF.low))).mono ?_)
                            rintro e Wq ⟨rfl, hq⟩
                            refine hK.out _ _ ⟨_, hF.pure hok hla hpre rfl hq, ?fr⟩
                            case fr => simp only [putO, layL]
                        · replace hge : 6 ≤ i := hgt
                          clear hgt
                          rcases Nat.lt_or_ge i 7 with hlt | hgt
                          · replace hi := hlt
                            clear hlt
                            obtain rfl := eqi hi hge
                            refine step_of ⟨some 115, _, _, _, _, _⟩ rfl (fun K' hK => ?_)
                            go_simp
                            refine hK.out _ _ ⟨_, hF.pure hok hla hpre rfl (Below.refl _ _), ?fr⟩
                            case fr => simp only [putO, layL]
                          · replace hge : 7 ≤ i := hgt
                            clear hgt
                            rcases Nat.lt_or_ge i 8 with hlt | hgt
                            · replace hi := hlt
                              clear hlt
                              obtain rfl := eqi hi hge
                              have p6 := hpre 6 (by kernel_rfl)
                              have e6 : s6 = .pointer (some ⟨G, 8, none⟩) := hF.get 6 _ rfl (.inr p6)
                              subst e6
                              have hcc := (twelve_at (keep_block H7.out (below_none hF.low))).1
                              have cH70 := hcc.1
                              have cH71 := hcc.2.1
                              have cH72 := hcc.2.2.1
                              have cH73 := hcc.2.2.2.1
                              have cH74 := hcc.2.2.2.2.1
                              have cH75 := hcc.2.2.2.2.2.1
                              have cH76 := hcc.2.2.2.2.2.2.1
                              have cH77 := hcc.2.2.2.2.2.2.2.1
                              have cH78 := hcc.2.2.2.2.2.2.2.2.1
                              have cH79 := hcc.2.2.2.2.2.2.2.2.2.1
                              have cH710 := hcc.2.2.2.2.2.2.2.2.2.2.1
                              have cH711 := hcc.2.2.2.2.2.2.2.2.2.2.2
                              clear hcc
                              refine step_of ⟨some 116, _, _, _, _, _⟩ rfl (fun K' hK => ?_)
                              go_simp
                              refine hK.out _ _ ⟨_, hF.pure hok hla hpre rfl (Below.refl _ _), ?fr⟩
                              case fr => simp only [putO, layL]
                            · replace hge : 8 ≤ i := hgt
                              clear hgt
                              obtain rfl := eqi hi hge
                              have hcc := (two_at (keep_block H12.out (below_none hF.low))).1
                              have cH120 := hcc.1
                              have cH121 := hcc.2
                              clear hcc
                              refine step_of ⟨some 117, _, _, _, _, _⟩ rfl (fun K' hK => ?_)
                              go_simp
                              refine hK.out _ _ ⟨_, hF.pure hok hla hpre rfl (Below.refl _ _), ?fr⟩
                              case fr => simp only [putO, layL]
                    · replace hge : 9 ≤ i := hgt
                      clear hgt
                      rcases Nat.lt_or_ge i 14 with hlt | hgt
                      · replace hi := hlt
                        clear hlt
                        rcases Nat.lt_or_ge i 11 with hlt | hgt
                        · replace hi := hlt
                          clear hlt
                          rcases Nat.lt_or_ge i 10 with hlt | hgt
                          · replace hi := hlt
                            clear hlt
                            obtain rfl := eqi hi hge
                            have hcc := (two_at (keep_block H12.out (below_none hF.low))).1
                            have cH120 := hcc.1
                            have cH121 := hcc.2
                            clear hcc
                            refine step_of ⟨some 118, _, _, _, _, _⟩ rfl (fun K' hK => ?_)
                            go_simp
                            refine hK.out _ _ ⟨_, hF.pure hok hla hpre rfl (Below.refl _ _), ?fr⟩
                            case fr => simp only [putO, layL]
                          · replace hge : 10 ≤ i := hgt
                            clear hgt
                            obtain rfl := eqi hi hge
                            have p8 := hpre 8 (by kernel_rfl)
                            have e8 : s8 = .agg #[.string (numS e), .string (denS e)] := hF.get 8 _ rfl (.inr p8)
                            subst e8
                            have p9 := hpre 9 (by kernel_rfl)
                            have e9 : s9 = .agg #[.string (numS e), .string (denS e)] := hF.get 9 _ rfl (.inr p9)
                            subst e9
                            refine step_of ⟨some 119, _, _, _, _, _⟩ rfl (fun K' hK => ?_)
                            go_simp
                            go_at_call 144
                            (with_reducible refine (QM2.out _ (HE.out.below (below_none hF.low))).mono ?_)
                            rintro e Wq ⟨rfl, hq⟩
                            refine hK.out _ _ ⟨_, hF.pure hok hla hpre rfl hq, ?fr⟩
                            case fr => simp only [putO, layL]
                        · replace hge : 11 ≤ i := hgt
                          clear hgt
                          rcases Nat.lt_or_ge i 12 with hlt | hgt
                          · replace hi := hlt
                            clear hlt
                            obtain rfl := eqi hi hge
                            have p7 := hpre 7 (by kernel_rfl)
                            have e7 : s7 = .agg #[.string (numS sy), .string (denS sy)] := hF.get 7 _ rfl (.inr p7)
                            subst e7
                            have p10 := hpre 10 (by kernel_rfl)
                            have e10 : s10 = .agg #[.string (numS ee), .string (denS ee)] := hF.get 10 _ rfl (.inr p10)
                            subst e10
                            refine step_of ⟨some 120, _, _, _, _, _⟩ rfl (fun K' hK => ?_)
                            go_simp
                            go_at_call 140
                            (with_reducible refine (QA2.out _ (HE.out.below (below_none hF.low))).mono ?_)
                            rintro e Wq ⟨rfl, hq⟩
                            refine hK.out _ _ ⟨_, hF.pure hok hla hpre rfl hq, ?fr⟩
                            case fr => simp only [putO, layL]
                          · replace hge : 12 ≤ i := hgt
                            clear hgt
                            rcases Nat.lt_or_ge i 13 with hlt | hgt
                            · replace hi := hlt
                              clear hlt
                              obtain rfl := eqi hi hge
                              refine step_of ⟨some 121, _, _, _, _, _⟩ rfl (fun K' hK => ?_)
                              go_simp
                              refine hK.out _ _ ⟨_, hF.pure hok hla hpre rfl (Below.refl _ _), ?fr⟩
                              case fr => simp only [putO, layL]
                            · replace hge : 13 ≤ i := hgt
                              clear hgt
                              obtain rfl := eqi hi hge
                              have p12 := hpre 12 (by kernel_rfl)
                              have e12 : s12 = .pointer (some ⟨G, 10, none⟩) := hF.get 12 _ rfl (.inr p12)
                              subst e12
                              have hcc := (twelve_at (keep_block H7.out (below_none hF.low))).1
                              have cH70 := hcc.1
                              have cH71 := hcc.2.1
                              have cH72 := hcc.2.2.1
                              have cH73 := hcc.2.2.2.1
                              have cH74 := hcc.2.2.2.2.1
                              have cH75 := hcc.2.2.2.2.2.1
                              have cH76 := hcc.2.2.2.2.2.2.1
                              have cH77 := hcc.2.2.2.2.2.2.2.1
                              have cH78 := hcc.2.2.2.2.2.2.2.2.1
                              have cH79 := hcc.2.2.2.2.2.2.2.2.2.1
                              have cH710 := hcc.2.2.2.2.2.2.2.2.2.2.1
                              have cH711 := hcc.2.2.2.2.2.2.2.2.2.2.2
                              clear hcc
                              refine step_of ⟨some 122, _, _, _, _, _⟩ rfl (fun K' hK => ?_)
                              go_simp
                              refine hK.out _ _ ⟨_, hF.pure hok hla hpre rfl (Below.refl _ _), ?fr⟩
                              case fr => simp only [putO, layL]
                      · replace hge : 14 ≤ i := hgt
                        clear hgt
                        rcases Nat.lt_or_ge i 16 with hlt | hgt
                        · replace hi := hlt
                          clear hlt
                          rcases Nat.lt_or_ge i 15 with hlt | hgt
                          · replace hi := hlt
                            clear hlt
                            obtain rfl := eqi hi hge
                            have hcc := (two_at (keep_block H11.out (below_none hF.low))).1
                            have cH110 := hcc.1
                            have cH111 := hcc.2
                            clear hcc
                            refine step_of ⟨some 123, _, _, _, _, _⟩ rfl (fun K' hK => ?_)
                            go_simp
                            refine hK.out _ _ ⟨_, hF.pure hok hla hpre rfl (Below.refl _ _), ?fr⟩
                            case fr => simp only [putO, layL]
                          · replace hge : 15 ≤ i := hgt
                            clear hgt
                            obtain rfl := eqi hi hge
                            have hcc := (two_at (keep_block H12.out (below_none hF.low))).1
                            have cH120 := hcc.1
                            have cH121 := hcc.2
                            clear hcc
                            refine step_of ⟨some 124, _, _, _, _, _⟩ rfl (fun K' hK => ?_)
                            go_simp
                            refine hK.out _ _ ⟨_, hF.pure hok hla hpre rfl (Below.refl _ _), ?fr⟩
                            case fr => simp only [putO, layL]
                        · replace hge : 16 ≤ i := hgt
                          clear hgt
                          rcases Nat.lt_or_ge i 17 with hlt | hgt
                          · replace hi := hlt
                            clear hlt
                            obtain rfl := eqi hi hge
                            have p14 := hpre 14 (by kernel_rfl)
                            have e14 : s14 = .agg #[.string (numS d), .string (denS d)] := hF.get 14 _ rfl (.inr p14)
                            subst e14
                            have p15 := hpre 15 (by kernel_rfl)
                            have e15 : s15 = .agg #[.string (numS e), .string (denS e)] := hF.get 15 _ rfl (.inr p15)
                            subst e15
                            refine step_of ⟨some 125, _, _, _, _, _⟩ rfl (fun K' hK => ?_)
                            go_simp
                            go_at_call 144
                            (with_reducible refine (QM3.out _ (HE.out.below (below_none hF.low))).mono ?_)
                            rintro e Wq ⟨rfl, hq⟩
                            refine hK.out _ _ ⟨_, hF.pure hok hla hpre rfl hq, ?fr⟩
                            case fr => simp only [putO, layL]
                          · replace hge : 17 ≤ i := hgt
                            clear hgt
                            rcases Nat.lt_or_ge i 18 with hlt | hgt
                            · replace hi := hlt
                              clear hlt
                              obtain rfl := eqi hi hge
                              have p13 := hpre 13 (by kernel_rfl)
                              have e13 : s13 = .agg #[.string (numS sc), .string (denS sc)] := hF.get 13 _ rfl (.inr p13)
                              subst e13
                              have p16 := hpre 16 (by kernel_rfl)
                              have e16 : s16 = .agg #[.string (numS de), .string (denS de)] := hF.get 16 _ rfl (.inr p16)
                              subst e16
                              refine step_of ⟨some 126, _, _, _, _, _⟩ rfl (fun K' hK => ?_)
                              go_simp
                              go_at_call 140
                              (with_reducible refine (QA3.out _ (HE.out.below (below_none hF.low))).mono ?_)
                              rintro e Wq ⟨rfl, hq⟩
                              refine hK.out _ _ ⟨_, hF.pure hok hla hpre rfl hq, ?fr⟩
                              case fr => simp only [putO, layL]
                            · replace hge : 18 ≤ i := hgt
                              clear hgt
                              obtain rfl := eqi hi hge
                              refine step_of ⟨some 127, _, _, _, _, _⟩ rfl (fun K' hK => ?_)
                              go_simp
                              refine hK.out _ _ ⟨_, hF.pure hok hla hpre rfl (Below.refl _ _), ?fr⟩
                              case fr => simp only [putO, layL]
                  case hd =>
                    rintro listed vs WF hF hall
                    obtain ⟨s0, s1, s2, s3, s4, s5, s6, s7, s8, s9, s10, s11, s12, s13, s14, s15, s16, s17, s18, s19, s20, s21, s22, s23, hvs⟩ := exl_of 24 vs (fun l => vs = l) hF.len rfl
                    subst hvs
                    have e5 : s5 = .agg #[.string (numS tx), .string (denS tx)] := hF.get 5 _ rfl (.inr (hall 5 (by decide)))
                    subst e5
                    have e11 : s11 = .agg #[.string (numS ty), .string (denS ty)] := hF.get 11 _ rfl (.inr (hall 11 (by decide)))
                    subst e11
                    have e17 : s17 = .agg #[.string (numS tc), .string (denS tc)] := hF.get 17 _ rfl (.inr (hall 17 (by decide)))
                    subst e17
                    have e18 : s18 = .pointer (some ⟨G, 6, none⟩) := hF.get 18 _ rfl (.inr (hall 18 (by decide)))
                    subst e18
                    have hq := below_none hF.low
                    replace H4 := Lib.hid (keep_block H4.out hq)
                    replace H7 := Lib.hid (keep_block H7.out hq)
                    replace HX := Lib.hid (keep_block HX.out hq)
                    replace HY := Lib.hid (keep_block HY.out hq)
                    replace H11 := Lib.hid (keep_block H11.out hq)
                    replace H12 := Lib.hid (keep_block H12.out hq)
                    replace HE := Lib.hid (HE.out.below hq)
                    replace HG := Lib.hid (HG.out.trans (hq.mono HG.out.size))
                    clear hq
                    clear hF hall hok hna hla
                    simp only [putO, layL]
                    clear geW lt_4 lt_7 lt_X lt_Y lt_11 lt_12
                    obtain ⟨⟨x7_0, x7_1, x7_2, x7_3, x7_4, x7_5, x7_6, x7_7, x7_8, x7_9, x7_10, x7_11⟩, x7_f0, x7_f1, x7_f2, x7_f3, x7_f4, x7_f5, x7_f6, x7_f7, x7_f8, x7_f9, x7_f10, x7_f11⟩ := twelve_at H7.out
                    refine rest_one 19 ⟨none, _, _, _, _, _⟩ rfl (by kernel_rfl) rfl (fun K' hK => ?_)
                    go_simp
                    refine hK.out _ _ ?_
                    clear x7_0 x7_1 x7_2 x7_3 x7_4 x7_5 x7_6 x7_7 x7_8 x7_9 x7_10 x7_11 x7_f0 x7_f1 x7_f2 x7_f3 x7_f4 x7_f5 x7_f6 x7_f7 x7_f8 x7_f9 x7_f10 x7_f11
                    have k4 : ((WF.setCell ⟨G, 6, none⟩ (.string (numS tx))).setCell ⟨G, 7, none⟩ (.string (denS tx))).heap[R]? = some (.cells #[.slice none 0 0, .slice none 0 0, .string { data := #[] }, .string { data := #[] }, .string { data := #[] }, .string { data := #[] }, .string { data := #[] }, .string { data := #[] }, .string { data := #[] }, .string { data := #[] }, .string { data := #[] }, .string { data := #[] }] 147 (0, 0)) := (Below.heap_setCell _ ⟨G, 7, none⟩ _ _ (show R ≠ G from by have := L7_4.out; omega)).trans ((Below.heap_setCell _ ⟨G, 6, none⟩ _ _ (show R ≠ G from by have := L7_4.out; omega)).trans H4.out)
                    have kX : ((WF.setCell ⟨G, 6, none⟩ (.string (numS tx))).setCell ⟨G, 7, none⟩ (.string (denS tx))).heap[g1]? = some (.cells u1 24 (0, 0)) := (Below.heap_setCell _ ⟨G, 7, none⟩ _ _ (show g1 ≠ G from by have := LX_7.out; omega)).trans ((Below.heap_setCell _ ⟨G, 6, none⟩ _ _ (show g1 ≠ G from by have := LX_7.out; omega)).trans HX.out)
                    have kY : ((WF.setCell ⟨G, 6, none⟩ (.string (numS tx))).setCell ⟨G, 7, none⟩ (.string (denS tx))).heap[g2]? = some (.cells u2 24 (0, 0)) := (Below.heap_setCell _ ⟨G, 7, none⟩ _ _ (show g2 ≠ G from by have := LY_7.out; omega)).trans ((Below.heap_setCell _ ⟨G, 6, none⟩ _ _ (show g2 ≠ G from by have := LY_7.out; omega)).trans HY.out)
                    have k11 : ((WF.setCell ⟨G, 6, none⟩ (.string (numS tx))).setCell ⟨G, 7, none⟩ (.string (denS tx))).heap[b11]? = some (.cells #[.string (numS d), .string (denS d)] 24 (0, 0)) := (Below.heap_setCell _ ⟨G, 7, none⟩ _ _ (show b11 ≠ G from by have := L11_7.out; omega)).trans ((Below.heap_setCell _ ⟨G, 6, none⟩ _ _ (show b11 ≠ G from by have := L11_7.out; omega)).trans H11.out)
                    have k12 : ((WF.setCell ⟨G, 6, none⟩ (.string (numS tx))).setCell ⟨G, 7, none⟩ (.string (denS tx))).heap[b12]? = some (.cells #[.string (numS e), .string (denS e)] 24 (0, 0)) := (Below.heap_setCell _ ⟨G, 7, none⟩ _ _ (show b12 ≠ G from by have := L12_7.out; omega)).trans ((Below.heap_setCell _ ⟨G, 6, none⟩ _ _ (show b12 ≠ G from by have := L12_7.out; omega)).trans H12.out)
                    have knew : ((WF.setCell ⟨G, 6, none⟩ (.string (numS tx))).setCell ⟨G, 7, none⟩ (.string (denS tx))).heap[G]? = some (.cells #[.slice (some ⟨g1, 0, none⟩) k c1, .slice (some ⟨g2, 0, none⟩) k c2, .string (numS mx), .string (denS mx), .string (numS my), .string (denS my), .string (numS tx), .string (denS tx), .string (numS sy), .string (denS sy), .string (numS sc), .string (denS sc)] 147 (0, 0)) := heap_setCell_at (heap_setCell_at H7.out 6 (.string (numS tx))) 7 (.string (denS tx))
                    have kgr : Below W.heap.size W ((WF.setCell ⟨G, 6, none⟩ (.string (numS tx))).setCell ⟨G, 7, none⟩ (.string (denS tx))) := (HG.out.setCell (p := ⟨G, 6, none⟩) (show W.heap.size ≤ G from G7.out) _).setCell (p := ⟨G, 7, none⟩) (show W.heap.size ≤ G from G7.out) _
                    obtain ⟨WS10, hW⟩ : ∃ Z, ((WF.setCell ⟨G, 6, none⟩ (.string (numS tx))).setCell ⟨G, 7, none⟩ (.string (denS tx))) = Z := ⟨_, rfl⟩
                    rw [hW] at knew kgr k4 kX kY k11 k12
                    rw [hW]
                    replace H7 := Lib.hid knew
                    replace HG := Lib.hid kgr
                    replace HE := Lib.hid (HE0.out.below kgr)
                    replace H4 := Lib.hid k4
                    replace HX := Lib.hid kX
                    replace HY := Lib.hid kY
                    replace H11 := Lib.hid k11
                    replace H12 := Lib.hid k12
                    clear hW knew kgr k4 kX kY k11 k12
                    refine rest_one 20 ⟨some 128, _, _, _, _, _⟩ rfl (by kernel_rfl) rfl (fun K' hK => ?_)
                    go_simp
                    refine hK.out _ _ ?_
                    obtain ⟨⟨x7_0, x7_1, x7_2, x7_3, x7_4, x7_5, x7_6, x7_7, x7_8, x7_9, x7_10, x7_11⟩, x7_f0, x7_f1, x7_f2, x7_f3, x7_f4, x7_f5, x7_f6, x7_f7, x7_f8, x7_f9, x7_f10, x7_f11⟩ := twelve_at H7.out
                    refine rest_one 21 ⟨none, _, _, _, _, _⟩ rfl (by kernel_rfl) rfl (fun K' hK => ?_)
                    go_simp
                    refine hK.out _ _ ?_
                    clear x7_0 x7_1 x7_2 x7_3 x7_4 x7_5 x7_6 x7_7 x7_8 x7_9 x7_10 x7_11 x7_f0 x7_f1 x7_f2 x7_f3 x7_f4 x7_f5 x7_f6 x7_f7 x7_f8 x7_f9 x7_f10 x7_f11
                    have k4 : ((WS10.setCell ⟨G, 8, none⟩ (.string (numS ty))).setCell ⟨G, 9, none⟩ (.string (denS ty))).heap[R]? = some (.cells #[.slice none 0 0, .slice none 0 0, .string { data := #[] }, .string { data := #[] }, .string { data := #[] }, .string { data := #[] }, .string { data := #[] }, .string { data := #[] }, .string { data := #[] }, .string { data := #[] }, .string { data := #[] }, .string { data := #[] }] 147 (0, 0)) := (Below.heap_setCell _ ⟨G, 9, none⟩ _ _ (show R ≠ G from by have := L7_4.out; omega)).trans ((Below.heap_setCell _ ⟨G, 8, none⟩ _ _ (show R ≠ G from by have := L7_4.out; omega)).trans H4.out)
                    have kX : ((WS10.setCell ⟨G, 8, none⟩ (.string (numS ty))).setCell ⟨G, 9, none⟩ (.string (denS ty))).heap[g1]? = some (.cells u1 24 (0, 0)) := (Below.heap_setCell _ ⟨G, 9, none⟩ _ _ (show g1 ≠ G from by have := LX_7.out; omega)).trans ((Below.heap_setCell _ ⟨G, 8, none⟩ _ _ (show g1 ≠ G from by have := LX_7.out; omega)).trans HX.out)
                    have kY : ((WS10.setCell ⟨G, 8, none⟩ (.string (numS ty))).setCell ⟨G, 9, none⟩ (.string (denS ty))).heap[g2]? = some (.cells u2 24 (0, 0)) := (Below.heap_setCell _ ⟨G, 9, none⟩ _ _ (show g2 ≠ G from by have := LY_7.out; omega)).trans ((Below.heap_setCell _ ⟨G, 8, none⟩ _ _ (show g2 ≠ G from by have := LY_7.out; omega)).trans HY.out)
                    have k11 : ((WS10.setCell ⟨G, 8, none⟩ (.string (numS ty))).setCell ⟨G, 9, none⟩ (.string (denS ty))).heap[b11]? = some (.cells #[.string (numS d), .string (denS d)] 24 (0, 0)) := (Below.heap_setCell _ ⟨G, 9, none⟩ _ _ (show b11 ≠ G from by have := L11_7.out; omega)).trans ((Below.heap_setCell _ ⟨G, 8, none⟩ _ _ (show b11 ≠ G from by have := L11_7.out; omega)).trans H11.out)
                    have k12 : ((WS10.setCell ⟨G, 8, none⟩ (.string (numS ty))).setCell ⟨G, 9, none⟩ (.string (denS ty))).heap[b12]? = some (.cells #[.string (numS e), .string (denS e)] 24 (0, 0)) := (Below.heap_setCell _ ⟨G, 9, none⟩ _ _ (show b12 ≠ G from by have := L12_7.out; omega)).trans ((Below.heap_setCell _ ⟨G, 8, none⟩ _ _ (show b12 ≠ G from by have := L12_7.out; omega)).trans H12.out)
                    have knew : ((WS10.setCell ⟨G, 8, none⟩ (.string (numS ty))).setCell ⟨G, 9, none⟩ (.string (denS ty))).heap[G]? = some (.cells #[.slice (some ⟨g1, 0, none⟩) k c1, .slice (some ⟨g2, 0, none⟩) k c2, .string (numS mx), .string (denS mx), .string (numS my), .string (denS my), .string (numS tx), .string (denS tx), .string (numS ty), .string (denS ty), .string (numS sc), .string (denS sc)] 147 (0, 0)) := heap_setCell_at (heap_setCell_at H7.out 8 (.string (numS ty))) 9 (.string (denS ty))
                    have kgr : Below W.heap.size W ((WS10.setCell ⟨G, 8, none⟩ (.string (numS ty))).setCell ⟨G, 9, none⟩ (.string (denS ty))) := (HG.out.setCell (p := ⟨G, 8, none⟩) (show W.heap.size ≤ G from G7.out) _).setCell (p := ⟨G, 9, none⟩) (show W.heap.size ≤ G from G7.out) _
                    obtain ⟨WS11, hW⟩ : ∃ Z, ((WS10.setCell ⟨G, 8, none⟩ (.string (numS ty))).setCell ⟨G, 9, none⟩ (.string (denS ty))) = Z := ⟨_, rfl⟩
                    rw [hW] at knew kgr k4 kX kY k11 k12
                    rw [hW]
                    replace H7 := Lib.hid knew
                    replace HG := Lib.hid kgr
                    replace HE := Lib.hid (HE0.out.below kgr)
                    replace H4 := Lib.hid k4
                    replace HX := Lib.hid kX
                    replace HY := Lib.hid kY
                    replace H11 := Lib.hid k11
                    replace H12 := Lib.hid k12
                    clear hW knew kgr k4 kX kY k11 k12
                    refine rest_one 22 ⟨some 129, _, _, _, _, _⟩ rfl (by kernel_rfl) rfl (fun K' hK => ?_)
                    go_simp
                    refine hK.out _ _ ?_
                    obtain ⟨⟨x7_0, x7_1, x7_2, x7_3, x7_4, x7_5, x7_6, x7_7, x7_8, x7_9, x7_10, x7_11⟩, x7_f0, x7_f1, x7_f2, x7_f3, x7_f4, x7_f5, x7_f6, x7_f7, x7_f8, x7_f9, x7_f10, x7_f11⟩ := twelve_at H7.out
                    refine rest_one 23 ⟨none, _, _, _, _, _⟩ rfl (by kernel_rfl) rfl (fun K' hK => ?_)
                    go_simp
                    refine hK.out _ _ ?_
                    clear x7_0 x7_1 x7_2 x7_3 x7_4 x7_5 x7_6 x7_7 x7_8 x7_9 x7_10 x7_11 x7_f0 x7_f1 x7_f2 x7_f3 x7_f4 x7_f5 x7_f6 x7_f7 x7_f8 x7_f9 x7_f10 x7_f11
                    have k4 : ((WS11.setCell ⟨G, 10, none⟩ (.string (numS tc))).setCell ⟨G, 11, none⟩ (.string (denS tc))).heap[R]? = some (.cells #[.slice none 0 0, .slice none 0 0, .string { data := #[] }, .string { data := #[] }, .string { data := #[] }, .string { data := #[] }, .string { data := #[] }, .string { data := #[] }, .string { data := #[] }, .string { data := #[] }, .string { data := #[] }, .string { data := #[] }] 147 (0, 0)) := (Below.heap_setCell _ ⟨G, 11, none⟩ _ _ (show R ≠ G from by have := L7_4.out; omega)).trans ((Below.heap_setCell _ ⟨G, 10, none⟩ _ _ (show R ≠ G from by have := L7_4.out; omega)).trans H4.out)
                    have kX : ((WS11.setCell ⟨G, 10, none⟩ (.string (numS tc))).setCell ⟨G, 11, none⟩ (.string (denS tc))).heap[g1]? = some (.cells u1 24 (0, 0)) := (Below.heap_setCell _ ⟨G, 11, none⟩ _ _ (show g1 ≠ G from by have := LX_7.out; omega)).trans ((Below.heap_setCell _ ⟨G, 10, none⟩ _ _ (show g1 ≠ G from by have := LX_7.out; omega)).trans HX.out)
                    have kY : ((WS11.setCell ⟨G, 10, none⟩ (.string (numS tc))).setCell ⟨G, 11, none⟩ (.string (denS tc))).heap[g2]? = some (.cells u2 24 (0, 0)) := (Below.heap_setCell _ ⟨G, 11, none⟩ _ _ (show g2 ≠ G from by have := LY_7.out; omega)).trans ((Below.heap_setCell _ ⟨G, 10, none⟩ _ _ (show g2 ≠ G from by have := LY_7.out; omega)).trans HY.out)
                    have k11 : ((WS11.setCell ⟨G, 10, none⟩ (.string (numS tc))).setCell ⟨G, 11, none⟩ (.string (denS tc))).heap[b11]? = some (.cells #[.string (numS d), .string (denS d)] 24 (0, 0)) := (Below.heap_setCell _ ⟨G, 11, none⟩ _ _ (show b11 ≠ G from by have := L11_7.out; omega)).trans ((Below.heap_setCell _ ⟨G, 10, none⟩ _ _ (show b11 ≠ G from by have := L11_7.out; omega)).trans H11.out)
                    have k12 : ((WS11.setCell ⟨G, 10, none⟩ (.string (numS tc))).setCell ⟨G, 11, none⟩ (.string (denS tc))).heap[b12]? = some (.cells #[.string (numS e), .string (denS e)] 24 (0, 0)) := (Below.heap_setCell _ ⟨G, 11, none⟩ _ _ (show b12 ≠ G from by have := L12_7.out; omega)).trans ((Below.heap_setCell _ ⟨G, 10, none⟩ _ _ (show b12 ≠ G from by have := L12_7.out; omega)).trans H12.out)
                    have knew : ((WS11.setCell ⟨G, 10, none⟩ (.string (numS tc))).setCell ⟨G, 11, none⟩ (.string (denS tc))).heap[G]? = some (.cells #[.slice (some ⟨g1, 0, none⟩) k c1, .slice (some ⟨g2, 0, none⟩) k c2, .string (numS mx), .string (denS mx), .string (numS my), .string (denS my), .string (numS tx), .string (denS tx), .string (numS ty), .string (denS ty), .string (numS tc), .string (denS tc)] 147 (0, 0)) := heap_setCell_at (heap_setCell_at H7.out 10 (.string (numS tc))) 11 (.string (denS tc))
                    have kgr : Below W.heap.size W ((WS11.setCell ⟨G, 10, none⟩ (.string (numS tc))).setCell ⟨G, 11, none⟩ (.string (denS tc))) := (HG.out.setCell (p := ⟨G, 10, none⟩) (show W.heap.size ≤ G from G7.out) _).setCell (p := ⟨G, 11, none⟩) (show W.heap.size ≤ G from G7.out) _
                    obtain ⟨WS12, hW⟩ : ∃ Z, ((WS11.setCell ⟨G, 10, none⟩ (.string (numS tc))).setCell ⟨G, 11, none⟩ (.string (denS tc))) = Z := ⟨_, rfl⟩
                    rw [hW] at knew kgr k4 kX kY k11 k12
                    rw [hW]
                    replace H7 := Lib.hid knew
                    replace HG := Lib.hid kgr
                    replace HE := Lib.hid (HE0.out.below kgr)
                    replace H4 := Lib.hid k4
                    replace HX := Lib.hid kX
                    replace HY := Lib.hid kY
                    replace H11 := Lib.hid k11
                    replace H12 := Lib.hid k12
                    clear hW knew kgr k4 kX kY k11 k12
                    refine rest_end ?_
                    have HJ := Lib.hid (show RdJ W R G g1 g2 c1 c2 k u1 u2 mx my tx ty tc _ from ⟨H4.out, H7.out, HX.out, HY.out, HG.out⟩)
                    go_wp2
                    go_roundg (k - (i + 1))
                    case measure => omega
                    case rel => exact ⟨i + 1, by go_num, by omega, by omega, by rw [HTX.out.1, HTX.out.2.1, HTX.out.2.2]; exact HJ.out⟩
              · have hdd : decide ((i : Int) < (k : Int)) = false := decide_eq_false (by omega)
                have hdd2 : decide (i < k) = false := decide_eq_false hlt
                have hik : i = k := by omega
                subst hik
                obtain ⟨sx, hsx⟩ : ∃ x, XX i = x := ⟨_, rfl⟩
                obtain ⟨sy, hsy⟩ : ∃ x, YY i = x := ⟨_, rfl⟩
                obtain ⟨sc, hsc⟩ : ∃ x, XY i = x := ⟨_, rfl⟩
                rw [hsx, hsy, hsc] at H7
                have HSS := Lib.hid (And.intro hsx (And.intro hsy hsc))
                clear hsx hsy hsc hlt
                obtain ⟨⟨x0, x1, x2, x3, x4, x5, x6, x7, x8, x9, x10, x11⟩, _⟩ := twelve_at H7.out
                obtain ⟨⟨y0, y1, y2, y3, y4, y5, y6, y7, y8, y9, y10, y11⟩, yf0, yf1, yf2, yf3, yf4, yf5, yf6, yf7, yf8, yf9, yf10, yf11⟩ := twelve_at H4.out
                have hnew := set12_at H4.out (.slice (some ⟨g1, 0, none⟩) i c1) (.slice (some ⟨g2, 0, none⟩) i c2) (.string (numS mx)) (.string (denS mx)) (.string (numS my)) (.string (denS my)) (.string (numS sx)) (.string (denS sx)) (.string (numS sy)) (.string (denS sy)) (.string (numS sc)) (.string (denS sc))
                have HGL := Lib.hid (HG.out.trans (put12_below G4.out wr (.slice (some ⟨g1, 0, none⟩) i c1) (.slice (some ⟨g2, 0, none⟩) i c2) (.string (numS mx)) (.string (denS mx)) (.string (numS my)) (.string (denS my)) (.string (numS sx)) (.string (denS sx)) (.string (numS sy)) (.string (denS sy)) (.string (numS sc)) (.string (denS sc))))
                obtain ⟨⟨r0, r1, r2, r3, r4, r5, r6, r7, r8, r9, r10, r11⟩, _⟩ := twelve_at hnew
                clear hnew
                go_wp2
                refine bodyPost_ret (v := .agg #[.slice (some ⟨g1, 0, none⟩) i c1, .slice (some ⟨g2, 0, none⟩) i c2, .string (numS mx), .string (denS mx), .string (numS my), .string (denS my), .string (numS sx), .string (denS sx), .string (numS sy), .string (denS sy), .string (numS sc), .string (denS sc)]) (by simp [results, Tryz.results175, go_sem, r0, r1, r2, r3, r4, r5, r6, r7, r8, r9, r10, r11]) rfl ⟨⟨_, _, _, _, by rw [HSS.out.1, HSS.out.2.1, HSS.out.2.2]⟩, HGL.out⟩
end Go.Proofs.YtemdjmaakajhjaaGreatDoor.Num.Ft
