/- Contracts of the program's functions, joined from smaller texts. Conditions stand at each theorem. -/
import Derived.Test.YtjcdeeahjkfmoaaGreatDoorDeeB
import Derived.Test.YtjcdeeahjkfmoaaGreatDoorNumG
import Derived.Test.YtjcdeeahjkfmoaaGreatDoorDebB
import Derived.Test.YtjcdeeahjkfmoaaGreatDoorDecB
import Derived.Test.YtjcdeeahjkfmoaaGreatDoorDecA
import Derived.Test.YtjcdeeahjkfmoaaGreatDoorNumA
set_option linter.unusedVariables false
set_option linter.unusedSimpArgs false
set_option maxRecDepth 100000
set_option maxHeartbeats 4000000
namespace Go.Proofs.YtjcdeeahjkfmoaaGreatDoor
namespace Num
open Go.RowKit Go.Lib
theorem psize_arr (k : Int) (n d t : ByteArray) (on : Bool) (c r s : Int) (A : Option Addr) (L C : Nat) (w : World) (h5 : k = 5) : Calls Tryz.prog 238 #[.agg #[.int .i64 k, .string n, .string d, .string t, .bool on, .int .i64 c, .int .i64 r, .int .i64 s, .slice A L C]] w fun e w' => e = .returned (.tuple #[.int .i64 r, .int .i64 s]) ∧ Below w.heap.size w w' := by
 subst h5
 have hb : Below w.heap.size w (w.alloc (.cells #[.int .i64 5, .string n, .string d, .string t, .bool on, .int .i64 c, .int .i64 r, .int .i64 s, .slice A L C] 32)) := (Below.refl _ _).alloc (Nat.le_refl _) _
 have HL := hid hb
 have HX := hid (heap_alloc_new w (.cells #[.int .i64 5, .string n, .string d, .string t, .bool on, .int .i64 c, .int .i64 r, .int .i64 s, .slice A L C] 32))
 obtain ⟨W1, hW1⟩ : ∃ W1, w.alloc (.cells #[.int .i64 5, .string n, .string d, .string t, .bool on, .int .i64 c, .int .i64 r, .int .i64 s, .slice A L C] 32) = W1 := ⟨_, rfl⟩
 rw [hW1] at HX HL
 have HW := hid hW1
 clear hb hW1
 go_enter Tryz.func238, Tryz.ntmps238
 go_wp2_with fail
 rw [HW.out]
 obtain ⟨⟨x0, x1, x2, x3, x4, x5, x6, x7, x8⟩, _⟩ := nine_at HX.out
 go_quiet (fail)
 go_wp2
 go_ret2
 exact ⟨rfl, below_drewN HL.out _⟩
theorem psize_one (k : Int) (n d t : ByteArray) (on : Bool) (c r s : Int) (A : Option Addr) (L C : Nat) (w : World) (h5 : k ≠ 5) : Calls Tryz.prog 238 #[.agg #[.int .i64 k, .string n, .string d, .string t, .bool on, .int .i64 c, .int .i64 r, .int .i64 s, .slice A L C]] w fun e w' => e = .returned (.tuple #[.int .i64 1, .int .i64 1]) ∧ Below w.heap.size w w' := by
 have e1 : (k == 5) = false := by rw [beq_eq_false_iff_ne]; exact h5
 clear h5
 go_enter Tryz.func238, Tryz.ntmps238
 go_wp2
 go_ret2
 exact ⟨rfl, (Below.refl _ _).alloc (Nat.le_refl _) _⟩
theorem psize_any (v : Val) (w : World) : Calls Tryz.prog 238 #[v.agg] w fun e w' => e = .returned (.tuple #[.int .i64 (sizeOf v).1, .int .i64 (sizeOf v).2]) ∧ Below w.heap.size w w' := by
 by_cases h5 : v.k = 5
 ·rw [show sizeOf v = (v.r, v.s) from if_pos h5]
  exact psize_arr v.k v.n v.d v.t v.on v.c v.r v.s v.A v.L v.C w h5
 ·rw [show sizeOf v = (1, 1) from if_neg h5]
  exact psize_one v.k v.n v.d v.t v.on v.c v.r v.s v.A v.L v.C w h5
theorem plist_arr (n d t : ByteArray) (on : Bool) (c r s : Int) (A : Option Addr) (L C : Nat) (w : World) : Calls Tryz.prog 240 #[.agg #[.int .i64 5, .string n, .string d, .string t, .bool on, .int .i64 c, .int .i64 r, .int .i64 s, .slice A L C]] w fun e w' => e = .returned (.slice A L C) ∧ Below w.heap.size w w' := by
 have HL := hid (show Below w.heap.size w (w.alloc (.cells #[.int .i64 5, .string n, .string d, .string t, .bool on, .int .i64 c, .int .i64 r, .int .i64 s, .slice A L C] 32)) from (Below.refl _ _).alloc (Nat.le_refl _) _)
 go_enter Tryz.func240, Tryz.ntmps240
 go_wp2
 go_ret
 exact ⟨rfl, HL.out⟩
theorem plist_one (k : Int) (n d t : ByteArray) (on : Bool) (c r s : Int) (A : Option Addr) (L C : Nat) (w : World) (h5 : k ≠ 5) : Calls Tryz.prog 240 #[.agg #[.int .i64 k, .string n, .string d, .string t, .bool on, .int .i64 c, .int .i64 r, .int .i64 s, .slice A L C]] w fun e w' => ∃ g, e = .returned (.slice (some ⟨g, 0, none⟩) 1 1) ∧ w.heap.size ≤ g ∧ ValsAt w' g 0 [⟨k, n, d, t, on, c, r, s, A, L, C⟩] ∧ Below w.heap.size w w' := by
 have e1 : (k == 5) = false := by rw [beq_eq_false_iff_ne]; exact h5
 clear h5
 have h2 := two_new w (.cells #[.int .i64 k, .string n, .string d, .string t, .bool on, .int .i64 c, .int .i64 r, .int .i64 s, .slice A L C] 32) (.cells #[.int .i64 k, .string n, .string d, .string t, .bool on, .int .i64 c, .int .i64 r, .int .i64 s, .slice A L C] 32)
 have HV := hid (vals_one ⟨k, n, d, t, on, c, r, s, A, L, C⟩ h2.2.1)
 have HB := hid h2.2.2
 clear h2
 go_enter Tryz.func240, Tryz.ntmps240
 go_wp2
 go_ret
 exact ⟨_, rfl, Nat.le_succ _, HV.out, HB.out⟩
theorem plist_any (v : Val) (vs : List Val) (w : World) (hv : v.k = 5 → ItemsAt w v vs) (hl : v.k = 5 → vs.length = v.L) : Calls Tryz.prog 240 #[v.agg] w (ItemsRet w v vs) := by
 by_cases h5 : v.k = 5
 ·have e : itemsOf v vs = vs := if_pos h5
  have hI := hv h5
  have hL := hl h5
  obtain ⟨k, n, d, t, on, c, r, s, A, L, C⟩ := v
  have h5 : k = 5 := h5
  subst h5
  refine (plist_arr n d t on c r s A L C w).mono ?_
  rintro en w' ⟨rfl, hb⟩
  unfold ItemsRet
  rw [e]
  refine ⟨A, C, by rw [hL], hb, fun h0 => ?_⟩
  obtain ⟨g, o, h1, _, h3⟩ := hI (by show 0 < L; have hL : vs.length = L := hL; omega)
  exact ⟨g, o, h1, h3.below hb⟩
 ·have e : itemsOf v vs = [v] := if_neg h5
  obtain ⟨k, n, d, t, on, c, r, s, A, L, C⟩ := v
  refine (plist_one k n d t on c r s A L C w h5).mono ?_
  rintro en w' ⟨g, rfl, hg, hvs, hb⟩
  unfold ItemsRet
  rw [e]
  exact ⟨_, _, rfl, hb, fun _ => ⟨g, 0, rfl, hvs⟩⟩
structure GrowF (w : World) (v : Value) (done : List Rat) (W : World) : Prop where
 low : Below w.heap.size w W
 own : OwnF w.heap.size v done W
theorem GrowF.step {w W W' : World} {v : Value} {done : List Rat} (h : GrowF w v done W) (hb : Below W.heap.size W W') : GrowF w v done W' :=
 ⟨h.low.trans (hb.mono h.low.size), h.own.kept (only_of_below hb none) (by cases v.ownBlock <;> simp)⟩
theorem GrowF.push {w W W' : World} {v v' : Value} {done : List Rat} {q : Rat} (h : GrowF w v done W) (ho : W'.ownsRow w.heap.size 30 2 v' (done.length + 1) (fracCells done ++ [.string (numS q), .string (denS q)])) (hg : W.grownBy W' v.ownBlock) : GrowF w v' (done ++ [q]) W' :=
 ⟨h.low.grown hg h.low.size (fun r hr => own_ge h.own r hr), by unfold OwnF; rw [fracCells_snoc, List.length_append]; exact ho⟩
def CodeRet (w : World) (c : Int) : Ending → World → Prop := fun e w' => ((c = 0 ∧ ∃ v, e = .returned v) ∨ (c ≠ 0 ∧ e = stopped c)) ∧ Below w.heap.size w w'
theorem pinside_any (a : Arg) (w : World) (hok : ArgOk w a) (hsi : ∀ x ∈ a.items, SingleOk x) (h9 : a.items.length ≤ 10000000000) :
  Calls Tryz.prog 237 #[a.v.agg] w (CodeRet w (codeOf a.items)) := by
 have T1 := hid (fun W (hb : Below w.heap.size w W) => plist_any a.v a.vs W (fun h5 => ((hok.below hb).row h5).1) (fun h5 => (hok.row h5).2))
 unfold ItemsRet at T1
 rw [show itemsOf a.v a.vs = a.items from rfl] at T1
 obtain ⟨its, hits⟩ : ∃ z, a.items = z := ⟨_, rfl⟩
 rw [hits] at T1 h9 hsi ⊢
 obtain ⟨il, hil⟩ : ∃ z, its.length = z := ⟨_, rfl⟩
 rw [hil] at T1 h9
 have HIL := hid hil
 have HSI := hid hsi
 obtain ⟨v, vs⟩ := a
 clear hits hil hok hsi
 obtain ⟨vk, vn, vd, vt, vo, vc, vr, vz, vA, vL, vC⟩ := v
 have e0 : Val.agg ⟨vk, vn, vd, vt, vo, vc, vr, vz, vA, vL, vC⟩ = .agg #[.int .i64 vk, .string vn, .string vd, .string vt, .bool vo, .int .i64 vc, .int .i64 vr, .int .i64 vz, .slice vA vL vC] := rfl
 simp only [e0] at T1 ⊢
 clear e0
 obtain ⟨ans, hans⟩ : ∃ z, codeOf its = z := ⟨_, rfl⟩
 rw [hans]
 have HANS := hid hans
 clear hans
 obtain ⟨i0, hi0', hz0, hz1, hz2⟩ := info_frac
 have hb0 : Below w.heap.size w (w.alloc (.cells #[.int .i64 vk, .string vn, .string vd, .string vt, .bool vo, .int .i64 vc, .int .i64 vr, .int .i64 vz, .slice vA vL vC] 32)) := (Below.refl _ _).alloc (Nat.le_refl _) _
 have HX := hid (heap_alloc_new w (.cells #[.int .i64 vk, .string vn, .string vd, .string vt, .bool vo, .int .i64 vc, .int .i64 vr, .int .i64 vz, .slice vA vL vC] 32))
 have HB0 := hid hb0
 clear hb0
 go_enter Tryz.func237, Tryz.ntmps237
 obtain ⟨⟨x0, x1, x2, x3, x4, x5, x6, x7, x8⟩, _⟩ := nine_at HX.out
 go_wp2_with fail
 refine (T1.out _ HB0.out).mono ?_
 rintro e w1 ⟨iA, iC, rfl, hb, hit⟩
 have HL := hid (HB0.out.trans (hb.mono HB0.out.size))
 have HIT := hid hit
 clear hb hit x0 x1 x2 x3 x4 x5 x6 x7 x8 HX
 have HI0 := hid (show GrowF w1 (.slice none 0 0) [] w1 from ⟨Below.refl _ _, World.ownsRow_nil _ _ _ _⟩)
 go_wp2_with fail
 go_loopg [3, 9] il (fun gh v3 v9 wx => ∃ (j : Nat) (done : List Rat), v9 = .int .i64 (j : Int) ∧ j ≤ il ∧ gh = il - j ∧ done.length ≤ j ∧ GrowF w1 v3 done wx ∧ ∀ m (h : m < its.length), m < j → its[m].k ≠ 4)
 case atStart => exact ⟨0, [], rfl, Nat.zero_le _, rfl, Nat.zero_le _, HI0.out, fun m _ h => absurd h (Nat.not_lt_zero m)⟩
 case round =>
  clear HI0
  obtain ⟨j, done, rfl, hj, rfl, hdj, hgr, hsm⟩ := hrel
  have HG := hid hgr
  have HSM := hid hsm
  clear hgr hsm
  by_cases hjl : j < il
  ·have hd1 : decide ((j : Int) < (il : Int)) = true := decide_eq_true (by omega)
   have hd2 : decide (j < il) = true := decide_eq_true hjl
   have hji : j < its.length := by rw [HIL.out]; exact hjl
   obtain ⟨g, o, hge, hvs⟩ := HIT.out (by omega)
   subst hge
   have hcells := (hvs.below HG.out.low).at j hji
   have hso := HSI.out _ (List.getElem_mem hji)
   obtain ⟨x, hx⟩ : ∃ x, its[j] = x := ⟨_, rfl⟩
   have HXX := hid hx
   rw [hx] at hcells hso
   clear hx hvs
   have hi0 : (0 : Int) ≤ (j : Int) := by omega
   have hi1 : (j : Int) < (il : Int) := by omega
   have HS3 : x.k ≠ 4 → Hid (∀ m (h : m < its.length), m < j + 1 → its[m].k ≠ 4) := by
    intro h4
    refine hid fun m hm hmj => ?_
    by_cases hmj2 : m < j
    ·exact HSM.out m hm hmj2
    ·have hmj : m = j := by omega
     subst hmj
     rw [HXX.out]; exact h4
   by_cases hk1 : x.k = 1
   ·have HS4 := HS3 (by omega)
    obtain ⟨q, yA, yC, hf, rfl⟩ := num_fields hso hk1
    have hcells : CellsAt wr g (o + j * 9) (.int .i64 1) (.string (numS q)) (.string (denS q)) (.string ⟨#[]⟩) (.bool false) (.int .i64 0) (.int .i64 0) (.int .i64 0) (.slice yA 0 yC) := hcells
    obtain ⟨c0, c1, c2, c3, c4, c5, c6, c7, c8⟩ := hcells
    clear hk1 hso hf HS3 HXX
    obtain ⟨W2, hW2⟩ : ∃ W2, wr.alloc (.cells #[.int .i64 1, .string (numS q), .string (denS q), .string ⟨#[]⟩, .bool false, .int .i64 0, .int .i64 0, .int .i64 0, .slice yA 0 yC] 32) = W2 := ⟨_, rfl⟩
    have HT2 := hid (HG.out.step ((Below.refl wr.heap.size wr).alloc (Nat.le_refl _) (.cells #[.int .i64 1, .string (numS q), .string (denS q), .string ⟨#[]⟩, .bool false, .int .i64 0, .int .i64 0, .int .i64 0, .slice yA 0 yC] 32)))
    rw [hW2] at HT2
    have HT3 := hid (HT2.out.step ((Below.refl W2.heap.size W2).alloc (Nat.le_refl _) (.cells #[.string (numS q), .string (denS q)] 30)))
    have hown := HT3.out.own
    unfold OwnF at hown
    obtain ⟨dl, hdl⟩ : ∃ z, done.length = z := ⟨_, rfl⟩
    rw [hdl] at hown hdj
    have HDL := hid hdl
    obtain ⟨av, cv, hu⟩ := owns_form hown
    subst hu
    have HOW := hid hown
    clear hown hdl
    have hml : dl + 1 ≤ maxLen := by unfold maxLen; omega
    have hpos : W2.heap.size = wr.heap.size + 1 := by rw [← hW2]; simp
    have hnews := World.news_of_block (cs := #[.string (numS q), .string (denS q)]) (t := 30) (fr := (0, 0)) (heap_alloc_new W2 (.cells #[.string (numS q), .string (denS q)] 30))
    rw [hpos] at hnews
    have HNW := hid hnews
    have HBS := hid (show w1.heap.size ≤ (W2.alloc (.cells #[.string (numS q), .string (denS q)] 30)).heap.size from HT3.out.low.size)
    rw [← hW2] at HOW HNW HBS
    have HW2 := hid hW2
    clear hnews hpos hW2
    go_wp2_with (at_builtin; refine wpList_append_own _ rfl _ _ 148 rfl w1.heap.size 30 i0 _ 2 32 Tryz.underlying148 hi0' hz0 hz1 hz2 rfl (by decide) (.slice av dl cv) dl (fracCells done) rfl HOW.out ⟨wr.heap.size + 1, 0, none⟩ 1 1 [.string (numS q), .string (denS q)] rfl rfl HNW.out (by simp [Value.oneCell']) hml (by omega) HBS.out ?_)
    intro v5 w5 hown5 hgrow5 _
    rw [HW2.out] at hgrow5
    have HT5 := hid (HT3.out.push (by rw [HDL.out]; exact hown5) hgrow5)
    have HLN := hid (show (done ++ [q]).length ≤ j + 1 by rw [List.length_append, HDL.out]; show dl + 1 ≤ _; omega)
    clear hown5 hgrow5 c0 c1 c2 c3 c4 c5 c6 c7 c8
    go_wp2
    go_roundg (il - (j + 1))
    case measure => omega
    case rel => exact ⟨j + 1, _, by go_num, by omega, by omega, HLN.out, HT5.out, HS4.out⟩
   ·by_cases hk4 : x.k = 4
    ·have hcode := hso.code hk4
     have hce := codeOf_at hji (fun m hm hmj => HSM.out m hm hmj) (by rw [HXX.out]; exact hk4)
     rw [HXX.out, HANS.out] at hce
     have HCE := hid hce
     obtain ⟨yk, yn, yd, yt, yo, yc, yr, ys, yA, yL, yC⟩ := x
     have hcells : CellsAt wr g (o + j * 9) (.int .i64 yk) (.string yn) (.string yd) (.string yt) (.bool yo) (.int .i64 yc) (.int .i64 yr) (.int .i64 ys) (.slice yA yL yC) := hcells
     obtain ⟨c0, c1, c2, c3, c4, c5, c6, c7, c8⟩ := hcells
     have hk4 : yk = 4 := hk4
     subst hk4
     have hcode : 1 ≤ yc ∧ yc ≤ 8 := hcode
     have HC0 := hid (show yc ≠ 0 by omega)
     have HB2 := hid (HG.out.low.trans (((Below.refl wr.heap.size wr).alloc (Nat.le_refl _) (.cells #[.int .i64 4, .string yn, .string yd, .string yt, .bool yo, .int .i64 yc, .int .i64 yr, .int .i64 ys, .slice yA yL yC] 32)).mono HG.out.low.size))
     clear hce hcode hso HS3 hk1
     go_wp2_with fail
     refine (stop_code yc _ HC0.out).mono ?_
     rintro e w6 ⟨rfl, rfl⟩
     unfold stopped
     go_wp2
     exact ⟨rfl, .inr ⟨by rw [HCE.out]; exact HC0.out, by rw [HCE.out]; rfl⟩, HL.out.trans (HB2.out.mono HL.out.size)⟩
    ·have HS4 := HS3 hk4
     obtain ⟨yk, yn, yd, yt, yo, yc, yr, ys, yA, yL, yC⟩ := x
     have hcells : CellsAt wr g (o + j * 9) (.int .i64 yk) (.string yn) (.string yd) (.string yt) (.bool yo) (.int .i64 yc) (.int .i64 yr) (.int .i64 ys) (.slice yA yL yC) := hcells
     obtain ⟨c0, c1, c2, c3, c4, c5, c6, c7, c8⟩ := hcells
     have q1 : (yk == 1) = false := by rw [beq_eq_false_iff_ne]; exact hk1
     have q4 : (yk == 4) = false := by rw [beq_eq_false_iff_ne]; exact hk4
     have HT2 := hid (HG.out.step ((Below.refl wr.heap.size wr).alloc (Nat.le_refl _) (.cells #[.int .i64 yk, .string yn, .string yd, .string yt, .bool yo, .int .i64 yc, .int .i64 yr, .int .i64 ys, .slice yA yL yC] 32)))
     clear hk1 hk4 hso HS3 HXX
     go_wp2
     go_roundg (il - (j + 1))
     case measure => omega
     case rel => exact ⟨j + 1, done, by go_num, by omega, by omega, by omega, HT2.out, HS4.out⟩
  ·have hd1 : decide ((j : Int) < (il : Int)) = false := decide_eq_false (by omega)
   have hd2 : decide (j < il) = false := decide_eq_false hjl
   have hc := codeOf_none (l := its) (fun m hm => HSM.out m hm (by have := HIL.out; omega))
   rw [HANS.out] at hc
   have HC := hid hc
   clear hjl hc
   go_wp2
   go_ret
   exact ⟨.inl ⟨HC.out, _, rfl⟩, HL.out.trans (HG.out.low.mono HL.out.size)⟩
theorem pfaults_one (a : Arg) (g C : Nat) (w : World) (hok : ArgOk w a) (hsi : ∀ x ∈ a.items, SingleOk x) (h9 : a.items.length ≤ 10000000000) (hv : ValsAt w g 0 [a.v]) :
  Calls Tryz.prog 239 #[.slice (some ⟨g, 0, none⟩) 1 C] w (CodeRet w (codeOf a.items)) := by
 have T1 := hid (fun W (hb : Below w.heap.size w W) => pinside_any a W (hok.below hb) hsi h9)
 unfold CodeRet at T1
 obtain ⟨cd, hcd⟩ : ∃ z, codeOf a.items = z := ⟨_, rfl⟩
 rw [hcd] at T1 ⊢
 obtain ⟨v, vs⟩ := a
 obtain ⟨vk, vn, vd, vt, vo, vc, vr, vz, vA, vL, vC⟩ := v
 have e0 : Val.agg ⟨vk, vn, vd, vt, vo, vc, vr, vz, vA, vL, vC⟩ = .agg #[.int .i64 vk, .string vn, .string vd, .string vt, .bool vo, .int .i64 vc, .int .i64 vr, .int .i64 vz, .slice vA vL vC] := rfl
 simp only [e0] at T1
 obtain ⟨c0, c1, c2, c3, c4, c5, c6, c7, c8⟩ := (show CellsAt w g 0 (.int .i64 vk) (.string vn) (.string vd) (.string vt) (.bool vo) (.int .i64 vc) (.int .i64 vr) (.int .i64 vz) (.slice vA vL vC) from hv.at 0 (by simp))
 have hb0 : Below w.heap.size w (w.alloc (.cells #[.int .i64 vk, .string vn, .string vd, .string vt, .bool vo, .int .i64 vc, .int .i64 vr, .int .i64 vz, .slice vA vL vC] 32)) := (Below.refl _ _).alloc (Nat.le_refl _) _
 have HX := hid (heap_alloc_new w (.cells #[.int .i64 vk, .string vn, .string vd, .string vt, .bool vo, .int .i64 vc, .int .i64 vr, .int .i64 vz, .slice vA vL vC] 32))
 have HB0 := hid hb0
 clear hb0 e0 hv hok hsi h9 hcd
 go_enter Tryz.func239, Tryz.ntmps239
 go_wp2_with fail
 refine wp_loop_rounds 2 ?_
 rw [rounds_succ]
 obtain ⟨⟨x0, x1, x2, x3, x4, x5, x6, x7, x8⟩, _⟩ := nine_at HX.out
 go_wp2_with fail
 refine (T1.out _ HB0.out).mono ?_
 rintro e w1 ⟨hor, hb⟩
 have HL := hid (HB0.out.trans (hb.mono HB0.out.size))
 rcases hor with ⟨rfl, v, rfl⟩ | ⟨h0, rfl⟩
 ·clear hb x0 x1 x2 x3 x4 x5 x6 x7 x8
  go_wp2
  rw [rounds_succ]
  go_wp2
  go_end0
  exact ⟨.inl ⟨rfl, _, rfl⟩, HL.out⟩
 ·have H0 := hid h0
  clear hb h0
  unfold stopped
  go_wp2
  exact ⟨rfl, .inr ⟨H0.out, rfl⟩, HL.out⟩
end Num
namespace Num
def Mx : Type := Nat → Nat → Rat
def swapM (m : Mx) (i k : Nat) : Mx := fun r => if r = i then m k else if r = k then m i else m r
def rowM (m : Mx) (j i : Nat) (f : Rat) : Mx := fun r c => if r = j then m j c - f * m i c else m r c
def scaleM (m : Mx) (e : Nat → Rat) : Mx := fun r c => m r c * e r
def unitM : Mx := fun r c => if r = c then 1 else 0
def d2 (m : Mx) (a b x y : Nat) : Rat := m a x * m b y - m a y * m b x
def d3 (m : Mx) (a b c x y z : Nat) : Rat := m a x * d2 m b c y z - m a y * d2 m b c x z + m a z * d2 m b c x y
def detM : Nat → Mx → Rat
 | 1, m => m 0 0
 | 2, m => d2 m 0 1 0 1
 | 3, m => d3 m 0 1 2 0 1 2
 | 4, m => m 0 0 * d3 m 1 2 3 1 2 3 - m 0 1 * d3 m 1 2 3 0 2 3 + m 0 2 * d3 m 1 2 3 0 1 3 - m 0 3 * d3 m 1 2 3 0 1 2
 | _, _ => 1
def sumN (f : Nat → Rat) : Nat → Rat
 | 0 => 0
 | k + 1 => sumN f k + f k
def prodN (f : Nat → Rat) : Nat → Rat
 | 0 => 1
 | k + 1 => prodN f k * f k
def mulM (n : Nat) (a b : Mx) : Mx := fun r c => sumN (fun k => a r k * b k c) n
theorem det_swap {n i k : Nat} (m : Mx) (h4 : n ≤ 4) (hi : i < k) (hk : k < n) : detM n (swapM m i k) = - detM n m := by
 obtain rfl | rfl | rfl | rfl : n = 1 ∨ n = 2 ∨ n = 3 ∨ n = 4 := by omega
 ·omega
 ·obtain ⟨rfl, rfl⟩ : i = 0 ∧ k = 1 := by omega
  simp [detM, d2, swapM]; grind
 ·obtain ⟨rfl, rfl⟩ | ⟨rfl, rfl⟩ | ⟨rfl, rfl⟩ : i = 0 ∧ k = 1 ∨ i = 0 ∧ k = 2 ∨ i = 1 ∧ k = 2 := by omega
  all_goals (simp [detM, d3, d2, swapM]; grind)
 ·obtain ⟨rfl, rfl⟩ | ⟨rfl, rfl⟩ | ⟨rfl, rfl⟩ | ⟨rfl, rfl⟩ | ⟨rfl, rfl⟩ | ⟨rfl, rfl⟩ : i = 0 ∧ k = 1 ∨ i = 0 ∧ k = 2 ∨ i = 0 ∧ k = 3 ∨ i = 1 ∧ k = 2 ∨ i = 1 ∧ k = 3 ∨ i = 2 ∧ k = 3 := by omega
  all_goals (simp [detM, d3, d2, swapM]; grind)
theorem det_row {n i j : Nat} (m : Mx) (f : Rat) (h4 : n ≤ 4) (hi : i < n) (hj : j < n) (hne : j ≠ i) : detM n (rowM m j i f) = detM n m := by
 obtain rfl | rfl | rfl | rfl : n = 1 ∨ n = 2 ∨ n = 3 ∨ n = 4 := by omega
 ·omega
 ·obtain ⟨rfl, rfl⟩ | ⟨rfl, rfl⟩ : i = 0 ∧ j = 1 ∨ i = 1 ∧ j = 0 := by omega
  all_goals (simp [detM, d2, rowM]; grind)
 ·obtain ⟨rfl, rfl⟩ | ⟨rfl, rfl⟩ | ⟨rfl, rfl⟩ | ⟨rfl, rfl⟩ | ⟨rfl, rfl⟩ | ⟨rfl, rfl⟩ : i = 0 ∧ j = 1 ∨ i = 0 ∧ j = 2 ∨ i = 1 ∧ j = 2 ∨ i = 1 ∧ j = 0 ∨ i = 2 ∧ j = 0 ∨ i = 2 ∧ j = 1 := by omega
  all_goals (simp [detM, d3, d2, rowM]; grind)
 ·obtain ⟨rfl, rfl⟩ | ⟨rfl, rfl⟩ | ⟨rfl, rfl⟩ | ⟨rfl, rfl⟩ | ⟨rfl, rfl⟩ | ⟨rfl, rfl⟩ | ⟨rfl, rfl⟩ | ⟨rfl, rfl⟩ | ⟨rfl, rfl⟩ | ⟨rfl, rfl⟩ | ⟨rfl, rfl⟩ | ⟨rfl, rfl⟩ : i = 0 ∧ j = 1 ∨ i = 0 ∧ j = 2 ∨ i = 0 ∧ j = 3 ∨ i = 1 ∧ j = 2 ∨ i = 1 ∧ j = 3 ∨ i = 2 ∧ j = 3 ∨ i = 1 ∧ j = 0 ∨ i = 2 ∧ j = 0 ∨ i = 3 ∧ j = 0 ∨ i = 2 ∧ j = 1 ∨ i = 3 ∧ j = 1 ∨ i = 3 ∧ j = 2 := by omega
  all_goals (simp [detM, d3, d2, rowM]; grind)
theorem det_scale {n : Nat} (m : Mx) (e : Nat → Rat) (h4 : n ≤ 4) : detM n (scaleM m e) = detM n m * prodN e n := by
 obtain rfl | rfl | rfl | rfl | rfl : n = 0 ∨ n = 1 ∨ n = 2 ∨ n = 3 ∨ n = 4 := by omega
 all_goals (simp [detM, d3, d2, scaleM, prodN]; try grind)
def Tri (n i : Nat) (m : Mx) : Prop := ∀ r c, c < i → c < r → r < n → m r c = 0
theorem det_tri {n : Nat} (m : Mx) (h4 : n ≤ 4) (h : Tri n n m) : detM n m = prodN (fun r => m r r) n := by
 obtain rfl | rfl | rfl | rfl | rfl : n = 0 ∨ n = 1 ∨ n = 2 ∨ n = 3 ∨ n = 4 := by omega
 ·rfl
 ·simp [detM, prodN]; try grind
 ·have a := h 1 0 (by decide) (by decide) (by decide)
  simp [detM, d2, prodN, a]; try grind
 ·have a := h 1 0 (by decide) (by decide) (by decide)
  have b := h 2 0 (by decide) (by decide) (by decide)
  have c := h 2 1 (by decide) (by decide) (by decide)
  simp [detM, d3, d2, prodN, a, b, c]; try grind
 ·have a := h 1 0 (by decide) (by decide) (by decide)
  have b := h 2 0 (by decide) (by decide) (by decide)
  have c := h 2 1 (by decide) (by decide) (by decide)
  have d := h 3 0 (by decide) (by decide) (by decide)
  have e := h 3 1 (by decide) (by decide) (by decide)
  have f := h 3 2 (by decide) (by decide) (by decide)
  simp [detM, d3, d2, prodN, a, b, c, d, e, f]; try grind
theorem det_none {n i : Nat} (m : Mx) (h4 : n ≤ 4) (hi : i < n) (h : Tri n i m) (hz : ∀ r, i ≤ r → r < n → m r i = 0) : detM n m = 0 := by
 have key : ∀ r c, c ≤ i → r < n → (c < r ∨ c = i ∧ i ≤ r) → m r c = 0 := by
  intro r c hc hr hx
  rcases Nat.lt_or_ge c i with h1 | h1
  ·exact h r c h1 (by omega) hr
  ·have : c = i := by omega
   subst this
   exact hz r (by omega) hr
 obtain rfl | rfl | rfl | rfl : n = 1 ∨ n = 2 ∨ n = 3 ∨ n = 4 := by omega
 ·obtain rfl : i = 0 := by omega
  have a := key 0 0 (by decide) (by decide) (by omega)
  simp [detM, a]
 ·obtain rfl | rfl : i = 0 ∨ i = 1 := by omega
  all_goals
   have a := key 1 0 (by decide) (by decide) (by omega)
  ·have b := key 0 0 (by decide) (by decide) (by omega)
   simp [detM, d2, a, b]; try grind
  ·have b := key 1 1 (by decide) (by decide) (by omega)
   simp [detM, d2, a, b]; try grind
 ·obtain rfl | rfl | rfl : i = 0 ∨ i = 1 ∨ i = 2 := by omega
  all_goals
   have a := key 1 0 (by decide) (by decide) (by omega)
   have b := key 2 0 (by decide) (by decide) (by omega)
  ·have c := key 0 0 (by decide) (by decide) (by omega)
   simp [detM, d3, d2, a, b, c]; try grind
  ·have c := key 1 1 (by decide) (by decide) (by omega)
   have d := key 2 1 (by decide) (by decide) (by omega)
   simp [detM, d3, d2, a, b, c, d]; try grind
  ·have c := key 2 1 (by decide) (by decide) (by omega)
   have d := key 2 2 (by decide) (by decide) (by omega)
   simp [detM, d3, d2, a, b, c, d]; try grind
 ·obtain rfl | rfl | rfl | rfl : i = 0 ∨ i = 1 ∨ i = 2 ∨ i = 3 := by omega
  all_goals
   have a := key 1 0 (by decide) (by decide) (by omega)
   have b := key 2 0 (by decide) (by decide) (by omega)
   have c := key 3 0 (by decide) (by decide) (by omega)
  ·have d := key 0 0 (by decide) (by decide) (by omega)
   simp [detM, d3, d2, a, b, c, d]; try grind
  ·have d := key 1 1 (by decide) (by decide) (by omega)
   have e := key 2 1 (by decide) (by decide) (by omega)
   have f := key 3 1 (by decide) (by decide) (by omega)
   simp [detM, d3, d2, a, b, c, d, e, f]; try grind
  ·have d := key 2 1 (by decide) (by decide) (by omega)
   have e := key 3 1 (by decide) (by decide) (by omega)
   have f := key 2 2 (by decide) (by decide) (by omega)
   have g := key 3 2 (by decide) (by decide) (by omega)
   simp [detM, d3, d2, a, b, c, d, e, f, g]; try grind
  ·have d := key 2 1 (by decide) (by decide) (by omega)
   have e := key 3 1 (by decide) (by decide) (by omega)
   have f := key 3 2 (by decide) (by decide) (by omega)
   have g := key 3 3 (by decide) (by decide) (by omega)
   simp [detM, d3, d2, a, b, c, d, e, f, g]; try grind
end Num
namespace Num
def swapC (p : Mx) (i k : Nat) : Mx := fun r c => if c = i then p r k else if c = k then p r i else p r c
def colC (p : Mx) (j i : Nat) (f : Rat) : Mx := fun r c => if c = i then p r i + f * p r j else p r c
structure Elim (n : Nat) (M m out : Mx) (s : Rat) : Prop where
 sgn : s * s = 1
 det : detM n m = s * detM n M
 dout : detM n out = s
 inv : ∃ P : Mx, (∀ r c, r < n → c < n → mulM n P m r c = M r c) ∧ ∀ r c, r < n → c < n → mulM n P out r c = unitM r c
def Dia (n : Nat) (m : Mx) : Prop := ∀ r c, r < n → c < n → r ≠ c → m r c = 0
end Num
namespace Num
def rowsM (inv : Bool) (i : Nat) (m x : Mx) (j : Nat) : Mx := fun r c => if r < j ∧ r ≠ i ∧ (inv = true ∨ i < r) then x r c - m r i / m i i * x i c else x r c
theorem rowsM_zero (inv : Bool) (i : Nat) (m x : Mx) : rowsM inv i m x 0 = x := by
 funext r c
 unfold rowsM
 rw [if_neg (by omega)]
theorem rowsM_skip (inv : Bool) (i : Nat) (m x : Mx) {j : Nat} (h : ¬ (j ≠ i ∧ (inv = true ∨ i < j))) : rowsM inv i m x (j + 1) = rowsM inv i m x j := by
 funext r c
 unfold rowsM
 by_cases h1 : r < j ∧ r ≠ i ∧ (inv = true ∨ i < r)
 ·rw [if_pos h1, if_pos ⟨by omega, h1.2⟩]
 ·rw [if_neg h1, if_neg]
  rintro ⟨h2, h3⟩
  by_cases e : r = j
  ·subst e; exact h h3
  ·exact h1 ⟨by omega, h3⟩
theorem rowsM_row (inv : Bool) (i : Nat) (m x : Mx) {j : Nat} (h : j ≠ i ∧ (inv = true ∨ i < j)) : rowsM inv i m x (j + 1) = rowM (rowsM inv i m x j) j i (m j i / m i i) := by
 funext r c
 unfold rowM rowsM
 by_cases e : r = j
 ·subst e
  rw [if_pos ⟨by omega, h⟩, if_pos rfl, if_neg (by omega), if_neg (by omega)]
 ·rw [if_neg e]
  by_cases h1 : r < j ∧ r ≠ i ∧ (inv = true ∨ i < r)
  ·rw [if_pos h1, if_pos ⟨by omega, h1.2⟩]
  ·rw [if_neg h1, if_neg]
   rintro ⟨h2, h3⟩
   exact h1 ⟨by omega, h3⟩
theorem rowsM_none (inv : Bool) (i : Nat) (m x : Mx) {j : Nat} (h : m j i = 0) : rowsM inv i m x (j + 1) = rowsM inv i m x j := by
 by_cases hj : j ≠ i ∧ (inv = true ∨ i < j)
 ·rw [rowsM_row inv i m x hj, h]
  funext r c
  unfold rowM
  by_cases e : r = j
  ·subst e
   rw [if_pos rfl, Rat.div_def, Rat.zero_mul, Rat.zero_mul]; grind
  ·rw [if_neg e]
 ·exact rowsM_skip inv i m x hj
def BdM (n : Nat) (D : Rat) (A B : Nat) (m : Mx) : Prop := ∀ r c, r < n → c < n → Sm (D * m r c) A B
theorem det4 (m : Mx) : detM 4 m = m 0 0 * d3 m 1 2 3 1 2 3 - m 0 1 * d3 m 1 2 3 0 2 3 + m 0 2 * d3 m 1 2 3 0 1 3 - m 0 3 * d3 m 1 2 3 0 1 2 := rfl
end Num
namespace Num
structure ElSt (inv : Bool) (n i : Nat) (M m out : Mx) (s d : Rat) : Prop where
 el : inv = true → Elim n M m out s
 sgn : s * s = 1
 det : detM n m = s * detM n M
 dd : d = s * prodN (fun r => m r r) i
 piv : ∀ r, r < i → m r r ≠ 0
 tri : Tri n i m
 dia : inv = true → ∀ r c, r < n → c < i → r ≠ c → m r c = 0
theorem prodN_congr {f g : Nat → Rat} : ∀ {n : Nat}, (∀ k, k < n → f k = g k) → prodN f n = prodN g n
 | 0, _ => rfl
 | n + 1, h => by show prodN f n * f n = prodN g n * g n; rw [prodN_congr (fun k hk => h k (by omega)), h n (by omega)]
theorem swapM_low {m : Mx} {i k r : Nat} (hi : r < i) (hk : i < k) : swapM m i k r = m r := by
 unfold swapM; rw [if_neg (by omega), if_neg (by omega)]
theorem rowsM_at {inv : Bool} {i : Nat} {m x : Mx} {n r c : Nat} (h : r < n ∧ r ≠ i ∧ (inv = true ∨ i < r)) : rowsM inv i m x n r c = x r c - m r i / m i i * x i c := if_pos h
theorem rowsM_of {inv : Bool} {i : Nat} {m x : Mx} {n r c : Nat} (h : ¬ (r < n ∧ r ≠ i ∧ (inv = true ∨ i < r))) : rowsM inv i m x n r c = x r c := if_neg h
theorem rat_div_self {a : Rat} (h : a ≠ 0) (b : Rat) : b - b / a * a = 0 := by rw [Rat.div_mul_cancel h]; grind
end Num
namespace Num
open Go.RowKit Go.Lib
def setM (m : Mx) (r c : Nat) (q : Rat) : Mx := fun i j => if i = r ∧ j = c then q else m i j
def swapF (g : Nat → Nat) (i k : Nat) : Nat → Nat := fun r => if r = i then g k else if r = k then g i else g r
def FRow (W : World) (g n : Nat) (f : Nat → Rat) : Prop := ∃ u, W.heap[g]? = some (.cells u 30 (0, 0)) ∧ ∀ c, c < n → u[c * 2]? = some (.string (numS (f c))) ∧ u[c * 2 + 1]? = some (.string (denS (f c)))
def HRow (W : World) (b k n : Nat) (g : Nat → Nat) : Prop := ∃ cur, W.heap[b]? = some (.cells cur 148 (0, 0)) ∧ ∀ r, r < k → ∃ C, cur[r]? = some (.slice (some ⟨g r, 0, none⟩) n C)
theorem FRow.keep {W W' : World} {g n : Nat} {f : Nat → Rat} (h : FRow W g n f) (ho : W'.heap[g]? = W.heap[g]?) : FRow W' g n f := by
 obtain ⟨u, hu, hc⟩ := h
 exact ⟨u, ho.trans hu, hc⟩
theorem FRow.lt {W : World} {g n : Nat} {f : Nat → Rat} (h : FRow W g n f) : g < W.heap.size := by
 obtain ⟨u, hu, _⟩ := h
 exact heap_lt hu
theorem FRow.item {W : World} {g n c : Nat} {f : Nat → Rat} (h : FRow W g n f) (hc : c < n) : W.cell? ⟨g, c * 2, none⟩ = some (.string (numS (f c))) ∧ W.cell? ⟨g, c * 2 + 1, none⟩ = some (.string (denS (f c))) := by
 obtain ⟨u, hu, h⟩ := h
 exact ⟨(Lib.cell_of_heap hu _).trans (h c hc).1, (Lib.cell_of_heap hu _).trans (h c hc).2⟩
theorem FRow.free {W : World} {g n : Nat} {f : Nat → Rat} (h : FRow W g n f) (j : Nat) : W.frozen? ⟨g, j, none⟩ = false := by
 obtain ⟨u, hu, _⟩ := h
 rw [Lib.frozen_of_heap hu j]
theorem FRow.congr {W : World} {g n : Nat} {f f' : Nat → Rat} (h : FRow W g n f) (he : ∀ c, c < n → f' c = f c) : FRow W g n f' := by
 obtain ⟨u, hu, h⟩ := h
 exact ⟨u, hu, fun c hc => by rw [he c hc]; exact h c hc⟩
def putF (W : World) (g c : Nat) (q : Rat) : World := (W.setCell ⟨g, c * 2, none⟩ (.string (numS q))).setCell ⟨g, c * 2 + 1, none⟩ (.string (denS q))
theorem putF_other (W : World) (g c : Nat) (q : Rat) {k : Nat} (hk : k ≠ g) : (putF W g c q).heap[k]? = W.heap[k]? :=
 (Below.heap_setCell _ ⟨g, c * 2 + 1, none⟩ _ k hk).trans (Below.heap_setCell W ⟨g, c * 2, none⟩ _ k hk)
theorem putF_size (W : World) (g c : Nat) (q : Rat) : (putF W g c q).heap.size = W.heap.size := by simp [putF, World.setCell]
theorem putF_below {B : Nat} {a W : World} (h : Below B a W) {g : Nat} (hg : B ≤ g) (c : Nat) (q : Rat) : Below B a (putF W g c q) := (h.setCell (p := ⟨g, c * 2, none⟩) hg _).setCell (p := ⟨g, c * 2 + 1, none⟩) hg _
theorem FRow.put {W : World} {g n c : Nat} {f : Nat → Rat} (h : FRow W g n f) (q : Rat) (hc : c < n) : FRow (putF W g c q) g n (fun j => if j = c then q else f j) := by
 obtain ⟨u, hu, h⟩ := h
 have hl : c * 2 + 1 < u.size := (Array.getElem?_eq_some_iff.1 (h c hc).2).1
 refine ⟨_, heap_setCell_at (heap_setCell_at hu (c * 2) (.string (numS q))) (c * 2 + 1) (.string (denS q)), fun j hj => ?_⟩
 obtain ⟨h1, h2⟩ := h j hj
 simp only []
 by_cases e : j = c
 ·subst e
  rw [if_pos rfl]
  exact ⟨by rw [Array.getElem?_setIfInBounds_ne (by omega), Array.getElem?_setIfInBounds_self_of_lt (by omega)], by rw [Array.getElem?_setIfInBounds_self_of_lt (by simp; omega)]⟩
 ·rw [if_neg e]
  exact ⟨by rw [Array.getElem?_setIfInBounds_ne (by omega), Array.getElem?_setIfInBounds_ne (by omega)]; exact h1, by rw [Array.getElem?_setIfInBounds_ne (by omega), Array.getElem?_setIfInBounds_ne (by omega)]; exact h2⟩
theorem HRow.keep {W W' : World} {b k n : Nat} {g : Nat → Nat} (h : HRow W b k n g) (ho : W'.heap[b]? = W.heap[b]?) : HRow W' b k n g := by
 obtain ⟨u, hu, hc⟩ := h
 exact ⟨u, ho.trans hu, hc⟩
theorem HRow.lt {W : World} {b k n : Nat} {g : Nat → Nat} (h : HRow W b k n g) : b < W.heap.size := by
 obtain ⟨u, hu, _⟩ := h
 exact heap_lt hu
theorem HRow.at {W : World} {b k n r : Nat} {g : Nat → Nat} (h : HRow W b k n g) (hr : r < k) : ∃ C, W.cell? ⟨b, r, none⟩ = some (.slice (some ⟨g r, 0, none⟩) n C) := by
 obtain ⟨u, hu, h⟩ := h
 obtain ⟨C, hC⟩ := h r hr
 exact ⟨C, (Lib.cell_of_heap hu _).trans hC⟩
theorem HRow.free {W : World} {b k n : Nat} {g : Nat → Nat} (h : HRow W b k n g) (j : Nat) : W.frozen? ⟨b, j, none⟩ = false := by
 obtain ⟨u, hu, _⟩ := h
 rw [Lib.frozen_of_heap hu j]
theorem row_apart {W : World} {b g k n n' : Nat} {gg : Nat → Nat} {f : Nat → Rat} (h : HRow W b k n gg) (h' : FRow W g n' f) : b ≠ g := by
 rintro rfl
 obtain ⟨u, hu, _⟩ := h
 obtain ⟨v, hv, _⟩ := h'
 rw [hu] at hv
 injection hv with hv
 injection hv with _ hv
 cases hv
def swapW (W : World) (b i k : Nat) (x y : Value) : World := (W.setCell ⟨b, i, none⟩ x).setCell ⟨b, k, none⟩ y
theorem swapW_other (W : World) (b i k : Nat) (x y : Value) {j : Nat} (hj : j ≠ b) : (swapW W b i k x y).heap[j]? = W.heap[j]? :=
 (Below.heap_setCell _ ⟨b, k, none⟩ _ j hj).trans (Below.heap_setCell W ⟨b, i, none⟩ _ j hj)
theorem HRow.swap {W : World} {b k n i l : Nat} {g : Nat → Nat} (h : HRow W b k n g) (hi : i < k) (hl : l < k) {C D : Nat} : HRow (swapW W b i l (.slice (some ⟨g l, 0, none⟩) n C) (.slice (some ⟨g i, 0, none⟩) n D)) b k n (swapF g i l) := by
 obtain ⟨u, hu, h⟩ := h
 refine ⟨_, heap_setCell_at (heap_setCell_at hu i _) l _, fun r hr => ?_⟩
 have si : i < u.size := by obtain ⟨_, h⟩ := h i hi; exact (Array.getElem?_eq_some_iff.1 h).1
 have sl : l < u.size := by obtain ⟨_, h⟩ := h l hl; exact (Array.getElem?_eq_some_iff.1 h).1
 unfold swapF
 by_cases e : r = l
 ·subst e
  refine ⟨D, ?_⟩
  rw [Array.getElem?_setIfInBounds_self_of_lt (by simp; omega)]
  by_cases e2 : r = i
  ·subst e2; rw [if_pos rfl]
  ·rw [if_neg e2, if_pos rfl]
 ·by_cases e2 : r = i
  ·subst e2
   refine ⟨C, ?_⟩
   rw [Array.getElem?_setIfInBounds_ne (by omega), Array.getElem?_setIfInBounds_self_of_lt (by omega), if_pos rfl]
  ·obtain ⟨E, hE⟩ := h r hr
   refine ⟨E, ?_⟩
   rw [Array.getElem?_setIfInBounds_ne (by omega), Array.getElem?_setIfInBounds_ne (by omega), if_neg e2, if_neg e]
   exact hE
structure MxAt (W : World) (b k n : Nat) (g : Nat → Nat) (m : Mx) : Prop where
 hd : HRow W b k n g
 rows : ∀ r, r < k → FRow W (g r) n (m r)
 inj : ∀ r s, r < k → s < k → g r = g s → r = s
section
variable {W : World} {b k n : Nat} {g : Nat → Nat} {m : Mx}
theorem MxAt.keep (h : MxAt W b k n g m) {W' : World} (ho : W'.heap[b]? = W.heap[b]?) (hr : ∀ r, r < k → W'.heap[g r]? = W.heap[g r]?) : MxAt W' b k n g m :=
 ⟨h.hd.keep ho, fun r hk => (h.rows r hk).keep (hr r hk), h.inj⟩
theorem MxAt.below (h : MxAt W b k n g m) {W' : World} (hb : Below W.heap.size W W') : MxAt W' b k n g m := h.keep (hb.block _ h.hd.lt) fun r hr => hb.block _ (h.rows r hr).lt
theorem MxAt.congr (h : MxAt W b k n g m) {m' : Mx} (he : ∀ r c, r < k → c < n → m' r c = m r c) : MxAt W b k n g m' := ⟨h.hd, fun r hr => (h.rows r hr).congr (fun c hc => he r c hr hc), h.inj⟩
theorem MxAt.other (h : MxAt W b k n g m) {x : Nat} (hb : x ≠ b) (hr : ∀ r, r < k → x ≠ g r) (c : Nat) (q : Rat) : MxAt (putF W x c q) b k n g m :=
 h.keep (putF_other W x c q (fun e => hb e.symm)) fun r hk => putF_other W x c q (fun e => hr r hk e.symm)
theorem MxAt.put (h : MxAt W b k n g m) {r c : Nat} (hr : r < k) (hc : c < n) (q : Rat) : MxAt (putF W (g r) c q) b k n g (setM m r c q) := by
 refine ⟨h.hd.keep (putF_other W _ c q (row_apart h.hd (h.rows r hr))), fun s hs => ?_, h.inj⟩
 by_cases e : s = r
 ·subst e
  refine ((h.rows s hs).put q hc).congr fun j _ => ?_
  unfold setM
  by_cases e : j = c
  ·subst e; rw [if_pos ⟨rfl, rfl⟩, if_pos rfl]
  ·rw [if_neg (fun h => e h.2), if_neg e]
 ·refine ((h.rows s hs).keep (putF_other W _ c q (fun e2 => e (h.inj s r hs hr e2)))).congr fun j _ => ?_
  unfold setM
  rw [if_neg (fun h => e h.1)]
theorem MxAt.swap (h : MxAt W b k n g m) {i l : Nat} (hi : i < k) (hl : l < k) (C D : Nat) : MxAt (swapW W b i l (.slice (some ⟨g l, 0, none⟩) n C) (.slice (some ⟨g i, 0, none⟩) n D)) b k n (swapF g i l) (swapM m i l) := by
 refine ⟨h.hd.swap hi hl, fun r hr => ?_, fun r s hr hs he => ?_⟩
 ·have hne : swapF g i l r ≠ b := by
   unfold swapF
   by_cases e : r = i
   ·rw [if_pos e]; exact fun e => row_apart h.hd (h.rows l hl) e.symm
   ·rw [if_neg e]
    by_cases e : r = l
    ·rw [if_pos e]; exact fun e => row_apart h.hd (h.rows i hi) e.symm
    ·rw [if_neg e]; exact fun e => row_apart h.hd (h.rows r hr) e.symm
  refine FRow.keep ?_ (swapW_other W b i l _ _ hne)
  unfold swapF swapM
  by_cases e : r = i
  ·rw [if_pos e, if_pos e]; exact h.rows l hl
  ·rw [if_neg e, if_neg e]
   by_cases e : r = l
   ·rw [if_pos e, if_pos e]; exact h.rows i hi
   ·rw [if_neg e, if_neg e]; exact h.rows r hr
 ·have H : ∀ r, swapF g i l r = g (if r = i then l else if r = l then i else r) := by
   intro r
   unfold swapF
   by_cases e : r = i
   ·rw [if_pos e, if_pos e]
   ·rw [if_neg e, if_neg e]
    by_cases e : r = l
    ·rw [if_pos e, if_pos e]
    ·rw [if_neg e, if_neg e]
  rw [H, H] at he
  have := h.inj _ _ (by split; exact hl; split; exact hi; exact hr) (by split; exact hl; split; exact hi; exact hs) he
  revert this
  split <;> split <;> (try split) <;> (try split) <;> omega
theorem MxAt.swap_other (h : MxAt W b k n g m) {x : Nat} (hx : x ≠ b) (hr : ∀ r, r < k → x ≠ g r) (i l : Nat) (u v : Value) : MxAt (swapW W x i l u v) b k n g m :=
 h.keep (swapW_other W x i l u v (fun e => hx e.symm)) fun r hk => swapW_other W x i l u v (fun e => hr r hk e.symm)
end
end Num
namespace Num
open Go.RowKit Go.Lib
structure Rows (W : World) (b N n i B : Nat) (g : Nat → Nat) (m : Mx) (v : Value) (wx : World) : Prop where
 hd : ∃ u, wx.heap[b]? = some (.cells u 148 (0, 0)) ∧ u.size = N ∧ (∀ r, r < i → ∃ C, u[r]? = some (.slice (some ⟨g r, 0, none⟩) n C)) ∧ (i < N → u[i]? = some v) ∧ ∀ r, i < r → r < N → u[r]? = some (.slice none 0 0)
 rows : ∀ r, r < i → FRow wx (g r) n (m r)
 inj : ∀ r s, r < i → s < i → g r = g s → r = s
 bl : b < B
 gl : ∀ r, r < i → b < g r ∧ g r < B
 bs : B ≤ wx.heap.size
 low : Below W.heap.size W wx
 ge : W.heap.size ≤ b
section
variable {W wx : World} {b N n i B : Nat} {g : Nat → Nat} {m : Mx} {v : Value}
theorem Rows.kept (h : Rows W b N n i B g m v wx) {w' : World} (ho : ∀ k, k < B → w'.heap[k]? = wx.heap[k]?) (hs : wx.heap.size ≤ w'.heap.size) (hl : Below W.heap.size W w') : Rows W b N n i B g m v w' := by
 obtain ⟨⟨u, hu, h1⟩, h2, h3, h4, h5, h6, h7, h8⟩ := h
 exact ⟨⟨u, (ho b h4).trans hu, h1⟩, fun r hr => (h2 r hr).keep (ho _ (h5 r hr).2), h3, h4, h5, Nat.le_trans h6 hs, hl, h8⟩
theorem Rows.step (h : Rows W b N n i B g m v wx) {w' : World} (hb : Below wx.heap.size wx w') : Rows W b N n i B g m v w' :=
 h.kept (fun k hk => hb.block k (Nat.lt_of_lt_of_le hk h.bs)) hb.size (h.low.trans (hb.mono h.low.size))
theorem Rows.grown (h : Rows W b N n i B g m v wx) {w' : World} {row : Option Nat} (hg : wx.grownBy w' row) (hr : ∀ k, row = some k → B ≤ k) : Rows W b N n i B g m v w' :=
 h.kept (fun k hk => hg.block k (Nat.lt_of_lt_of_le hk h.bs) (fun e => by have := hr k e.symm; omega)) hg.size (h.low.grown hg h.low.size (fun k e => by have := hr k e; have := h.bl; have := h.ge; omega))
theorem Rows.setF (h : Rows W b N n i B g m v wx) {G : Nat} (hG : B ≤ G) (c : Nat) (q : Rat) : Rows W b N n i B g m v (putF wx G c q) :=
 h.kept (fun k hk => putF_other wx G c q (by omega)) (by rw [putF_size]; exact Nat.le_refl _) (putF_below h.low (by have := h.bl; have := h.ge; omega) c q)
theorem Rows.store (h : Rows W b N n i B g m v wx) (hi : i < N) (v' : Value) : Rows W b N n i B g m v' (wx.setCell ⟨b, i, none⟩ v') := by
 obtain ⟨⟨u, hu, h0, h1, h1', h1''⟩, h2, h3, h4, h5, h6, h7, h8⟩ := h
 have ho : ∀ k, k ≠ b → (wx.setCell ⟨b, i, none⟩ v').heap[k]? = wx.heap[k]? := fun k hk => Below.heap_setCell wx ⟨b, i, none⟩ v' k hk
 refine ⟨⟨_, heap_setCell_at hu i v', by simpa using h0, fun r hr => ?_, fun _ => ?_, fun r hr hN => ?_⟩, fun r hr => (h2 r hr).keep (ho _ (by have := h5 r hr; omega)), h3, h4, h5, by simpa [World.setCell] using h6, h7.setCell (p := ⟨b, i, none⟩) h8 v', h8⟩
 ·obtain ⟨C, hC⟩ := h1 r hr
  exact ⟨C, by rw [Array.getElem?_setIfInBounds_ne (by omega)]; exact hC⟩
 ·rw [Array.getElem?_setIfInBounds_self_of_lt (by omega)]
 ·rw [Array.getElem?_setIfInBounds_ne (by omega)]; exact h1'' r hr hN
theorem Rows.cell (h : Rows W b N n i B g m v wx) (hi : i < N) : wx.cell? ⟨b, i, none⟩ = some v := by
 obtain ⟨⟨u, hu, _, _, h1, _⟩, _⟩ := h
 exact (Lib.cell_of_heap hu _).trans (h1 hi)
theorem Rows.free (h : Rows W b N n i B g m v wx) (j : Nat) : wx.frozen? ⟨b, j, none⟩ = false := by
 obtain ⟨⟨u, hu, _⟩, _⟩ := h
 rw [Lib.frozen_of_heap hu j]
theorem Rows.next {G C : Nat} (h : Rows W b N n i B g m (.slice (some ⟨G, 0, none⟩) n C) wx) (hi : i < N) (hG : B ≤ G) (hr : FRow wx G n (m i)) : Rows W b N n (i + 1) wx.heap.size (fun r => if r = i then G else g r) m (.slice none 0 0) wx := by
 obtain ⟨⟨u, hu, h0, h1, h1', h1''⟩, h2, h3, h4, h5, h6, h7, h8⟩ := h
 have hGs := hr.lt
 refine ⟨⟨u, hu, h0, fun r hr => ?_, fun hi' => h1'' (i + 1) (by omega) hi', fun r hr hN => h1'' r (by omega) hN⟩, fun r hr' => ?_, fun r s hr hs => ?_, by omega, fun r hr => ?_, Nat.le_refl _, h7, h8⟩
 ·by_cases e : r = i
  ·subst e; exact ⟨C, by rw [if_pos rfl]; exact h1' hi⟩
  ·rw [if_neg e]; exact h1 r (by omega)
 ·by_cases e : r = i
  ·subst e; rw [if_pos rfl]; exact hr
  ·rw [if_neg e]; exact h2 r (by omega)
 ·by_cases e : r = i
  ·by_cases e2 : s = i
   ·omega
   ·rw [if_pos e, if_neg e2]
    have := h5 s (by omega)
    omega
  ·by_cases e2 : s = i
   ·rw [if_neg e, if_pos e2]
    have := h5 r (by omega)
    omega
   ·rw [if_neg e, if_neg e2]
    exact h3 r s (by omega) (by omega)
 ·by_cases e : r = i
  ·rw [if_pos e]; omega
  ·rw [if_neg e]
   have := h5 r (by omega)
   omega
theorem Rows.done (h : Rows W b N n N B g m v wx) : MxAt wx b N n g m := by
 obtain ⟨⟨u, hu, h0, h1, _⟩, h2, h3, _⟩ := h
 exact ⟨⟨u, hu, h1⟩, h2, h3⟩
theorem Rows.start {W w' : World} (b N n : Nat) (g : Nat → Nat) (m : Mx) {u : Array Value} (hu : w'.heap[b]? = some (.cells u 148 (0, 0))) (hN : u.size = N) (hz : ∀ r, r < N → u[r]? = some (.slice none 0 0)) (hl : Below W.heap.size W w') (hb : W.heap.size ≤ b) : Rows W b N n 0 w'.heap.size g m (.slice none 0 0) w' :=
 ⟨⟨u, hu, hN, fun _ hr => absurd hr (Nat.not_lt_zero _), fun h => hz 0 h, fun _ _ h => hz _ h⟩, fun _ hr => absurd hr (Nat.not_lt_zero _), fun _ _ hr => absurd hr (Nat.not_lt_zero _), heap_lt hu, fun _ hr => absurd hr (Nat.not_lt_zero _), Nat.le_refl _, hl, hb⟩
end
def PRow (W : World) (g N c : Nat) (f : Nat → Rat) : Prop := ∃ u, W.heap[g]? = some (.cells u 30 (0, 0)) ∧ u.size = N * 2 ∧ ∀ j, j < c → u[j * 2]? = some (.string (numS (f j))) ∧ u[j * 2 + 1]? = some (.string (denS (f j)))
section
variable {W : World} {g N c : Nat} {f : Nat → Rat}
theorem PRow.keep (h : PRow W g N c f) {W' : World} (ho : W'.heap[g]? = W.heap[g]?) : PRow W' g N c f := by
 obtain ⟨u, hu, h⟩ := h
 exact ⟨u, ho.trans hu, h⟩
theorem PRow.lt (h : PRow W g N c f) : g < W.heap.size := by
 obtain ⟨u, hu, _⟩ := h
 exact heap_lt hu
theorem PRow.below (h : PRow W g N c f) {W' : World} (hb : Below W.heap.size W W') : PRow W' g N c f := h.keep (hb.block _ h.lt)
theorem PRow.any (h : PRow W g N c f) {j : Nat} (hj : j < N * 2) : (∃ x, W.cell? ⟨g, j, none⟩ = some x) ∧ W.frozen? ⟨g, j, none⟩ = false := by
 obtain ⟨u, hu, hs, _⟩ := h
 exact ⟨⟨u[j]'(by omega), (Lib.cell_of_heap hu _).trans (Array.getElem?_eq_getElem (by omega))⟩, by rw [Lib.frozen_of_heap hu j]⟩
theorem PRow.put (h : PRow W g N c f) {j : Nat} (hj : j < N) (hc : j ≤ c) (q : Rat) : PRow (putF W g j q) g N (max c (j + 1)) (fun k => if k = j then q else f k) := by
 obtain ⟨u, hu, hs, h⟩ := h
 refine ⟨_, heap_setCell_at (heap_setCell_at hu (j * 2) (.string (numS q))) (j * 2 + 1) (.string (denS q)), by simpa using hs, fun k hk => ?_⟩
 simp only []
 by_cases e : k = j
 ·subst e
  rw [if_pos rfl]
  exact ⟨by rw [Array.getElem?_setIfInBounds_ne (by omega), Array.getElem?_setIfInBounds_self_of_lt (by omega)], by rw [Array.getElem?_setIfInBounds_self_of_lt (by simp; omega)]⟩
 ·rw [if_neg e]
  obtain ⟨h1, h2⟩ := h k (by omega)
  exact ⟨by rw [Array.getElem?_setIfInBounds_ne (by omega), Array.getElem?_setIfInBounds_ne (by omega)]; exact h1, by rw [Array.getElem?_setIfInBounds_ne (by omega), Array.getElem?_setIfInBounds_ne (by omega)]; exact h2⟩
theorem PRow.full (h : PRow W g N N f) {f' : Nat → Rat} (he : ∀ c, c < N → f' c = f c) : FRow W g N f' := by
 obtain ⟨u, hu, _, h⟩ := h
 exact ⟨u, hu, fun c hc => by rw [he c hc]; exact h c hc⟩
theorem PRow.congr (h : PRow W g N c f) {f' : Nat → Rat} {c' : Nat} (hc : c' = c) (he : ∀ j, j < c → f' j = f j) : PRow W g N c' f' := by
 subst hc
 obtain ⟨u, hu, hs, h⟩ := h
 exact ⟨u, hu, hs, fun j hj => by rw [he j hj]; exact h j hj⟩
end
theorem make_fracs (n : Nat) (h : n ≤ 1000) (w : World) : (Instr.makeSlice 148 (.int .i64 (n : Int)) (.int .i64 (n : Int))).run Tryz.prog w = .ok (.slice (some ⟨w.heap.size, 0, none⟩) n n) (w.alloc (.cells (madeCells #[.string ⟨#[]⟩, .string ⟨#[]⟩] (n * 2)) 30)) := by
 obtain ⟨i, hi, hz, hs, hb⟩ := info_frac
 have := run_make (P := Tryz.prog) w 148 30 i _ Tryz.underlying148 hi hz .i64 .i64 (n : Int) (n : Int) (by omega) (Int.le_refl _) (by rw [hb]; omega) (by omega)
 rw [hs, show (Value.agg #[.string ⟨#[]⟩, .string ⟨#[]⟩]).cells = #[.string ⟨#[]⟩, .string ⟨#[]⟩] by simp [Value.cells]] at this
 simpa only [Int.toNat_natCast] using this
theorem make_rows (n : Nat) (h : n ≤ 1000) (w : World) : (Instr.makeSlice 156 (.int .i64 (n : Int)) (.int .i64 (n : Int))).run Tryz.prog w = .ok (.slice (some ⟨w.heap.size, 0, none⟩) n n) (w.alloc (.cells (madeCells #[.slice none 0 0] n) 148)) :=
 run_make_row' (P := Tryz.prog) 156 148 (.slice none 0 0) 24 Tryz.underlying156 (by kernel_rfl) rfl .i64 .i64 n (by omega) (by omega) w
theorem made_at (x : Value) (n r : Nat) (h : r < n) : (madeCells #[x] n)[r]? = some x := by
 unfold madeCells
 rw [Array.getElem?_map, Array.getElem?_range, if_pos h]
 simp [Nat.mod_one]
end Num
namespace Num.Mt
open Go.RowKit Go.Lib Num
theorem eqi {i k : Nat} (h : i < k + 1) (g : k ≤ i) : i = k := Nat.le_antisymm (Nat.le_of_lt_succ h) g
set_option linter.defProp false in
def layL := And.intro @layT_some (And.intro @layT_none (And.intro @layT_nil (And.intro (@List.setIfInBounds_toArray Value) (And.intro (@List.set_cons_zero Value) (@List.set_cons_succ Value)))))
end Num.Mt
namespace Num
open Go.RowKit Go.Lib
def RQ (w : World) (v : Value) (q : Rat) (k : Nat) : Prop := ∃ m a b, RawAt w v m a b ∧ b ≠ 0 ∧ ratOf m a b = q ∧ (digs 10 a).length ≤ k ∧ (digs 10 b).length ≤ k
def RQRet (w : World) (q : Rat) (k : Nat) : Ending → World → Prop := fun e w' => ∃ m A L C A' L' C', e = .returned (.agg #[.bool m, .slice A L C, .slice A' L' C']) ∧ RQ w' (.agg #[.bool m, .slice A L C, .slice A' L' C']) q k ∧ Below w.heap.size w w'
theorem RQ.below {w w' : World} {v : Value} {q : Rat} {k : Nat} (h : RQ w v q k) (hb : Below w.heap.size w w') : RQ w' v q k := by
 obtain ⟨m, a, b, h1, h2, h3, h4, h5⟩ := h
 exact ⟨m, a, b, h1.below hb, h2, h3, h4, h5⟩
theorem RQ.mono {w : World} {v : Value} {q : Rat} {k l : Nat} (h : RQ w v q k) (hk : k ≤ l) : RQ w v q l := by
 obtain ⟨m, a, b, h1, h2, h3, h4, h5⟩ := h
 exact ⟨m, a, b, h1, h2, h3, Nat.le_trans h4 hk, Nat.le_trans h5 hk⟩
theorem rq_of {w w' : World} {e : Ending} {m : Bool} {a b : Nat} {q : Rat} {k : Nat} (h : RawRet w m a b e w') (hb : b ≠ 0) (hq : ratOf m a b = q) (ha : (digs 10 a).length ≤ k) (hd : (digs 10 b).length ≤ k) : RQRet w q k e w' := by
 obtain ⟨A, L, C, A', L', C', rfl, ⟨p1, p2⟩, hbe⟩ := rat_shape h
 exact ⟨m, A, L, C, A', L', C', rfl, ⟨m, a, b, raw_of p1 p2, hb, hq, ha, hd⟩, hbe⟩
theorem rq_mul (v u : Value) (p q : Rat) (k l : Nat) (w : World) (h1 : RQ w v p k) (h2 : RQ w u q l) (hk : k ≤ 500000) (hl : l ≤ 500000) : Calls Tryz.prog 40 #[v, u] w (RQRet w (p * q) (k + l)) := by
 obtain ⟨m, a, b, r1, b0, rfl, la, lb⟩ := h1
 obtain ⟨m', c, d, r2, d0, rfl, lc, ld⟩ := h2
 refine (rmul_any v u m m' a b c d w r1 r2 (by omega) (by omega) (by omega) (by omega)).mono ?_
 intro e w' h
 exact rq_of h (Nat.mul_ne_zero b0 d0) (ratOf_mul _ _ _ _ _ _).symm (dlen_mul la lc) (dlen_mul lb ld)
theorem sum_le (m k : Bool) (x y : Nat) : sumNum m k x y ≤ x + y := by
 unfold sumNum
 repeat' split
 all_goals omega
theorem dlen_le {x y k : Nat} (h : x ≤ y) (hy : (digs 10 y).length ≤ k) : (digs 10 x).length ≤ k :=
 digs_len_le ten2 (Nat.lt_of_le_of_lt h (Nat.lt_of_lt_of_le (digs_upper ten2 y) (Nat.pow_le_pow_right (by decide) hy)))
theorem rq_add (v u : Value) (p q : Rat) (k l : Nat) (w : World) (h1 : RQ w v p k) (h2 : RQ w u q l) (hk : k ≤ 500000) (hl : l ≤ 500000) : Calls Tryz.prog 42 #[v, u] w (RQRet w (p + q) (k + l + 1)) := by
 obtain ⟨m, a, b, r1, b0, rfl, la, lb⟩ := h1
 obtain ⟨m', c, d, r2, d0, rfl, lc, ld⟩ := h2
 refine (radd_any v u m m' a b c d w r1 r2 (by omega) (by omega) (by omega) (by omega)).mono ?_
 intro e w' h
 refine rq_of h (Nat.mul_ne_zero b0 d0) (ratOf_add _ _ _ _ _ _ b0 d0).symm ?_ (Nat.le_trans (dlen_mul lb ld) (Nat.le_succ _))
 exact dlen_le (sum_le _ _ _ _) (dlen_add (dlen_mul la ld) (Nat.le_trans (dlen_mul lc lb) (by omega)))
theorem ratOf_whole (n : Int) : ratOf (decide (n < 0)) n.natAbs 1 = (n : Rat) := by
 unfold ratOf
 have : (if decide (n < 0) = true then -(n.natAbs : Int) else (n.natAbs : Int)) = n := by
  by_cases h : n < 0
  ·rw [if_pos (decide_eq_true h)]; omega
  ·rw [if_neg (by simpa using h)]; omega
 rw [this, Rat.mkRat_one]
theorem rq_whole (n : Int) (k : Nat) (w : World) (h : n.natAbs < 10 ^ k) (h1 : 1 ≤ k) (h2 : k ≤ 18) : Calls Tryz.prog 29 #[.int .i64 n] w (RQRet w (n : Rat) k) := by
 have h9 : (10 : Nat) ^ k ≤ 10 ^ 18 := Nat.pow_le_pow_right (by decide) h2
 refine (rwhole_any n w (by omega) (by omega)).mono ?_
 intro e w' hr
 exact rq_of hr (by decide) (ratOf_whole n) (digs_len_le ten2 h) (Nat.le_trans one_len h1)
theorem rq_ratOf (q : Rat) (k : Nat) (w : World) (hf : fits q = true) (h1 : up q < 10 ^ k) (h2 : q.den < 10 ^ k) : Calls Tryz.prog 68 #[fracV q] w (RQRet w q k) := by
 refine (rratOf_any q w hf).mono ?_
 intro e w' hr
 exact rq_of hr q.den_nz (ratOf_self q) (digs_len_le ten2 h1) (digs_len_le ten2 h2)
theorem rq_frac (v : Value) (q : Rat) (k : Nat) (w : World) (h : RQ w v q k) (hk : k ≤ 1000000) : Calls Tryz.prog 73 #[v] w (fun e w' => e = .returned (fracRet q) ∧ Below w.heap.size w w') := by
 obtain ⟨m, a, b, r1, b0, rfl, la, lb⟩ := h
 exact rfrac_any v m a b w r1 b0 (by omega) (by omega)
theorem rq_number (v : Value) (q : Rat) (k : Nat) (w : World) (h : RQ w v q k) (hk : k ≤ 1000000) : Calls Tryz.prog 32 #[v] w (fun e w' => e = .returned (numOr q) ∧ Below w.heap.size w w') := by
 obtain ⟨m, a, b, r1, b0, rfl, la, lb⟩ := h
 exact rnumber_any v m a b w r1 b0 (by omega) (by omega)
theorem RQ.terms {w : World} {v : Value} {q : Rat} {k : Nat} (h : RQ w v q k) : up q < 10 ^ k ∧ q.den < 10 ^ k := by
 obtain ⟨m, a, b, r1, b0, rfl, la, lb⟩ := h
 have ha := Nat.lt_of_lt_of_le (digs_upper ten2 a) (Nat.pow_le_pow_right (by decide) la)
 have hb := Nat.lt_of_lt_of_le (digs_upper ten2 b) (Nat.pow_le_pow_right (by decide) lb)
 rw [ratOf_up _ _ b0, ratOf_den _ _ b0]
 exact ⟨Nat.lt_of_le_of_lt (Nat.div_le_self _ _) ha, Nat.lt_of_le_of_lt (Nat.div_le_self _ _) hb⟩
end Num
namespace Num
def sg (b : Bool) : Rat := if b then -1 else 1
def lapS (x : Nat → Rat) (used : Nat) (g : Nat → Rat) (st : Rat × Bool) (k : Nat) : Rat × Bool :=
 if used.testBit k then st else (st.1 + sg st.2 * x k * g (used ||| 2 ^ k), !st.2)
def lap (m : Nat → Nat → Rat) (n : Nat) : Nat → Nat → Nat → Rat
 | 0, _, _ => 1
 | f + 1, row, used => ((List.range n).foldl (lapS (m row) used (lap m n f (row + 1))) (0, false)).1
def lapTo (m : Nat → Nat → Rat) (n f row used k : Nat) : Rat × Bool := (List.range k).foldl (lapS (m row) used (lap m n f (row + 1))) (0, false)
theorem lapTo_succ (m : Nat → Nat → Rat) (n f row used k : Nat) : lapTo m n f row used (k + 1) = lapS (m row) used (lap m n f (row + 1)) (lapTo m n f row used k) k := by
 unfold lapTo
 rw [List.range_succ, List.foldl_append]; rfl
theorem lapTo_all (m : Nat → Nat → Rat) (n f row used : Nat) : (lapTo m n f row used n).1 = lap m n (f + 1) row used := rfl
theorem lapS_taken {x : Nat → Rat} {used : Nat} {g : Nat → Rat} {st : Rat × Bool} {k : Nat} (h : used.testBit k = true) : lapS x used g st k = st := if_pos h
theorem lapS_free {x : Nat → Rat} {used : Nat} {g : Nat → Rat} {st : Rat × Bool} {k : Nat} (h : used.testBit k = false) : lapS x used g st k = (st.1 + sg st.2 * x k * g (used ||| 2 ^ k), !st.2) := if_neg (by rw [h]; decide)
theorem lapS_zero {x : Nat → Rat} {used : Nat} {g : Nat → Rat} {st : Rat × Bool} {k : Nat} (h : used.testBit k = false) (hx : x k = 0) : lapS x used g st k = (st.1, !st.2) := by
 rw [lapS_free h, hx, Rat.mul_zero, Rat.zero_mul, Rat.add_zero]
def DB : Nat → Nat
 | 0 => 1
 | k + 1 => 5 * (DB k + 40)
theorem DB_le {k : Nat} (h : k ≤ 5) : DB k ≤ 159325 := by
 rcases (show k = 0 ∨ k = 1 ∨ k = 2 ∨ k = 3 ∨ k = 4 ∨ k = 5 by omega) with h | h | h | h | h | h <;> subst h <;> decide
end Num
end Go.Proofs.YtjcdeeahjkfmoaaGreatDoor
