/- Numbers as texts of digits, fractions, values and the functions of fmath: contracts of the program's functions, joined from smaller texts. Conditions stand at each theorem. -/
import Derived.Test.YtkghpiaoggljjaaGreatDoorSoaA
import Derived.Test.YtkghpiaoggljjaaGreatDoorSoaB
import Derived.BigQuiet

/- The library's sort of a row of numbers by a comparison that makes memory: insertion. Conditions: the row is the call's own; the comparison is an order. -/
namespace Go.Proofs.YtkghpiaoggljjaaGreatDoor.Num.Mt
open Go.RowKit Go.Lib Num

/-- what is asked of the comparison: in each world that the sort comes to it gives cf x y and makes new memory alone -/
def CmpOk (g : Nat) (cb : Array Value) (cf : Nat → Nat → Int) (w : World) (B n : Nat) : Prop :=
 ∀ W, w.grownBy W (some B) → ∀ x y, x < n → y < n → Calls Tryz.prog g (#[.int .i64 (x : Int), .int .i64 (y : Int)] ++ cb) W fun e w' => e = .returned (.int .i64 (cf x y)) ∧ Below W.heap.size W w'
theorem CmpOk.on {g : Nat} {cb : Array Value} {cf : Nat → Nat → Int} {w : World} {B n : Nat} (h : CmpOk g cb cf w B n) (W : World) (hg : w.grownBy W (some B)) (x y : Nat) (hx : x < n) (hy : y < n) : Calls Tryz.prog g (#[.int .i64 (x : Int), .int .i64 (y : Int)] ++ cb) W fun e w' => e = .returned (.int .i64 (cf x y)) ∧ Below W.heap.size W w' := h W hg x y hx hy
theorem SI.cell {w W W' : World} {B n : Nat} {d : Nat → Nat} (h : SI w B n d W) (hb : Below W.heap.size W W') {i x : Nat} (hi : i < n) (hx : d i = x) : W'.cell? ⟨B, i, none⟩ = some (.int .i64 (x : Int)) := by
 rw [← hx]
 exact ((h.step hb).row i hi).1
attribute [local irreducible] wpOp
set_option linter.unusedVariables false in
/-- what the operations of region 4 yield -/
def IyKs4 (g : Nat) (cb : Array Value) (cf : Nat → Nat → Int) (B n cap a b i jp x y : Nat) : List RK :=
 [.pure (.int .i64 ((jp : Int) + 1)),
  .pure (.int .i64 (a : Int)),
  .pure (.bool true),
  .pure (.bool true),
  .pure (.func (.func g) #[] cb),
  .pure (.slice (some ⟨B, 0, none⟩) n cap),
  .pure (.int .i64 ((jp : Int) + 1)),
  .pure (.pointer (some ⟨B, jp + 1, none⟩)),
  .pure (.int .i64 (x : Int)),
  .pure (.slice (some ⟨B, 0, none⟩) n cap),
  .pure (.int .i64 ((jp : Int) + 1)),
  .pure (.int .i64 (jp : Int)),
  .pure (.pointer (some ⟨B, jp, none⟩)),
  .pure (.int .i64 (y : Int)),
  .pure (.int .i64 (cf x y)),
  .pure (.bool true),
  .pure (.bool true)]
set_option linter.unusedVariables false in
/-- what the operations of region 4 yield -/
def InKs4 (g : Nat) (cb : Array Value) (cf : Nat → Nat → Int) (B n cap a b i jp x y : Nat) : List RK :=
 [.pure (.int .i64 ((jp : Int) + 1)),
  .pure (.int .i64 (a : Int)),
  .pure (.bool true),
  .pure (.bool true),
  .pure (.func (.func g) #[] cb),
  .pure (.slice (some ⟨B, 0, none⟩) n cap),
  .pure (.int .i64 ((jp : Int) + 1)),
  .pure (.pointer (some ⟨B, jp + 1, none⟩)),
  .pure (.int .i64 (x : Int)),
  .pure (.slice (some ⟨B, 0, none⟩) n cap),
  .pure (.int .i64 ((jp : Int) + 1)),
  .pure (.int .i64 (jp : Int)),
  .pure (.pointer (some ⟨B, jp, none⟩)),
  .pure (.int .i64 (y : Int)),
  .pure (.int .i64 (cf x y)),
  .pure (.bool false),
  .pure (.bool false)]
set_option maxHeartbeats 4000000 in
set_option maxRecDepth 100000 in
theorem insertion_none (w : World) (B n cap g : Nat) (cb : Array Value) (d : Nat → Nat) (a : Nat) (W : World) (hI : SI w B n d W) (hn : n ≤ 1000) (ha : a ≤ n) :
  Calls Tryz.prog 289 #[.slice (some ⟨B, 0, none⟩) n cap, .int .i64 (a : Int), .int .i64 (a : Int), .func (.func g) #[] cb] W fun e w' => e = .returned (.tuple #[]) ∧ SI w B n d w' := by
 have HI := Lib.hid hI
 clear hI
 have hd : decide ((a : Int) + 1 < (a : Int)) = false := decide_eq_false (by omega)
 go_enter Tryz.func289, Tryz.ntmps289
 go_wp2_with fail
 refine wp_loop_rounds 1 ?_
 rw [rounds_succ]
 go_wp2
 go_end0
 exact ⟨rfl, HI.out⟩
set_option maxHeartbeats 8000000 in
set_option maxRecDepth 100000 in
theorem insertion_any (w : World) (B n cap g : Nat) (cb : Array Value) (cf : Nat → Nat → Int) (hO : Ord cf n) (eg : ∀ args w, (callFunc g args).run Tryz.prog w = .ok (.enter g args) w) (hcmp : CmpOk g cb cf w B n)
  (d : Nat → Nat) (a b : Nat) (W : World) (hI : SI w B n d W) (hab : a < b) (hb : b ≤ n) (hn : n ≤ 1000) (hd : ∀ i, i < n → d i < n) (hinc : ∀ i j, a ≤ i → i < j → j < b → d i < d j) :
  Calls Tryz.prog 289 #[.slice (some ⟨B, 0, none⟩) n cap, .int .i64 (a : Int), .int .i64 (b : Int), .func (.func g) #[] cb] W fun e w' => e = .returned (.tuple #[]) ∧ ∃ d', SI w B n d' w' ∧ Mv d' d n a b ∧ SortedOn cf d' a b := by
 have HI := Lib.hid hI
 have HO := Lib.hid hO
 have HD := Lib.hid hd
 have HINC := Lib.hid hinc
 have HCMP := Lib.hid hcmp
 clear hI hO hd hinc hcmp
 go_enter Tryz.func289, Tryz.ntmps289
 go_wp2_with fail
 go_loopg [8] (b - a) (fun gh v8 wx => ∃ (i : Nat) (c : Nat → Nat), v8 = .int .i64 (i : Int) ∧ i + gh = b + 1 ∧ a < i ∧ i ≤ b ∧ SI w B n c wx ∧ Mv c d n a i ∧ SortedOn cf c a i)
 case atStart => exact ⟨a + 1, d, rfl, by omega, by omega, by omega, HI.out, Mv.refl d n a _, fun i j h1 h2 h3 => by omega⟩
 case round =>
  obtain ⟨i, c, rfl, hg, hai, hib, hI, hM, hS⟩ := hrel
  have HI2 := Lib.hid hI
  have HM := Lib.hid hM
  have HS := Lib.hid hS
  clear hI hM hS HI
  by_cases hlt : i < b
  ·have hd : decide ((i : Int) < (b : Int)) = true := decide_eq_true (by omega)
   have HBD := Lib.hid (HM.out.bound (by omega) HD.out)
   have HGT : Hid (∀ p, a ≤ p → p < i → c p < c i) := Lib.hid (fun p h1 h2 => by
    obtain ⟨q, q1, q2, e⟩ := HM.out.img p h1 h2
    rw [e, HM.out.out i (by omega)]
    exact HINC.out q i q1 q2 hlt)
   go_wp2_with fail
   obtain ⟨wo, hwo⟩ : ∃ z, z = wr := ⟨_, rfl⟩
   obtain ⟨go, hgo⟩ : ∃ z, z = gk := ⟨_, rfl⟩
   rw [← hgo] at hg
   clear hwo
   go_loopg [9] (i + 1 - a) (fun gh v9 wx => ∃ j : Nat, v9 = .int .i64 (j : Int) ∧ j + 1 = a + gh ∧ a ≤ j ∧ j ≤ i ∧ SI w B n (ins c j i) wx ∧ ∀ p, j ≤ p → p < i → Lt cf (c i) (c p))
   case atStart => exact ⟨i, rfl, by omega, by omega, Nat.le_refl _, by rw [ins_self]; exact HI2.out, fun p h1 h2 => by omega⟩
   case round =>
    clear HI2
    obtain ⟨j, rfl, hgj, haj, hji, hI, hx⟩ := hrel
    have HI3 := Lib.hid hI
    have HX := Lib.hid hx
    clear hI hx
    have HEND : Hid (∀ wz, SI w B n (ins c j i) wz → (∀ p, a ≤ p → p < j → Lt cf (c p) (c i)) → SI w B n (ins c j i) wz ∧ Mv (ins c j i) d n a (i + 1) ∧ SortedOn cf (ins c j i) a (i + 1)) := Lib.hid (fun wz hz hy =>
     ⟨hz, ((Mv.ins c n i (by omega) (i - j) j (by omega)).wide (by omega) (Nat.le_refl _)).trans (HM.out.wide (Nat.le_refl _) (by omega)), ins_sorted (by omega) hji HS.out HX.out hy⟩)
    by_cases hja : a < j
    ·have hj1 : decide ((a : Int) < (j : Int)) = true := decide_eq_true (by omega)
     obtain ⟨jp, hjp⟩ : ∃ q, j = q + 1 := ⟨j - 1, by omega⟩
     subst hjp
     obtain ⟨x, ex⟩ : ∃ x, c i = x := ⟨_, rfl⟩
     obtain ⟨y, ey⟩ : ∃ y, c jp = y := ⟨_, rfl⟩
     have ex_ : Hid (ins c (jp + 1) i (jp + 1) = x) := Lib.hid (by simp [ins]; exact ex)
     have ey_ : Hid (ins c (jp + 1) i jp = y) := Lib.hid (by simp only [ins]; rw [if_neg (by omega), if_neg (by omega)]; exact ey)
     have hx_ : Hid (jp + 1 < n) := Lib.hid (by omega)
     have hy_ : Hid (jp < n) := Lib.hid (by omega)
     have bx_ : Hid (x < n) := Lib.hid (by rw [← ex]; exact HBD.out i (by omega))
     have by_ : Hid (y < n) := Lib.hid (by rw [← ey]; exact HBD.out jp (by omega))
     have hyx : Hid (y < x) := Lib.hid (by rw [← ex, ← ey]; exact HGT.out jp (by omega) (by omega))
     have EX := Lib.hid ex
     have EY := Lib.hid ey
     have hxb := bx_.out
     have hyb := by_.out
     have hw1 : ((jp : Int) + 1 - 1) = (jp : Int) := by omega
     have hi0 : (0 : Int) ≤ (jp : Int) := by omega
     have hi1 : (0 : Int) ≤ (jp : Int) + 1 := by omega
     have hi2 : (jp : Int) < (n : Int) := by omega
     have hi3 : (jp : Int) + 1 < (n : Int) := by omega
     have hwp : IntKind.i64.wrap (jp : Int) = (jp : Int) := IntWalk.i64_in _ (by omega)
     have hj2 : decide ((a : Int) < (jp : Int) + 1) = true := decide_eq_true (by omega)
     clear ex ey hj1
     by_cases hc : cf x y < 0
     ·skip
      have hcd : decide (cf x y < 0) = true := decide_eq_true hc
      go_wp2_with fail
      have hok : okB 17 (IyKs4 g cb cf B n cap a b i jp x y) = true := by kernel_rfl
      have hna := noAny_of (ks := (IyKs4 g cb cf B n cap a b i jp x y)) (by kernel_rfl)
      have hla := lasts_of hna
      refine wp_region_facts_abs (row := none) (w := wr) 17 0 17 [] (IyKs4 g cb cf B n cap a b i jp x y) [some 18, some 19, some 20, some 21, some 22, some 23, some 24, some 25, some 26, some 27, some 28, some 29, some 30, some 31, some 32, some 33, some 34] [(9, .int .i64 ((jp : Int) + 1)), (1, .int .i64 (a : Int)), (3, .func (.func g) #[] cb), (0, .slice (some ⟨B, 0, none⟩) n cap)] 53 (by kernel_rfl) (by kernel_rfl) (by kernel_rfl) rfl rfl (by decide) rfl (by kernel_rfl) rfl (Nat.le_of_eq rfl) rfl ?ho [u18, u19, u20, u21, u22, u23, u24, u25, u26, u27, u28, u29, u30, u31, u32, u33, u34] ?h00 (Fs.start rfl rfl) ?hs ?hd
      case ho =>
       intro k x hk
       match k, hk with
       | 0, hk => have hk := Option.some.inj hk; subst hk; rfl
       | 1, hk => have hk := Option.some.inj hk; subst hk; rfl
       | 2, hk => have hk := Option.some.inj hk; subst hk; rfl
       | 3, hk => have hk := Option.some.inj hk; subst hk; rfl
       | _ + 4, hk => exact absurd hk (by simp)
      case h00 => simp only [putO, layL]
      case hs =>
       rintro A listed vs Wr hF hR i hi hun hpre
       obtain ⟨s0, s1, s2, s3, s4, s5, s6, s7, s8, s9, s10, s11, s12, s13, s14, s15, s16, hvs⟩ := exl_of 17 vs (fun l => vs = l) hF.len rfl
       subst hvs
       have hge := Nat.zero_le i
       rcases Nat.lt_or_ge i 8 with hi | hge
       ·rcases Nat.lt_or_ge i 4 with hi | hge
        ·rcases Nat.lt_or_ge i 2 with hi | hge
         ·rcases Nat.lt_or_ge i 1 with hi | hge
          ·obtain rfl := eqi hi hge
           have ro9 : A.tmps[9]? = some (.int .i64 ((jp : Int) + 1)) := hR.out 0 _ rfl
           refine step_of ⟨some 18, _, _, _, _, _⟩ rfl (fun K' hK => ?_)
           go_simp
           exact hK.out _ _ ⟨_, hF.pure hok hla hpre rfl (Below.refl _ _), rfl⟩
          obtain rfl := eqi hi hge
          have ro1 : A.tmps[1]? = some (.int .i64 (a : Int)) := hR.out 1 _ rfl
          refine step_of ⟨some 19, _, _, _, _, _⟩ rfl (fun K' hK => ?_)
          go_simp
          exact hK.out _ _ ⟨_, hF.pure hok hla hpre rfl (Below.refl _ _), rfl⟩
         rcases Nat.lt_or_ge i 3 with hi | hge
         ·obtain rfl := eqi hi hge
          have p0 := hpre 0 (by kernel_rfl)
          have e0 : s0 = .int .i64 ((jp : Int) + 1) := hF.get 0 _ rfl (.inr p0)
          subst e0
          have r0 : A.tmps[18]? = some (.int .i64 ((jp : Int) + 1)) := hR.own 0 _ _ rfl rfl
          have p1 := hpre 1 (by kernel_rfl)
          have e1 : s1 = .int .i64 (a : Int) := hF.get 1 _ rfl (.inr p1)
          subst e1
          have r1 : A.tmps[19]? = some (.int .i64 (a : Int)) := hR.own 1 _ _ rfl rfl
          refine step_of ⟨some 20, _, _, _, _, _⟩ rfl (fun K' hK => ?_)
          go_simp
          exact hK.out _ _ ⟨_, hF.pure hok hla hpre rfl (Below.refl _ _), rfl⟩
         obtain rfl := eqi hi hge
         have p2 := hpre 2 (by kernel_rfl)
         have e2 : s2 = .bool true := hF.get 2 _ rfl (.inr p2)
         subst e2
         have r2 : A.tmps[20]? = some (.bool true) := hR.own 2 _ _ rfl rfl
         refine step_of ⟨some 21, _, _, _, _, _⟩ rfl (fun K' hK => ?_)
         go_simp
         exact hK.out _ _ ⟨_, hF.pure hok hla hpre rfl (Below.refl _ _), rfl⟩
        rcases Nat.lt_or_ge i 6 with hi | hge
        ·rcases Nat.lt_or_ge i 5 with hi | hge
         ·obtain rfl := eqi hi hge
          have p3 := hpre 3 (by kernel_rfl)
          have e3 : s3 = .bool true := hF.get 3 _ rfl (.inr p3)
          subst e3
          have r3 : A.tmps[21]? = some (.bool true) := hR.own 3 _ _ rfl rfl
          have ro3 : A.tmps[3]? = some (.func (.func g) #[] cb) := hR.out 2 _ rfl
          refine step_of ⟨some 22, _, _, _, _, _⟩ rfl (fun K' hK => ?_)
          rw [if_pos (by simp [Region.wanted, yielded, r3])]
          go_simp
          exact hK.out _ _ ⟨_, hF.pure hok hla hpre rfl (Below.refl _ _), rfl⟩
         obtain rfl := eqi hi hge
         have p3 := hpre 3 (by kernel_rfl)
         have e3 : s3 = .bool true := hF.get 3 _ rfl (.inr p3)
         subst e3
         have r3 : A.tmps[21]? = some (.bool true) := hR.own 3 _ _ rfl rfl
         have ro0 : A.tmps[0]? = some (.slice (some ⟨B, 0, none⟩) n cap) := hR.out 3 _ rfl
         refine step_of ⟨some 23, _, _, _, _, _⟩ rfl (fun K' hK => ?_)
         rw [if_pos (by simp [Region.wanted, yielded, r3])]
         go_simp
         exact hK.out _ _ ⟨_, hF.pure hok hla hpre rfl (Below.refl _ _), rfl⟩
        rcases Nat.lt_or_ge i 7 with hi | hge
        ·obtain rfl := eqi hi hge
         have p3 := hpre 3 (by kernel_rfl)
         have e3 : s3 = .bool true := hF.get 3 _ rfl (.inr p3)
         subst e3
         have r3 : A.tmps[21]? = some (.bool true) := hR.own 3 _ _ rfl rfl
         have ro9 : A.tmps[9]? = some (.int .i64 ((jp : Int) + 1)) := hR.out 0 _ rfl
         refine step_of ⟨some 24, _, _, _, _, _⟩ rfl (fun K' hK => ?_)
         rw [if_pos (by simp [Region.wanted, yielded, r3])]
         go_simp
         exact hK.out _ _ ⟨_, hF.pure hok hla hpre rfl (Below.refl _ _), rfl⟩
        obtain rfl := eqi hi hge
        have p5 := hpre 5 (by kernel_rfl)
        have e5 : s5 = .slice (some ⟨B, 0, none⟩) n cap := hF.get 5 _ rfl (.inr p5)
        subst e5
        have r5 : A.tmps[23]? = some (.slice (some ⟨B, 0, none⟩) n cap) := hR.own 5 _ _ rfl rfl
        have p6 := hpre 6 (by kernel_rfl)
        have e6 : s6 = .int .i64 ((jp : Int) + 1) := hF.get 6 _ rfl (.inr p6)
        subst e6
        have r6 : A.tmps[24]? = some (.int .i64 ((jp : Int) + 1)) := hR.own 6 _ _ rfl rfl
        have p3 := hpre 3 (by kernel_rfl)
        have e3 : s3 = .bool true := hF.get 3 _ rfl (.inr p3)
        subst e3
        have r3 : A.tmps[21]? = some (.bool true) := hR.own 3 _ _ rfl rfl
        refine step_of ⟨some 25, _, _, _, _, _⟩ rfl (fun K' hK => ?_)
        rw [if_pos (by simp [Region.wanted, yielded, r3])]
        go_simp
        exact hK.out _ _ ⟨_, hF.pure hok hla hpre rfl (Below.refl _ _), rfl⟩
       rcases Nat.lt_or_ge i 12 with hi | hge
       ·rcases Nat.lt_or_ge i 10 with hi | hge
        ·rcases Nat.lt_or_ge i 9 with hi | hge
         ·obtain rfl := eqi hi hge
          have p7 := hpre 7 (by kernel_rfl)
          have e7 : s7 = .pointer (some ⟨B, jp + 1, none⟩) := hF.get 7 _ rfl (.inr p7)
          subst e7
          have r7 : A.tmps[25]? = some (.pointer (some ⟨B, jp + 1, none⟩)) := hR.own 7 _ _ rfl rfl
          have p3 := hpre 3 (by kernel_rfl)
          have e3 : s3 = .bool true := hF.get 3 _ rfl (.inr p3)
          subst e3
          have r3 : A.tmps[21]? = some (.bool true) := hR.own 3 _ _ rfl rfl
          have c0 := HI3.out.cell (below_none hF.low) hx_.out ex_.out
          refine step_of ⟨some 26, _, _, _, _, _⟩ rfl (fun K' hK => ?_)
          rw [if_pos (by simp [Region.wanted, yielded, r3])]
          go_simp
          exact hK.out _ _ ⟨_, hF.pure hok hla hpre rfl (Below.refl _ _), rfl⟩
         obtain rfl := eqi hi hge
         have p3 := hpre 3 (by kernel_rfl)
         have e3 : s3 = .bool true := hF.get 3 _ rfl (.inr p3)
         subst e3
         have r3 : A.tmps[21]? = some (.bool true) := hR.own 3 _ _ rfl rfl
         have ro0 : A.tmps[0]? = some (.slice (some ⟨B, 0, none⟩) n cap) := hR.out 3 _ rfl
         refine step_of ⟨some 27, _, _, _, _, _⟩ rfl (fun K' hK => ?_)
         rw [if_pos (by simp [Region.wanted, yielded, r3])]
         go_simp
         exact hK.out _ _ ⟨_, hF.pure hok hla hpre rfl (Below.refl _ _), rfl⟩
        rcases Nat.lt_or_ge i 11 with hi | hge
        ·obtain rfl := eqi hi hge
         have p3 := hpre 3 (by kernel_rfl)
         have e3 : s3 = .bool true := hF.get 3 _ rfl (.inr p3)
         subst e3
         have r3 : A.tmps[21]? = some (.bool true) := hR.own 3 _ _ rfl rfl
         have ro9 : A.tmps[9]? = some (.int .i64 ((jp : Int) + 1)) := hR.out 0 _ rfl
         refine step_of ⟨some 28, _, _, _, _, _⟩ rfl (fun K' hK => ?_)
         rw [if_pos (by simp [Region.wanted, yielded, r3])]
         go_simp
         exact hK.out _ _ ⟨_, hF.pure hok hla hpre rfl (Below.refl _ _), rfl⟩
        obtain rfl := eqi hi hge
        have p10 := hpre 10 (by kernel_rfl)
        have e10 : s10 = .int .i64 ((jp : Int) + 1) := hF.get 10 _ rfl (.inr p10)
        subst e10
        have r10 : A.tmps[28]? = some (.int .i64 ((jp : Int) + 1)) := hR.own 10 _ _ rfl rfl
        have p3 := hpre 3 (by kernel_rfl)
        have e3 : s3 = .bool true := hF.get 3 _ rfl (.inr p3)
        subst e3
        have r3 : A.tmps[21]? = some (.bool true) := hR.own 3 _ _ rfl rfl
        refine step_of ⟨some 29, _, _, _, _, _⟩ rfl (fun K' hK => ?_)
        rw [if_pos (by simp [Region.wanted, yielded, r3])]
        go_simp
        exact hK.out _ _ ⟨_, hF.pure hok hla hpre rfl (Below.refl _ _), rfl⟩
       rcases Nat.lt_or_ge i 14 with hi | hge
       ·rcases Nat.lt_or_ge i 13 with hi | hge
        ·obtain rfl := eqi hi hge
         have p9 := hpre 9 (by kernel_rfl)
         have e9 : s9 = .slice (some ⟨B, 0, none⟩) n cap := hF.get 9 _ rfl (.inr p9)
         subst e9
         have r9 : A.tmps[27]? = some (.slice (some ⟨B, 0, none⟩) n cap) := hR.own 9 _ _ rfl rfl
         have p11 := hpre 11 (by kernel_rfl)
         have e11 : s11 = .int .i64 (jp : Int) := hF.get 11 _ rfl (.inr p11)
         subst e11
         have r11 : A.tmps[29]? = some (.int .i64 (jp : Int)) := hR.own 11 _ _ rfl rfl
         have p3 := hpre 3 (by kernel_rfl)
         have e3 : s3 = .bool true := hF.get 3 _ rfl (.inr p3)
         subst e3
         have r3 : A.tmps[21]? = some (.bool true) := hR.own 3 _ _ rfl rfl
         refine step_of ⟨some 30, _, _, _, _, _⟩ rfl (fun K' hK => ?_)
         rw [if_pos (by simp [Region.wanted, yielded, r3])]
         go_simp
         exact hK.out _ _ ⟨_, hF.pure hok hla hpre rfl (Below.refl _ _), rfl⟩
        obtain rfl := eqi hi hge
        have p12 := hpre 12 (by kernel_rfl)
        have e12 : s12 = .pointer (some ⟨B, jp, none⟩) := hF.get 12 _ rfl (.inr p12)
        subst e12
        have r12 : A.tmps[30]? = some (.pointer (some ⟨B, jp, none⟩)) := hR.own 12 _ _ rfl rfl
        have p3 := hpre 3 (by kernel_rfl)
        have e3 : s3 = .bool true := hF.get 3 _ rfl (.inr p3)
        subst e3
        have r3 : A.tmps[21]? = some (.bool true) := hR.own 3 _ _ rfl rfl
        have c0 := HI3.out.cell (below_none hF.low) hy_.out ey_.out
        refine step_of ⟨some 31, _, _, _, _, _⟩ rfl (fun K' hK => ?_)
        rw [if_pos (by simp [Region.wanted, yielded, r3])]
        go_simp
        exact hK.out _ _ ⟨_, hF.pure hok hla hpre rfl (Below.refl _ _), rfl⟩
       rcases Nat.lt_or_ge i 15 with hi | hge
       ·obtain rfl := eqi hi hge
        have p4 := hpre 4 (by kernel_rfl)
        have e4 : s4 = .func (.func g) #[] cb := hF.get 4 _ rfl (.inr p4)
        subst e4
        have r4 : A.tmps[22]? = some (.func (.func g) #[] cb) := hR.own 4 _ _ rfl rfl
        have p8 := hpre 8 (by kernel_rfl)
        have e8 : s8 = .int .i64 (x : Int) := hF.get 8 _ rfl (.inr p8)
        subst e8
        have r8 : A.tmps[26]? = some (.int .i64 (x : Int)) := hR.own 8 _ _ rfl rfl
        have p13 := hpre 13 (by kernel_rfl)
        have e13 : s13 = .int .i64 (y : Int) := hF.get 13 _ rfl (.inr p13)
        subst e13
        have r13 : A.tmps[31]? = some (.int .i64 (y : Int)) := hR.own 13 _ _ rfl rfl
        have p3 := hpre 3 (by kernel_rfl)
        have e3 : s3 = .bool true := hF.get 3 _ rfl (.inr p3)
        subst e3
        have r3 : A.tmps[21]? = some (.bool true) := hR.own 3 _ _ rfl rfl
        refine step_of ⟨some 32, _, _, _, _, _⟩ rfl (fun K' hK => ?_)
        rw [if_pos (by simp [Region.wanted, yielded, r3])]
        go_simp
        (with_reducible refine (HCMP.out.on _ (kept_trans HI3.out.low (kept_below (below_none hF.low))) x y bx_.out by_.out).mono ?_)
        rintro e Wq ⟨rfl, hq⟩
        exact hK.out _ _ ⟨_, hF.pure hok hla hpre rfl hq, rfl⟩
       rcases Nat.lt_or_ge i 16 with hi | hge
       ·obtain rfl := eqi hi hge
        have p14 := hpre 14 (by kernel_rfl)
        have e14 : s14 = .int .i64 (cf x y) := hF.get 14 _ rfl (.inr p14)
        subst e14
        have r14 : A.tmps[32]? = some (.int .i64 (cf x y)) := hR.own 14 _ _ rfl rfl
        have p3 := hpre 3 (by kernel_rfl)
        have e3 : s3 = .bool true := hF.get 3 _ rfl (.inr p3)
        subst e3
        have r3 : A.tmps[21]? = some (.bool true) := hR.own 3 _ _ rfl rfl
        refine step_of ⟨some 33, _, _, _, _, _⟩ rfl (fun K' hK => ?_)
        rw [if_pos (by simp [Region.wanted, yielded, r3])]
        go_simp
        exact hK.out _ _ ⟨_, hF.pure hok hla hpre rfl (Below.refl _ _), rfl⟩
       obtain rfl := eqi hi hge
       have p3 := hpre 3 (by kernel_rfl)
       have e3 : s3 = .bool true := hF.get 3 _ rfl (.inr p3)
       subst e3
       have r3 : A.tmps[21]? = some (.bool true) := hR.own 3 _ _ rfl rfl
       have p15 := hpre 15 (by kernel_rfl)
       have e15 : s15 = .bool true := hF.get 15 _ rfl (.inr p15)
       subst e15
       have r15 : A.tmps[33]? = some (.bool true) := hR.own 15 _ _ rfl rfl
       refine step_of ⟨some 34, _, _, _, _, _⟩ rfl (fun K' hK => ?_)
       go_simp
       exact hK.out _ _ ⟨_, hF.pure hok hla hpre rfl (Below.refl _ _), rfl⟩
      case hd =>
       rintro listed vs V hF hall
       obtain ⟨s0, s1, s2, s3, s4, s5, s6, s7, s8, s9, s10, s11, s12, s13, s14, s15, s16, hvs⟩ := exl_of 17 vs (fun l => vs = l) hF.len rfl
       subst hvs
       have e16 : s16 = .bool true := hF.get 16 _ rfl (.inr (hall 16 (by decide)))
       subst e16
       have hq := below_none hF.low
       replace HI3 := Lib.hid (HI3.out.step hq)
       clear hq
       clear hF hall hok hla hna
       refine rest_end ?_
       simp only [putO, layL]
       obtain ⟨ca, fa⟩ := HI3.out.row (jp + 1) hx_.out
       obtain ⟨cbb, fb⟩ := HI3.out.row jp hy_.out
       rw [ex_.out] at ca
       rw [ey_.out] at cbb
       have HS2 := HI3.out.swp (i := jp + 1) (j := jp) hx_.out hy_.out (by omega)
       rw [ins_step c jp i (by omega), ex_.out, ey_.out] at HS2
       replace HS2 := Lib.hid (HS2.drew 1)
       have HXN := Lib.hid (show ∀ p, jp ≤ p → p < i → Lt cf (c i) (c p) from fun p h1 h2 => by
        rcases Nat.eq_or_lt_of_le h1 with e | e
        ·rw [← e, EX.out, EY.out]; exact less_yes hc
        ·exact HX.out p e h2)
       clear hc hcd
       go_wp2_with fail
       go_region
       obtain ⟨V2, hV⟩ : ∃ Z, ((V.setCell ⟨B, jp + 1, none⟩ (.int .i64 (y : Int))).setCell ⟨B, jp, none⟩ (.int .i64 (x : Int))).drew = Z := ⟨_, rfl⟩
       rw [hV]
       replace HS2 := Lib.hid (show SI w B n (ins c jp i) V2 from by rw [← hV]; exact HS2.out)
       clear hV ca cbb fa fb
       go_wp2
       go_roundg (gk - 1)
       case measure => omega
       case rel => exact ⟨jp, rfl, by omega, by omega, by omega, HS2.out, HXN.out⟩
     ·skip
      have hcd : decide (cf x y < 0) = false := decide_eq_false hc
      go_wp2_with fail
      have hok : okB 17 (InKs4 g cb cf B n cap a b i jp x y) = true := by kernel_rfl
      have hna := noAny_of (ks := (InKs4 g cb cf B n cap a b i jp x y)) (by kernel_rfl)
      have hla := lasts_of hna
      refine wp_region_facts_abs (row := none) (w := wr) 17 0 17 [] (InKs4 g cb cf B n cap a b i jp x y) [some 18, some 19, some 20, some 21, some 22, some 23, some 24, some 25, some 26, some 27, some 28, some 29, some 30, some 31, some 32, some 33, some 34] [(9, .int .i64 ((jp : Int) + 1)), (1, .int .i64 (a : Int)), (3, .func (.func g) #[] cb), (0, .slice (some ⟨B, 0, none⟩) n cap)] 53 (by kernel_rfl) (by kernel_rfl) (by kernel_rfl) rfl rfl (by decide) rfl (by kernel_rfl) rfl (Nat.le_of_eq rfl) rfl ?ho [u18, u19, u20, u21, u22, u23, u24, u25, u26, u27, u28, u29, u30, u31, u32, u33, u34] ?h00 (Fs.start rfl rfl) ?hs ?hd
      case ho =>
       intro k x hk
       match k, hk with
       | 0, hk => have hk := Option.some.inj hk; subst hk; rfl
       | 1, hk => have hk := Option.some.inj hk; subst hk; rfl
       | 2, hk => have hk := Option.some.inj hk; subst hk; rfl
       | 3, hk => have hk := Option.some.inj hk; subst hk; rfl
       | _ + 4, hk => exact absurd hk (by simp)
      case h00 => simp only [putO, layL]
      case hs =>
       rintro A listed vs Wr hF hR i hi hun hpre
       obtain ⟨s0, s1, s2, s3, s4, s5, s6, s7, s8, s9, s10, s11, s12, s13, s14, s15, s16, hvs⟩ := exl_of 17 vs (fun l => vs = l) hF.len rfl
       subst hvs
       have hge := Nat.zero_le i
       rcases Nat.lt_or_ge i 8 with hi | hge
       ·rcases Nat.lt_or_ge i 4 with hi | hge
        ·rcases Nat.lt_or_ge i 2 with hi | hge
         ·rcases Nat.lt_or_ge i 1 with hi | hge
          ·obtain rfl := eqi hi hge
           have ro9 : A.tmps[9]? = some (.int .i64 ((jp : Int) + 1)) := hR.out 0 _ rfl
           refine step_of ⟨some 18, _, _, _, _, _⟩ rfl (fun K' hK => ?_)
           go_simp
           exact hK.out _ _ ⟨_, hF.pure hok hla hpre rfl (Below.refl _ _), rfl⟩
          obtain rfl := eqi hi hge
          have ro1 : A.tmps[1]? = some (.int .i64 (a : Int)) := hR.out 1 _ rfl
          refine step_of ⟨some 19, _, _, _, _, _⟩ rfl (fun K' hK => ?_)
          go_simp
          exact hK.out _ _ ⟨_, hF.pure hok hla hpre rfl (Below.refl _ _), rfl⟩
         rcases Nat.lt_or_ge i 3 with hi | hge
         ·obtain rfl := eqi hi hge
          have p0 := hpre 0 (by kernel_rfl)
          have e0 : s0 = .int .i64 ((jp : Int) + 1) := hF.get 0 _ rfl (.inr p0)
          subst e0
          have r0 : A.tmps[18]? = some (.int .i64 ((jp : Int) + 1)) := hR.own 0 _ _ rfl rfl
          have p1 := hpre 1 (by kernel_rfl)
          have e1 : s1 = .int .i64 (a : Int) := hF.get 1 _ rfl (.inr p1)
          subst e1
          have r1 : A.tmps[19]? = some (.int .i64 (a : Int)) := hR.own 1 _ _ rfl rfl
          refine step_of ⟨some 20, _, _, _, _, _⟩ rfl (fun K' hK => ?_)
          go_simp
          exact hK.out _ _ ⟨_, hF.pure hok hla hpre rfl (Below.refl _ _), rfl⟩
         obtain rfl := eqi hi hge
         have p2 := hpre 2 (by kernel_rfl)
         have e2 : s2 = .bool true := hF.get 2 _ rfl (.inr p2)
         subst e2
         have r2 : A.tmps[20]? = some (.bool true) := hR.own 2 _ _ rfl rfl
         refine step_of ⟨some 21, _, _, _, _, _⟩ rfl (fun K' hK => ?_)
         go_simp
         exact hK.out _ _ ⟨_, hF.pure hok hla hpre rfl (Below.refl _ _), rfl⟩
        rcases Nat.lt_or_ge i 6 with hi | hge
        ·rcases Nat.lt_or_ge i 5 with hi | hge
         ·obtain rfl := eqi hi hge
          have p3 := hpre 3 (by kernel_rfl)
          have e3 : s3 = .bool true := hF.get 3 _ rfl (.inr p3)
          subst e3
          have r3 : A.tmps[21]? = some (.bool true) := hR.own 3 _ _ rfl rfl
          have ro3 : A.tmps[3]? = some (.func (.func g) #[] cb) := hR.out 2 _ rfl
          refine step_of ⟨some 22, _, _, _, _, _⟩ rfl (fun K' hK => ?_)
          rw [if_pos (by simp [Region.wanted, yielded, r3])]
          go_simp
          exact hK.out _ _ ⟨_, hF.pure hok hla hpre rfl (Below.refl _ _), rfl⟩
         obtain rfl := eqi hi hge
         have p3 := hpre 3 (by kernel_rfl)
         have e3 : s3 = .bool true := hF.get 3 _ rfl (.inr p3)
         subst e3
         have r3 : A.tmps[21]? = some (.bool true) := hR.own 3 _ _ rfl rfl
         have ro0 : A.tmps[0]? = some (.slice (some ⟨B, 0, none⟩) n cap) := hR.out 3 _ rfl
         refine step_of ⟨some 23, _, _, _, _, _⟩ rfl (fun K' hK => ?_)
         rw [if_pos (by simp [Region.wanted, yielded, r3])]
         go_simp
         exact hK.out _ _ ⟨_, hF.pure hok hla hpre rfl (Below.refl _ _), rfl⟩
        rcases Nat.lt_or_ge i 7 with hi | hge
        ·obtain rfl := eqi hi hge
         have p3 := hpre 3 (by kernel_rfl)
         have e3 : s3 = .bool true := hF.get 3 _ rfl (.inr p3)
         subst e3
         have r3 : A.tmps[21]? = some (.bool true) := hR.own 3 _ _ rfl rfl
         have ro9 : A.tmps[9]? = some (.int .i64 ((jp : Int) + 1)) := hR.out 0 _ rfl
         refine step_of ⟨some 24, _, _, _, _, _⟩ rfl (fun K' hK => ?_)
         rw [if_pos (by simp [Region.wanted, yielded, r3])]
         go_simp
         exact hK.out _ _ ⟨_, hF.pure hok hla hpre rfl (Below.refl _ _), rfl⟩
        obtain rfl := eqi hi hge
        have p5 := hpre 5 (by kernel_rfl)
        have e5 : s5 = .slice (some ⟨B, 0, none⟩) n cap := hF.get 5 _ rfl (.inr p5)
        subst e5
        have r5 : A.tmps[23]? = some (.slice (some ⟨B, 0, none⟩) n cap) := hR.own 5 _ _ rfl rfl
        have p6 := hpre 6 (by kernel_rfl)
        have e6 : s6 = .int .i64 ((jp : Int) + 1) := hF.get 6 _ rfl (.inr p6)
        subst e6
        have r6 : A.tmps[24]? = some (.int .i64 ((jp : Int) + 1)) := hR.own 6 _ _ rfl rfl
        have p3 := hpre 3 (by kernel_rfl)
        have e3 : s3 = .bool true := hF.get 3 _ rfl (.inr p3)
        subst e3
        have r3 : A.tmps[21]? = some (.bool true) := hR.own 3 _ _ rfl rfl
        refine step_of ⟨some 25, _, _, _, _, _⟩ rfl (fun K' hK => ?_)
        rw [if_pos (by simp [Region.wanted, yielded, r3])]
        go_simp
        exact hK.out _ _ ⟨_, hF.pure hok hla hpre rfl (Below.refl _ _), rfl⟩
       rcases Nat.lt_or_ge i 12 with hi | hge
       ·rcases Nat.lt_or_ge i 10 with hi | hge
        ·rcases Nat.lt_or_ge i 9 with hi | hge
         ·obtain rfl := eqi hi hge
          have p7 := hpre 7 (by kernel_rfl)
          have e7 : s7 = .pointer (some ⟨B, jp + 1, none⟩) := hF.get 7 _ rfl (.inr p7)
          subst e7
          have r7 : A.tmps[25]? = some (.pointer (some ⟨B, jp + 1, none⟩)) := hR.own 7 _ _ rfl rfl
          have p3 := hpre 3 (by kernel_rfl)
          have e3 : s3 = .bool true := hF.get 3 _ rfl (.inr p3)
          subst e3
          have r3 : A.tmps[21]? = some (.bool true) := hR.own 3 _ _ rfl rfl
          have c0 := HI3.out.cell (below_none hF.low) hx_.out ex_.out
          refine step_of ⟨some 26, _, _, _, _, _⟩ rfl (fun K' hK => ?_)
          rw [if_pos (by simp [Region.wanted, yielded, r3])]
          go_simp
          exact hK.out _ _ ⟨_, hF.pure hok hla hpre rfl (Below.refl _ _), rfl⟩
         obtain rfl := eqi hi hge
         have p3 := hpre 3 (by kernel_rfl)
         have e3 : s3 = .bool true := hF.get 3 _ rfl (.inr p3)
         subst e3
         have r3 : A.tmps[21]? = some (.bool true) := hR.own 3 _ _ rfl rfl
         have ro0 : A.tmps[0]? = some (.slice (some ⟨B, 0, none⟩) n cap) := hR.out 3 _ rfl
         refine step_of ⟨some 27, _, _, _, _, _⟩ rfl (fun K' hK => ?_)
         rw [if_pos (by simp [Region.wanted, yielded, r3])]
         go_simp
         exact hK.out _ _ ⟨_, hF.pure hok hla hpre rfl (Below.refl _ _), rfl⟩
        rcases Nat.lt_or_ge i 11 with hi | hge
        ·obtain rfl := eqi hi hge
         have p3 := hpre 3 (by kernel_rfl)
         have e3 : s3 = .bool true := hF.get 3 _ rfl (.inr p3)
         subst e3
         have r3 : A.tmps[21]? = some (.bool true) := hR.own 3 _ _ rfl rfl
         have ro9 : A.tmps[9]? = some (.int .i64 ((jp : Int) + 1)) := hR.out 0 _ rfl
         refine step_of ⟨some 28, _, _, _, _, _⟩ rfl (fun K' hK => ?_)
         rw [if_pos (by simp [Region.wanted, yielded, r3])]
         go_simp
         exact hK.out _ _ ⟨_, hF.pure hok hla hpre rfl (Below.refl _ _), rfl⟩
        obtain rfl := eqi hi hge
        have p10 := hpre 10 (by kernel_rfl)
        have e10 : s10 = .int .i64 ((jp : Int) + 1) := hF.get 10 _ rfl (.inr p10)
        subst e10
        have r10 : A.tmps[28]? = some (.int .i64 ((jp : Int) + 1)) := hR.own 10 _ _ rfl rfl
        have p3 := hpre 3 (by kernel_rfl)
        have e3 : s3 = .bool true := hF.get 3 _ rfl (.inr p3)
        subst e3
        have r3 : A.tmps[21]? = some (.bool true) := hR.own 3 _ _ rfl rfl
        refine step_of ⟨some 29, _, _, _, _, _⟩ rfl (fun K' hK => ?_)
        rw [if_pos (by simp [Region.wanted, yielded, r3])]
        go_simp
        exact hK.out _ _ ⟨_, hF.pure hok hla hpre rfl (Below.refl _ _), rfl⟩
       rcases Nat.lt_or_ge i 14 with hi | hge
       ·rcases Nat.lt_or_ge i 13 with hi | hge
        ·obtain rfl := eqi hi hge
         have p9 := hpre 9 (by kernel_rfl)
         have e9 : s9 = .slice (some ⟨B, 0, none⟩) n cap := hF.get 9 _ rfl (.inr p9)
         subst e9
         have r9 : A.tmps[27]? = some (.slice (some ⟨B, 0, none⟩) n cap) := hR.own 9 _ _ rfl rfl
         have p11 := hpre 11 (by kernel_rfl)
         have e11 : s11 = .int .i64 (jp : Int) := hF.get 11 _ rfl (.inr p11)
         subst e11
         have r11 : A.tmps[29]? = some (.int .i64 (jp : Int)) := hR.own 11 _ _ rfl rfl
         have p3 := hpre 3 (by kernel_rfl)
         have e3 : s3 = .bool true := hF.get 3 _ rfl (.inr p3)
         subst e3
         have r3 : A.tmps[21]? = some (.bool true) := hR.own 3 _ _ rfl rfl
         refine step_of ⟨some 30, _, _, _, _, _⟩ rfl (fun K' hK => ?_)
         rw [if_pos (by simp [Region.wanted, yielded, r3])]
         go_simp
         exact hK.out _ _ ⟨_, hF.pure hok hla hpre rfl (Below.refl _ _), rfl⟩
        obtain rfl := eqi hi hge
        have p12 := hpre 12 (by kernel_rfl)
        have e12 : s12 = .pointer (some ⟨B, jp, none⟩) := hF.get 12 _ rfl (.inr p12)
        subst e12
        have r12 : A.tmps[30]? = some (.pointer (some ⟨B, jp, none⟩)) := hR.own 12 _ _ rfl rfl
        have p3 := hpre 3 (by kernel_rfl)
        have e3 : s3 = .bool true := hF.get 3 _ rfl (.inr p3)
        subst e3
        have r3 : A.tmps[21]? = some (.bool true) := hR.own 3 _ _ rfl rfl
        have c0 := HI3.out.cell (below_none hF.low) hy_.out ey_.out
        refine step_of ⟨some 31, _, _, _, _, _⟩ rfl (fun K' hK => ?_)
        rw [if_pos (by simp [Region.wanted, yielded, r3])]
        go_simp
        exact hK.out _ _ ⟨_, hF.pure hok hla hpre rfl (Below.refl _ _), rfl⟩
       rcases Nat.lt_or_ge i 15 with hi | hge
       ·obtain rfl := eqi hi hge
        have p4 := hpre 4 (by kernel_rfl)
        have e4 : s4 = .func (.func g) #[] cb := hF.get 4 _ rfl (.inr p4)
        subst e4
        have r4 : A.tmps[22]? = some (.func (.func g) #[] cb) := hR.own 4 _ _ rfl rfl
        have p8 := hpre 8 (by kernel_rfl)
        have e8 : s8 = .int .i64 (x : Int) := hF.get 8 _ rfl (.inr p8)
        subst e8
        have r8 : A.tmps[26]? = some (.int .i64 (x : Int)) := hR.own 8 _ _ rfl rfl
        have p13 := hpre 13 (by kernel_rfl)
        have e13 : s13 = .int .i64 (y : Int) := hF.get 13 _ rfl (.inr p13)
        subst e13
        have r13 : A.tmps[31]? = some (.int .i64 (y : Int)) := hR.own 13 _ _ rfl rfl
        have p3 := hpre 3 (by kernel_rfl)
        have e3 : s3 = .bool true := hF.get 3 _ rfl (.inr p3)
        subst e3
        have r3 : A.tmps[21]? = some (.bool true) := hR.own 3 _ _ rfl rfl
        refine step_of ⟨some 32, _, _, _, _, _⟩ rfl (fun K' hK => ?_)
        rw [if_pos (by simp [Region.wanted, yielded, r3])]
        go_simp
        (with_reducible refine (HCMP.out.on _ (kept_trans HI3.out.low (kept_below (below_none hF.low))) x y bx_.out by_.out).mono ?_)
        rintro e Wq ⟨rfl, hq⟩
        exact hK.out _ _ ⟨_, hF.pure hok hla hpre rfl hq, rfl⟩
       rcases Nat.lt_or_ge i 16 with hi | hge
       ·obtain rfl := eqi hi hge
        have p14 := hpre 14 (by kernel_rfl)
        have e14 : s14 = .int .i64 (cf x y) := hF.get 14 _ rfl (.inr p14)
        subst e14
        have r14 : A.tmps[32]? = some (.int .i64 (cf x y)) := hR.own 14 _ _ rfl rfl
        have p3 := hpre 3 (by kernel_rfl)
        have e3 : s3 = .bool true := hF.get 3 _ rfl (.inr p3)
        subst e3
        have r3 : A.tmps[21]? = some (.bool true) := hR.own 3 _ _ rfl rfl
        refine step_of ⟨some 33, _, _, _, _, _⟩ rfl (fun K' hK => ?_)
        rw [if_pos (by simp [Region.wanted, yielded, r3])]
        go_simp
        exact hK.out _ _ ⟨_, hF.pure hok hla hpre rfl (Below.refl _ _), rfl⟩
       obtain rfl := eqi hi hge
       have p3 := hpre 3 (by kernel_rfl)
       have e3 : s3 = .bool true := hF.get 3 _ rfl (.inr p3)
       subst e3
       have r3 : A.tmps[21]? = some (.bool true) := hR.own 3 _ _ rfl rfl
       have p15 := hpre 15 (by kernel_rfl)
       have e15 : s15 = .bool false := hF.get 15 _ rfl (.inr p15)
       subst e15
       have r15 : A.tmps[33]? = some (.bool false) := hR.own 15 _ _ rfl rfl
       refine step_of ⟨some 34, _, _, _, _, _⟩ rfl (fun K' hK => ?_)
       go_simp
       exact hK.out _ _ ⟨_, hF.pure hok hla hpre rfl (Below.refl _ _), rfl⟩
      case hd =>
       rintro listed vs V hF hall
       obtain ⟨s0, s1, s2, s3, s4, s5, s6, s7, s8, s9, s10, s11, s12, s13, s14, s15, s16, hvs⟩ := exl_of 17 vs (fun l => vs = l) hF.len rfl
       subst hvs
       have e16 : s16 = .bool false := hF.get 16 _ rfl (.inr (hall 16 (by decide)))
       subst e16
       have hq := below_none hF.low
       replace HI3 := Lib.hid (HI3.out.step hq)
       clear hq
       clear hF hall hok hla hna
       refine rest_end ?_
       simp only [putO, layL]
       have HE2 := Lib.hid (HEND.out _ HI3.out (fun p h1 h2 => sorted_le HO.out HS.out (fun k _ hk => HBD.out k (by omega)) (HBD.out i (by omega)) h1 (show p ≤ jp by omega) (by omega) (by rw [EX.out, EY.out]; exact less_no HO.out bx_.out by_.out hyx.out (by omega))))
       clear hc hcd
       go_wp2
       go_roundg (go - 1)
       case measure => omega
       case rel => exact ⟨i + 1, _, by go_num, by omega, by omega, by omega, HE2.out.1, HE2.out.2.1, HE2.out.2.2⟩
    ·have hj1 : decide ((a : Int) < (j : Int)) = false := decide_eq_false (by omega)
     obtain rfl : j = a := by omega
     go_wp2_with fail
     go_quiet (fail)
     have HE2 := Lib.hid (HEND.out _ (HI3.out.drew nq) (fun p h1 h2 => by omega))
     go_wp2
     go_roundg (go - 1)
     case measure => omega
     case rel => exact ⟨i + 1, _, by go_num, by omega, by omega, by omega, HE2.out.1, HE2.out.2.1, HE2.out.2.2⟩
  ·have hd : decide ((i : Int) < (b : Int)) = false := decide_eq_false (by omega)
   obtain rfl : i = b := by omega
   go_wp2
   go_end0
   exact ⟨rfl, c, HI2.out, HM.out, HS.out⟩
end Go.Proofs.YtkghpiaoggljjaaGreatDoor.Num.Mt

/- The library's sort of a row of numbers: merging two runs beside each other (a left run of one). Conditions: the row is the call's own; the comparison is an order. -/
namespace Go.Proofs.YtkghpiaoggljjaaGreatDoor.Num.Mt
open Go.RowKit Go.Lib Num
attribute [local irreducible] wpOp
set_option linter.unusedVariables false in
/-- what the operations of region 5 yield -/
def MLyKs5 (g : Nat) (cb : Array Value) (cf : Nat → Nat → Int) (B n cap a b i h x y : Nat) : List RK :=
 [.pure (.func (.func g) #[] cb),
  .pure (.slice (some ⟨B, 0, none⟩) n cap),
  .pure (.int .i64 (h : Int)),
  .pure (.pointer (some ⟨B, h, none⟩)),
  .pure (.int .i64 (x : Int)),
  .pure (.slice (some ⟨B, 0, none⟩) n cap),
  .pure (.int .i64 (a : Int)),
  .pure (.pointer (some ⟨B, a, none⟩)),
  .pure (.int .i64 (y : Int)),
  .pure (.int .i64 (cf x y)),
  .pure (.bool true)]
set_option linter.unusedVariables false in
/-- what the operations of region 5 yield -/
def MLnKs5 (g : Nat) (cb : Array Value) (cf : Nat → Nat → Int) (B n cap a b i h x y : Nat) : List RK :=
 [.pure (.func (.func g) #[] cb),
  .pure (.slice (some ⟨B, 0, none⟩) n cap),
  .pure (.int .i64 (h : Int)),
  .pure (.pointer (some ⟨B, h, none⟩)),
  .pure (.int .i64 (x : Int)),
  .pure (.slice (some ⟨B, 0, none⟩) n cap),
  .pure (.int .i64 (a : Int)),
  .pure (.pointer (some ⟨B, a, none⟩)),
  .pure (.int .i64 (y : Int)),
  .pure (.int .i64 (cf x y)),
  .pure (.bool false)]
set_option maxHeartbeats 8000000 in
set_option maxRecDepth 100000 in
theorem merge_left (w : World) (B n cap g : Nat) (cb : Array Value) (cf : Nat → Nat → Int) (hO : Ord cf n) (eg : ∀ args w, (callFunc g args).run Tryz.prog w = .ok (.enter g args) w) (hcmp : CmpOk g cb cf w B n) (hn : n ≤ 1000)
  (d : Nat → Nat) (t a m b : Nat) (W : World) (hI : SI w B n d W) (ham : a < m) (hmb : m < b) (hb : b ≤ n) (hd : ∀ i, i < n → d i < n) (hR : Runs cf d t a m b) (hm : m ≤ a + 1) :
  Calls Tryz.prog 290 #[.slice (some ⟨B, 0, none⟩) n cap, .int .i64 (a : Int), .int .i64 (m : Int), .int .i64 (b : Int), .func (.func g) #[] cb] W fun e w' => e = .returned (.tuple #[]) ∧ ∃ d', SI w B n d' w' ∧ Mv d' d n a b ∧ SortedOn cf d' a b := by
 have HI := Lib.hid hI
 have HO := Lib.hid hO
 have HD := Lib.hid hd
 have HR := Lib.hid hR
 have HCMP := Lib.hid hcmp
 have e1 : (m : Int) - (a : Int) = 1 := by omega
 clear hI hO hd hR hcmp
 go_enter Tryz.func290, Tryz.ntmps290
 go_wp2_with fail
 go_loopg [10, 11] (b - m) (fun gh v10 v11 wx => ∃ i j : Nat, v10 = .int .i64 (i : Int) ∧ v11 = .int .i64 (j : Int) ∧ j - i ≤ gh ∧ m ≤ i ∧ i ≤ j ∧ j ≤ b ∧ SI w B n d wx ∧ (∀ p, m ≤ p → p < i → Lt cf (d p) (d a)) ∧ (∀ p, j ≤ p → p < b → Lt cf (d a) (d p)))
 case atStart => exact ⟨m, b, rfl, rfl, Nat.le_refl _, Nat.le_refl _, by omega, Nat.le_refl _, HI.out, fun p h1 h2 => by omega, fun p h1 h2 => by omega⟩
 case round =>
  obtain ⟨i, j, rfl, rfl, hg, hmi, hij, hjb, hI, hx, hy⟩ := hrel
  have HI2 := Lib.hid hI
  have HX := Lib.hid hx
  have HY := Lib.hid hy
  clear hI hx hy HI e1
  by_cases hlt : i < j
  ·have hd1 : decide ((i : Int) < (j : Int)) = true := decide_eq_true (by omega)
   obtain ⟨h, hh⟩ : ∃ h, (i + j) / 2 = h := ⟨_, rfl⟩
   have hih : i ≤ h := by omega
   have hhj : h < j := by omega
   have hw2 : IntKind.u64.wrap ((i : Int) + (j : Int)) = ((i : Int) + (j : Int)) := IntWalk.u64_in _ (by omega)
   have hw3 : ((i : Int) + (j : Int)) / 2 = (h : Int) := by omega
   have hw4 : IntKind.u64.wrap (h : Int) = (h : Int) := IntWalk.u64_in _ (by omega)
   have hwp : IntKind.i64.wrap (h : Int) = (h : Int) := IntWalk.i64_in _ (by omega)
   clear hh
   obtain ⟨x, ex⟩ : ∃ x, d h = x := ⟨_, rfl⟩
   obtain ⟨y, ey⟩ : ∃ y, d a = y := ⟨_, rfl⟩
   have ex_ := Lib.hid ex
   have ey_ := Lib.hid ey
   have hx_ : Hid (h < n) := Lib.hid (by omega)
   have hy_ : Hid (a < n) := Lib.hid (by omega)
   have bx_ : Hid (x < n) := Lib.hid (by rw [← ex]; exact HD.out h (by omega))
   have by_ : Hid (y < n) := Lib.hid (by rw [← ey]; exact HD.out a (by omega))
   have hyx : Hid (y < x) := Lib.hid (by rw [← ex, ← ey]; exact Nat.lt_of_lt_of_le (HR.out.lo a (Nat.le_refl _) (by omega)) (HR.out.hi h (by omega) (by omega)))
   have hxb := bx_.out
   have hyb := by_.out
   have hi0 : (0 : Int) ≤ (h : Int) := by omega
   have hi1 : (0 : Int) ≤ (a : Int) := by omega
   have hi2 : (h : Int) < (n : Int) := by omega
   have hi3 : (a : Int) < (n : Int) := by omega
   clear ex ey
   by_cases hc : cf x y < 0
   ·skip
    have hcd : decide (cf x y < 0) = true := decide_eq_true hc
    go_wp2_with fail
    have hok : okB 11 (MLyKs5 g cb cf B n cap a b i h x y) = true := by kernel_rfl
    have hna := noAny_of (ks := (MLyKs5 g cb cf B n cap a b i h x y)) (by kernel_rfl)
    have hla := lasts_of hna
    refine wp_region_facts_abs (row := none) (w := wr) 11 0 11 [] (MLyKs5 g cb cf B n cap a b i h x y) [some 40, some 41, some 42, some 43, some 44, some 45, some 46, some 47, some 48, some 49, some 50] [(4, .func (.func g) #[] cb), (0, .slice (some ⟨B, 0, none⟩) n cap), (12, .int .i64 (h : Int)), (1, .int .i64 (a : Int))] 220 (by kernel_rfl) (by kernel_rfl) (by kernel_rfl) rfl rfl (by decide) rfl (by kernel_rfl) rfl (Nat.le_of_eq rfl) rfl ?ho [u40, u41, u42, u43, u44, u45, u46, u47, u48, u49, u50] ?h00 (Fs.start rfl rfl) ?hs ?hd
    case ho =>
     intro k x hk
     match k, hk with
     | 0, hk => have hk := Option.some.inj hk; subst hk; rfl
     | 1, hk => have hk := Option.some.inj hk; subst hk; rfl
     | 2, hk => have hk := Option.some.inj hk; subst hk; rfl
     | 3, hk => have hk := Option.some.inj hk; subst hk; rfl
     | _ + 4, hk => exact absurd hk (by simp)
    case h00 => simp only [putO, layL]
    case hs =>
     rintro A listed vs Wr hF hR i hi hun hpre
     obtain ⟨s0, s1, s2, s3, s4, s5, s6, s7, s8, s9, s10, hvs⟩ := exl_of 11 vs (fun l => vs = l) hF.len rfl
     subst hvs
     have hge := Nat.zero_le i
     rcases Nat.lt_or_ge i 5 with hi | hge
     ·rcases Nat.lt_or_ge i 2 with hi | hge
      ·rcases Nat.lt_or_ge i 1 with hi | hge
       ·obtain rfl := eqi hi hge
        have ro4 : A.tmps[4]? = some (.func (.func g) #[] cb) := hR.out 0 _ rfl
        refine step_of ⟨some 40, _, _, _, _, _⟩ rfl (fun K' hK => ?_)
        go_simp
        exact hK.out _ _ ⟨_, hF.pure hok hla hpre rfl (Below.refl _ _), rfl⟩
       obtain rfl := eqi hi hge
       have ro0 : A.tmps[0]? = some (.slice (some ⟨B, 0, none⟩) n cap) := hR.out 1 _ rfl
       refine step_of ⟨some 41, _, _, _, _, _⟩ rfl (fun K' hK => ?_)
       go_simp
       exact hK.out _ _ ⟨_, hF.pure hok hla hpre rfl (Below.refl _ _), rfl⟩
      rcases Nat.lt_or_ge i 3 with hi | hge
      ·obtain rfl := eqi hi hge
       have ro12 : A.tmps[12]? = some (.int .i64 (h : Int)) := hR.out 2 _ rfl
       refine step_of ⟨some 42, _, _, _, _, _⟩ rfl (fun K' hK => ?_)
       go_simp
       exact hK.out _ _ ⟨_, hF.pure hok hla hpre rfl (Below.refl _ _), rfl⟩
      rcases Nat.lt_or_ge i 4 with hi | hge
      ·obtain rfl := eqi hi hge
       have p1 := hpre 1 (by kernel_rfl)
       have e1 : s1 = .slice (some ⟨B, 0, none⟩) n cap := hF.get 1 _ rfl (.inr p1)
       subst e1
       have r1 : A.tmps[41]? = some (.slice (some ⟨B, 0, none⟩) n cap) := hR.own 1 _ _ rfl rfl
       have p2 := hpre 2 (by kernel_rfl)
       have e2 : s2 = .int .i64 (h : Int) := hF.get 2 _ rfl (.inr p2)
       subst e2
       have r2 : A.tmps[42]? = some (.int .i64 (h : Int)) := hR.own 2 _ _ rfl rfl
       refine step_of ⟨some 43, _, _, _, _, _⟩ rfl (fun K' hK => ?_)
       go_simp
       exact hK.out _ _ ⟨_, hF.pure hok hla hpre rfl (Below.refl _ _), rfl⟩
      obtain rfl := eqi hi hge
      have p3 := hpre 3 (by kernel_rfl)
      have e3 : s3 = .pointer (some ⟨B, h, none⟩) := hF.get 3 _ rfl (.inr p3)
      subst e3
      have r3 : A.tmps[43]? = some (.pointer (some ⟨B, h, none⟩)) := hR.own 3 _ _ rfl rfl
      have c0 := HI2.out.cell (below_none hF.low) hx_.out ex_.out
      refine step_of ⟨some 44, _, _, _, _, _⟩ rfl (fun K' hK => ?_)
      go_simp
      exact hK.out _ _ ⟨_, hF.pure hok hla hpre rfl (Below.refl _ _), rfl⟩
     rcases Nat.lt_or_ge i 8 with hi | hge
     ·rcases Nat.lt_or_ge i 6 with hi | hge
      ·obtain rfl := eqi hi hge
       have ro0 : A.tmps[0]? = some (.slice (some ⟨B, 0, none⟩) n cap) := hR.out 1 _ rfl
       refine step_of ⟨some 45, _, _, _, _, _⟩ rfl (fun K' hK => ?_)
       go_simp
       exact hK.out _ _ ⟨_, hF.pure hok hla hpre rfl (Below.refl _ _), rfl⟩
      rcases Nat.lt_or_ge i 7 with hi | hge
      ·obtain rfl := eqi hi hge
       have ro1 : A.tmps[1]? = some (.int .i64 (a : Int)) := hR.out 3 _ rfl
       refine step_of ⟨some 46, _, _, _, _, _⟩ rfl (fun K' hK => ?_)
       go_simp
       exact hK.out _ _ ⟨_, hF.pure hok hla hpre rfl (Below.refl _ _), rfl⟩
      obtain rfl := eqi hi hge
      have p5 := hpre 5 (by kernel_rfl)
      have e5 : s5 = .slice (some ⟨B, 0, none⟩) n cap := hF.get 5 _ rfl (.inr p5)
      subst e5
      have r5 : A.tmps[45]? = some (.slice (some ⟨B, 0, none⟩) n cap) := hR.own 5 _ _ rfl rfl
      have p6 := hpre 6 (by kernel_rfl)
      have e6 : s6 = .int .i64 (a : Int) := hF.get 6 _ rfl (.inr p6)
      subst e6
      have r6 : A.tmps[46]? = some (.int .i64 (a : Int)) := hR.own 6 _ _ rfl rfl
      refine step_of ⟨some 47, _, _, _, _, _⟩ rfl (fun K' hK => ?_)
      go_simp
      exact hK.out _ _ ⟨_, hF.pure hok hla hpre rfl (Below.refl _ _), rfl⟩
     rcases Nat.lt_or_ge i 9 with hi | hge
     ·obtain rfl := eqi hi hge
      have p7 := hpre 7 (by kernel_rfl)
      have e7 : s7 = .pointer (some ⟨B, a, none⟩) := hF.get 7 _ rfl (.inr p7)
      subst e7
      have r7 : A.tmps[47]? = some (.pointer (some ⟨B, a, none⟩)) := hR.own 7 _ _ rfl rfl
      have c0 := HI2.out.cell (below_none hF.low) hy_.out ey_.out
      refine step_of ⟨some 48, _, _, _, _, _⟩ rfl (fun K' hK => ?_)
      go_simp
      exact hK.out _ _ ⟨_, hF.pure hok hla hpre rfl (Below.refl _ _), rfl⟩
     rcases Nat.lt_or_ge i 10 with hi | hge
     ·obtain rfl := eqi hi hge
      have p0 := hpre 0 (by kernel_rfl)
      have e0 : s0 = .func (.func g) #[] cb := hF.get 0 _ rfl (.inr p0)
      subst e0
      have r0 : A.tmps[40]? = some (.func (.func g) #[] cb) := hR.own 0 _ _ rfl rfl
      have p4 := hpre 4 (by kernel_rfl)
      have e4 : s4 = .int .i64 (x : Int) := hF.get 4 _ rfl (.inr p4)
      subst e4
      have r4 : A.tmps[44]? = some (.int .i64 (x : Int)) := hR.own 4 _ _ rfl rfl
      have p8 := hpre 8 (by kernel_rfl)
      have e8 : s8 = .int .i64 (y : Int) := hF.get 8 _ rfl (.inr p8)
      subst e8
      have r8 : A.tmps[48]? = some (.int .i64 (y : Int)) := hR.own 8 _ _ rfl rfl
      refine step_of ⟨some 49, _, _, _, _, _⟩ rfl (fun K' hK => ?_)
      go_simp
      (with_reducible refine (HCMP.out.on _ (kept_trans HI2.out.low (kept_below (below_none hF.low))) x y bx_.out by_.out).mono ?_)
      rintro e Wq ⟨rfl, hq⟩
      exact hK.out _ _ ⟨_, hF.pure hok hla hpre rfl hq, rfl⟩
     obtain rfl := eqi hi hge
     have p9 := hpre 9 (by kernel_rfl)
     have e9 : s9 = .int .i64 (cf x y) := hF.get 9 _ rfl (.inr p9)
     subst e9
     have r9 : A.tmps[49]? = some (.int .i64 (cf x y)) := hR.own 9 _ _ rfl rfl
     refine step_of ⟨some 50, _, _, _, _, _⟩ rfl (fun K' hK => ?_)
     go_simp
     exact hK.out _ _ ⟨_, hF.pure hok hla hpre rfl (Below.refl _ _), rfl⟩
    case hd =>
     rintro listed vs V hF hall
     obtain ⟨s0, s1, s2, s3, s4, s5, s6, s7, s8, s9, s10, hvs⟩ := exl_of 11 vs (fun l => vs = l) hF.len rfl
     subst hvs
     have e10 : s10 = .bool true := hF.get 10 _ rfl (.inr (hall 10 (by decide)))
     subst e10
     have hq := below_none hF.low
     replace HI2 := Lib.hid (HI2.out.step hq)
     clear hq
     clear hF hall hok hla hna
     refine rest_end ?_
     simp only [putO, layL]
     have HXN := Lib.hid (show ∀ p, m ≤ p → p < h + 1 → Lt cf (d p) (d a) from fun p h1 h2 => sorted_le HO.out HR.out.right (fun k _ hk => HD.out k (by omega)) (by rw [ey_.out]; exact by_.out) h1 (show p ≤ h by omega) (by omega) (by rw [ex_.out, ey_.out]; exact less_yes hc))
     clear hc hcd
     go_wp2
     go_roundg (gk - 1)
     case measure => omega
     case rel => exact ⟨h + 1, j, by go_num, rfl, by omega, by omega, by omega, by omega, HI2.out, HXN.out, HY.out⟩
   ·skip
    have hcd : decide (cf x y < 0) = false := decide_eq_false hc
    go_wp2_with fail
    have hok : okB 11 (MLnKs5 g cb cf B n cap a b i h x y) = true := by kernel_rfl
    have hna := noAny_of (ks := (MLnKs5 g cb cf B n cap a b i h x y)) (by kernel_rfl)
    have hla := lasts_of hna
    refine wp_region_facts_abs (row := none) (w := wr) 11 0 11 [] (MLnKs5 g cb cf B n cap a b i h x y) [some 40, some 41, some 42, some 43, some 44, some 45, some 46, some 47, some 48, some 49, some 50] [(4, .func (.func g) #[] cb), (0, .slice (some ⟨B, 0, none⟩) n cap), (12, .int .i64 (h : Int)), (1, .int .i64 (a : Int))] 220 (by kernel_rfl) (by kernel_rfl) (by kernel_rfl) rfl rfl (by decide) rfl (by kernel_rfl) rfl (Nat.le_of_eq rfl) rfl ?ho [u40, u41, u42, u43, u44, u45, u46, u47, u48, u49, u50] ?h00 (Fs.start rfl rfl) ?hs ?hd
    case ho =>
     intro k x hk
     match k, hk with
     | 0, hk => have hk := Option.some.inj hk; subst hk; rfl
     | 1, hk => have hk := Option.some.inj hk; subst hk; rfl
     | 2, hk => have hk := Option.some.inj hk; subst hk; rfl
     | 3, hk => have hk := Option.some.inj hk; subst hk; rfl
     | _ + 4, hk => exact absurd hk (by simp)
    case h00 => simp only [putO, layL]
    case hs =>
     rintro A listed vs Wr hF hR i hi hun hpre
     obtain ⟨s0, s1, s2, s3, s4, s5, s6, s7, s8, s9, s10, hvs⟩ := exl_of 11 vs (fun l => vs = l) hF.len rfl
     subst hvs
     have hge := Nat.zero_le i
     rcases Nat.lt_or_ge i 5 with hi | hge
     ·rcases Nat.lt_or_ge i 2 with hi | hge
      ·rcases Nat.lt_or_ge i 1 with hi | hge
       ·obtain rfl := eqi hi hge
        have ro4 : A.tmps[4]? = some (.func (.func g) #[] cb) := hR.out 0 _ rfl
        refine step_of ⟨some 40, _, _, _, _, _⟩ rfl (fun K' hK => ?_)
        go_simp
        exact hK.out _ _ ⟨_, hF.pure hok hla hpre rfl (Below.refl _ _), rfl⟩
       obtain rfl := eqi hi hge
       have ro0 : A.tmps[0]? = some (.slice (some ⟨B, 0, none⟩) n cap) := hR.out 1 _ rfl
       refine step_of ⟨some 41, _, _, _, _, _⟩ rfl (fun K' hK => ?_)
       go_simp
       exact hK.out _ _ ⟨_, hF.pure hok hla hpre rfl (Below.refl _ _), rfl⟩
      rcases Nat.lt_or_ge i 3 with hi | hge
      ·obtain rfl := eqi hi hge
       have ro12 : A.tmps[12]? = some (.int .i64 (h : Int)) := hR.out 2 _ rfl
       refine step_of ⟨some 42, _, _, _, _, _⟩ rfl (fun K' hK => ?_)
       go_simp
       exact hK.out _ _ ⟨_, hF.pure hok hla hpre rfl (Below.refl _ _), rfl⟩
      rcases Nat.lt_or_ge i 4 with hi | hge
      ·obtain rfl := eqi hi hge
       have p1 := hpre 1 (by kernel_rfl)
       have e1 : s1 = .slice (some ⟨B, 0, none⟩) n cap := hF.get 1 _ rfl (.inr p1)
       subst e1
       have r1 : A.tmps[41]? = some (.slice (some ⟨B, 0, none⟩) n cap) := hR.own 1 _ _ rfl rfl
       have p2 := hpre 2 (by kernel_rfl)
       have e2 : s2 = .int .i64 (h : Int) := hF.get 2 _ rfl (.inr p2)
       subst e2
       have r2 : A.tmps[42]? = some (.int .i64 (h : Int)) := hR.own 2 _ _ rfl rfl
       refine step_of ⟨some 43, _, _, _, _, _⟩ rfl (fun K' hK => ?_)
       go_simp
       exact hK.out _ _ ⟨_, hF.pure hok hla hpre rfl (Below.refl _ _), rfl⟩
      obtain rfl := eqi hi hge
      have p3 := hpre 3 (by kernel_rfl)
      have e3 : s3 = .pointer (some ⟨B, h, none⟩) := hF.get 3 _ rfl (.inr p3)
      subst e3
      have r3 : A.tmps[43]? = some (.pointer (some ⟨B, h, none⟩)) := hR.own 3 _ _ rfl rfl
      have c0 := HI2.out.cell (below_none hF.low) hx_.out ex_.out
      refine step_of ⟨some 44, _, _, _, _, _⟩ rfl (fun K' hK => ?_)
      go_simp
      exact hK.out _ _ ⟨_, hF.pure hok hla hpre rfl (Below.refl _ _), rfl⟩
     rcases Nat.lt_or_ge i 8 with hi | hge
     ·rcases Nat.lt_or_ge i 6 with hi | hge
      ·obtain rfl := eqi hi hge
       have ro0 : A.tmps[0]? = some (.slice (some ⟨B, 0, none⟩) n cap) := hR.out 1 _ rfl
       refine step_of ⟨some 45, _, _, _, _, _⟩ rfl (fun K' hK => ?_)
       go_simp
       exact hK.out _ _ ⟨_, hF.pure hok hla hpre rfl (Below.refl _ _), rfl⟩
      rcases Nat.lt_or_ge i 7 with hi | hge
      ·obtain rfl := eqi hi hge
       have ro1 : A.tmps[1]? = some (.int .i64 (a : Int)) := hR.out 3 _ rfl
       refine step_of ⟨some 46, _, _, _, _, _⟩ rfl (fun K' hK => ?_)
       go_simp
       exact hK.out _ _ ⟨_, hF.pure hok hla hpre rfl (Below.refl _ _), rfl⟩
      obtain rfl := eqi hi hge
      have p5 := hpre 5 (by kernel_rfl)
      have e5 : s5 = .slice (some ⟨B, 0, none⟩) n cap := hF.get 5 _ rfl (.inr p5)
      subst e5
      have r5 : A.tmps[45]? = some (.slice (some ⟨B, 0, none⟩) n cap) := hR.own 5 _ _ rfl rfl
      have p6 := hpre 6 (by kernel_rfl)
      have e6 : s6 = .int .i64 (a : Int) := hF.get 6 _ rfl (.inr p6)
      subst e6
      have r6 : A.tmps[46]? = some (.int .i64 (a : Int)) := hR.own 6 _ _ rfl rfl
      refine step_of ⟨some 47, _, _, _, _, _⟩ rfl (fun K' hK => ?_)
      go_simp
      exact hK.out _ _ ⟨_, hF.pure hok hla hpre rfl (Below.refl _ _), rfl⟩
     rcases Nat.lt_or_ge i 9 with hi | hge
     ·obtain rfl := eqi hi hge
      have p7 := hpre 7 (by kernel_rfl)
      have e7 : s7 = .pointer (some ⟨B, a, none⟩) := hF.get 7 _ rfl (.inr p7)
      subst e7
      have r7 : A.tmps[47]? = some (.pointer (some ⟨B, a, none⟩)) := hR.own 7 _ _ rfl rfl
      have c0 := HI2.out.cell (below_none hF.low) hy_.out ey_.out
      refine step_of ⟨some 48, _, _, _, _, _⟩ rfl (fun K' hK => ?_)
      go_simp
      exact hK.out _ _ ⟨_, hF.pure hok hla hpre rfl (Below.refl _ _), rfl⟩
     rcases Nat.lt_or_ge i 10 with hi | hge
     ·obtain rfl := eqi hi hge
      have p0 := hpre 0 (by kernel_rfl)
      have e0 : s0 = .func (.func g) #[] cb := hF.get 0 _ rfl (.inr p0)
      subst e0
      have r0 : A.tmps[40]? = some (.func (.func g) #[] cb) := hR.own 0 _ _ rfl rfl
      have p4 := hpre 4 (by kernel_rfl)
      have e4 : s4 = .int .i64 (x : Int) := hF.get 4 _ rfl (.inr p4)
      subst e4
      have r4 : A.tmps[44]? = some (.int .i64 (x : Int)) := hR.own 4 _ _ rfl rfl
      have p8 := hpre 8 (by kernel_rfl)
      have e8 : s8 = .int .i64 (y : Int) := hF.get 8 _ rfl (.inr p8)
      subst e8
      have r8 : A.tmps[48]? = some (.int .i64 (y : Int)) := hR.own 8 _ _ rfl rfl
      refine step_of ⟨some 49, _, _, _, _, _⟩ rfl (fun K' hK => ?_)
      go_simp
      (with_reducible refine (HCMP.out.on _ (kept_trans HI2.out.low (kept_below (below_none hF.low))) x y bx_.out by_.out).mono ?_)
      rintro e Wq ⟨rfl, hq⟩
      exact hK.out _ _ ⟨_, hF.pure hok hla hpre rfl hq, rfl⟩
     obtain rfl := eqi hi hge
     have p9 := hpre 9 (by kernel_rfl)
     have e9 : s9 = .int .i64 (cf x y) := hF.get 9 _ rfl (.inr p9)
     subst e9
     have r9 : A.tmps[49]? = some (.int .i64 (cf x y)) := hR.own 9 _ _ rfl rfl
     refine step_of ⟨some 50, _, _, _, _, _⟩ rfl (fun K' hK => ?_)
     go_simp
     exact hK.out _ _ ⟨_, hF.pure hok hla hpre rfl (Below.refl _ _), rfl⟩
    case hd =>
     rintro listed vs V hF hall
     obtain ⟨s0, s1, s2, s3, s4, s5, s6, s7, s8, s9, s10, hvs⟩ := exl_of 11 vs (fun l => vs = l) hF.len rfl
     subst hvs
     have e10 : s10 = .bool false := hF.get 10 _ rfl (.inr (hall 10 (by decide)))
     subst e10
     have hq := below_none hF.low
     replace HI2 := Lib.hid (HI2.out.step hq)
     clear hq
     clear hF hall hok hla hna
     refine rest_end ?_
     simp only [putO, layL]
     have HYN := Lib.hid (show ∀ p, h ≤ p → p < b → Lt cf (d a) (d p) from fun p h1 h2 => sorted_ge HO.out HR.out.right (fun k _ hk => HD.out k (by omega)) (by rw [ey_.out]; exact by_.out) (show m ≤ h by omega) h1 h2 (by rw [ex_.out, ey_.out]; exact less_no HO.out bx_.out by_.out hyx.out (by omega)))
     clear hc hcd
     go_wp2
     go_roundg (gk - 1)
     case measure => omega
     case rel => exact ⟨i, h, rfl, rfl, by omega, by omega, by omega, by omega, HI2.out, HX.out, HYN.out⟩
  ·have hd1 : decide ((i : Int) < (j : Int)) = false := decide_eq_false (by omega)
   obtain rfl : i = j := by omega
   go_wp2_with fail
   go_loopg [13] (i - a) (fun gh v13 wx => ∃ q : Nat, v13 = .int .i64 (q : Int) ∧ a ≤ q ∧ q + 1 ≤ i ∧ q + gh = i ∧ SI w B n (mvr d a q) wx)
   case atStart => exact ⟨a, rfl, Nat.le_refl _, by omega, by omega, by rw [mvr_self]; exact HI2.out⟩
   case round =>
    obtain ⟨q, rfl, haq, hqi, hgq, hI⟩ := hrel
    have HI3 := Lib.hid hI
    clear hI HI2
    by_cases hq : q + 1 < i
    ·have hd2 : decide ((q : Int) < (i : Int) - 1) = true := decide_eq_true (by omega)
     obtain ⟨ca, fa⟩ := HI3.out.row q (by omega)
     obtain ⟨cbb, fb⟩ := HI3.out.row (q + 1) (by omega)
     have HS := Lib.hid (HI3.out.swp (i := q) (j := q + 1) (by omega) (by omega) (by omega))
     have HST := Lib.hid (mvr_step d a q haq)
     rw [HST.out] at HS
     obtain ⟨x, hx⟩ : ∃ x, mvr d a q q = x := ⟨_, rfl⟩
     obtain ⟨y, hy⟩ : ∃ x, mvr d a q (q + 1) = x := ⟨_, rfl⟩
     rw [hx] at ca HS
     rw [hy] at cbb HS
     clear hx hy
     go_wp2_with fail
     go_region
     replace HS := Lib.hid (HS.out.drew 1)
     obtain ⟨V, hV⟩ : ∃ Z, ((wr.setCell ⟨B, q, none⟩ (.int .i64 (y : Int))).setCell ⟨B, q + 1, none⟩ (.int .i64 (x : Int))).drew = Z := ⟨_, rfl⟩
     rw [hV]
     replace HS := Lib.hid (show SI w B n (mvr d a (q + 1)) V from by rw [← hV]; exact HS.out)
     clear hV ca cbb fa fb
     go_wp2
     go_roundg (gk - 1)
     case measure => omega
     case rel => exact ⟨q + 1, by go_num, by omega, by omega, by omega, HS.out⟩
    ·have hd2 : decide ((q : Int) < (i : Int) - 1) = false := decide_eq_false (by omega)
     go_wp2
     try simp only [Exit.inBlock, Exit.then]
     refine bodyPost_ret (results_none rfl _ _ _) rfl ?_
     obtain ⟨k, hk⟩ : ∃ k, q = a + k := ⟨q - a, by omega⟩
     have hM := Mv.mvr d n a k (by omega)
     rw [← hk] at hM
     have hS := mvr_sorted (cf := cf) (d := d) (a := a) (i := i) (b := b) (by omega) (by omega) (by rw [show a + 1 = m by omega]; exact HR.out.right) (fun p h1 h2 => HX.out p (by omega) h2) (fun p h1 h2 => HY.out p h1 h2)
     rw [show i - 1 = q by omega] at hS
     exact ⟨rfl, _, HI3.out, hM.wide (Nat.le_refl _) (by omega), hS⟩
end Go.Proofs.YtkghpiaoggljjaaGreatDoor.Num.Mt
