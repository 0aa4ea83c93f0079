/- Numbers as texts of digits, fractions, values and the functions of fmath: contracts of the program's functions, joined from smaller texts. Conditions stand at each theorem. -/
import Derived.Test.YtgponoogifeopaaGreatDoorFtsA
import Derived.Test.YtgponoogifeopaaGreatDoorFtqA
import Derived.Test.YtgponoogifeopaaGreatDoorFtbA
import Derived.Deep.RegionLaw
import Derived.Test.YtgponoogifeopaaGreatDoorFtrA

/- package fstat: frequency (FREQUENCY) at an array and a number. Conditions: one to 1000 fractions that all fit; the tables lie as they are laid. -/
namespace Go.Proofs.YtgponoogifeopaaGreatDoor.Num.Ft
open Go.RowKit Go.Lib Num

/-- what stays in the search -/
structure SrI (w : World) (B g : Nat) (a x : Rat) (W : World) : Prop where
  box : W.heap[B]? = some (.cells #[.string (numS x), .string (denS x)] 24 (0, 0))
  one : FracsAt W g [a]
  env : EnvY W
  low : Below w.heap.size w W
theorem SrI.step {w W W' : World} {B g : Nat} {a x : Rat} (h : SrI w B g a x W) (hb : Below W.heap.size W W') : SrI w B g a x W' :=
  ⟨keep_block h.box hb, h.one.below hb, h.env.below hb, h.low.trans (hb.mono h.low.size)⟩
attribute [local irreducible] wpOp
set_option linter.unusedVariables false in
/-- what the operations of region 8 yield -/
def sr0Ks8 (a x : Rat) (g C B : Nat) : List RK :=
  [.pure (.int .i64 0),
   .pure (.int .i64 0),
   .pure (.int .i64 1),
   .pure (.bool true),
   .pure (.bool true),
   .pure (.func (.func 184) #[] #[]),
   .pure (.slice (some ⟨g, 0, none⟩) 1 C),
   .pure (.int .i64 0),
   .pure (.pointer (some ⟨g, 0, none⟩)),
   .pure (.agg #[.string (numS a), .string (denS a)]),
   .pure (.agg #[.string (numS x), .string (denS x)]),
   .pure (.int .i64 0),
   .pure (.bool true),
   .pure (.bool true),
   .pure (.int .i64 0),
   .pure (.bool true)]
set_option linter.unusedVariables false in
/-- what the operations of region 8 yield -/
def sr1Ks8 (a x : Rat) (g C B : Nat) : List RK :=
  [.pure (.int .i64 0),
   .pure (.int .i64 0),
   .pure (.int .i64 1),
   .pure (.bool true),
   .pure (.bool true),
   .pure (.func (.func 184) #[] #[]),
   .pure (.slice (some ⟨g, 0, none⟩) 1 C),
   .pure (.int .i64 0),
   .pure (.pointer (some ⟨g, 0, none⟩)),
   .pure (.agg #[.string (numS a), .string (denS a)]),
   .pure (.agg #[.string (numS x), .string (denS x)]),
   .pure (.int .i64 1),
   .pure (.bool false),
   .pure (.bool false),
   .pure (.int .i64 0),
   .pure (.bool false)]
set_option linter.unusedSimpArgs false in
set_option linter.unusedVariables false in
set_option maxHeartbeats 4000000 in
set_option maxRecDepth 100000 in
/-- a search in a row of one fraction -/
theorem search_one (a x : Rat) (g C : Nat) (w : World) (ha : fits a = true) (hx : fits x = true) (hf : FracsAt w g [a]) (hE : EnvY w) :
    Calls Tryz.prog 200 #[.slice (some ⟨g, 0, none⟩) 1 C, .agg #[.string (numS x), .string (denS x)], .func (.func 184) #[] #[]] w fun e w' => e = .returned (.tuple #[.int .i64 (if cmpR a x = -1 then 1 else 0), .bool (decide (cmpR a x = 0))]) ∧ Below w.heap.size w w' := by
  have hb : Below w.heap.size w (w.alloc (.cells #[.string (numS x), .string (denS x)] 24)) := (Below.refl _ _).alloc (Nat.le_refl _) _
  have HS := Lib.hid (show SrI w w.heap.size g a x _ from ⟨heap_alloc_new w (.cells #[.string (numS x), .string (denS x)] 24), hf.below hb, hE.below hb, hb⟩)
  have TC := Lib.hid (c_compare ha hx)
  rw [fracV_is a, fracV_is x] at TC
  obtain ⟨W0, hW0⟩ : ∃ Z, w.alloc (.cells #[.string (numS x), .string (denS x)] 24) = Z := ⟨_, rfl⟩
  rw [hW0] at HS
  have EW := Lib.hid hW0
  obtain ⟨B, hB⟩ : ∃ B, w.heap.size = B := ⟨_, rfl⟩
  have HS := Lib.hid (show SrI w B g a x W0 by rw [← hB]; exact HS.out)
  have EB := Lib.hid hB
  have hcr : cmpR a x = -1 ∨ cmpR a x = 0 ∨ cmpR a x = 1 := by
    unfold cmpR
    split
    · exact .inr (.inl rfl)
    · split
      · exact .inl rfl
      · exact .inr (.inr rfl)
  obtain ⟨c, hc⟩ : ∃ c, cmpR a x = c := ⟨_, rfl⟩
  rw [hc] at TC hcr ⊢
  unfold Fun2 at TC
  have HCR := Lib.hid hcr
  clear hb hf hE hW0 hB hc ha hx hcr
  go_enter Tryz.func200, Tryz.ntmps200
  go_upto_region 1 with fail
  rw [EW.out, EB.out]
  go_wp2_with fail
  go_loopg [9, 10] 1 (fun gh v9 v10 wx => (gh = 1 ∧ v9 = .int .i64 0 ∧ v10 = .int .i64 1 ∨ gh = 0 ∧ v9 = .int .i64 (if c = -1 then 1 else 0) ∧ v10 = .int .i64 (if c = -1 then 1 else 0)) ∧ SrI w B g a x wx)
  case atStart => exact ⟨.inl ⟨rfl, rfl, rfl⟩, HS.out⟩
  case round =>
    clear HS
    obtain ⟨hst, hS⟩ := hrel
    have HS := Lib.hid hS
    clear hS
    rcases hst with ⟨rfl, rfl, rfl⟩ | ⟨rfl, rfl, rfl⟩
    · have hsh : IntKind.i64.wrap (0 + 1) = 1 := rfl
      go_upto_region 5 with fail
      replace HS := Lib.hid (HS.out.step ((Below.refl wr.heap.size wr).drew))
      obtain ⟨f0, f1⟩ := HS.out.one 0 (show 0 < 1 by decide)
      simp only [List.getElem_cons_zero, Nat.zero_mul, Nat.zero_add] at f0 f1
      obtain ⟨⟨x0, x1⟩, _⟩ := two_at HS.out.box
      have hj0 : (0 : Int) ≤ 0 := Int.le_refl _
      have hj1 : (0 : Int) < 1 := by decide
      go_region_law (go_simp; go_at_call 184; (with_reducible refine (TC.out _ HS.out.env).mono ?_); rintro e W2 ⟨rfl, hb⟩; have HS2 := Lib.hid (HS.out.step hb); clear hb)
      all_goals
        rcases HCR.out with hc | hc | hc
        · subst hc
          go_wp2
          go_roundg 0
          case measure => omega
          case rel => exact ⟨.inr ⟨rfl, rfl, rfl⟩, HS2.out⟩
        · subst hc
          go_wp2
          go_roundg 0
          case measure => omega
          case rel => exact ⟨.inr ⟨rfl, rfl, rfl⟩, HS2.out⟩
        · subst hc
          go_wp2
          go_roundg 0
          case measure => omega
          case rel => exact ⟨.inr ⟨rfl, rfl, rfl⟩, HS2.out⟩
    · rcases HCR.out with hc | hc | hc
      · subst hc
        rw [if_pos rfl]
        go_upto_region 8 with fail
        go_quiet (fail)
        have HS2 := Lib.hid (HS.out.step (below_drewN (Below.refl wr.heap.size wr) nq))
        go_wp2
        go_ret2
        exact ⟨rfl, HS2.out.low⟩
      · subst hc
        rw [if_neg (by decide)]
        have HB := Lib.hid HS.out.box
        go_upto_region 8 with fail
        go_wp2_with fail
        have hok : okB 16 (sr0Ks8 a x g C B) = true := by kernel_rfl
        have hna := noAny_of (ks := (sr0Ks8 a x g C B)) (by kernel_rfl)
        have hla := lasts_of hna
        refine wp_region_facts (row := none) (w := wr) 16 (sr0Ks8 a x g C B) [some 35, some 36, some 37, some 38, some 39, some 40, some 41, some 42, some 43, some 44, some 45, some 46, some 47, some 48, some 6, some 7] (by kernel_rfl) (by kernel_rfl) rfl [undef, undef, undef, undef, undef, undef, undef, undef, undef, undef, undef, undef, undef, undef, (.int .i64 0), (.bool false)] ?h00 (Fs.start rfl rfl) ?hs ?hd
        case h00 => simp only [putO, layL]
        case hs =>
          rintro listed vs Wr hF i hi hun hpre
          obtain ⟨s0, s1, s2, s3, s4, s5, s6, s7, s8, s9, s10, s11, s12, s13, s14, s15, hvs⟩ := exl_of 16 vs (fun l => vs = l) hF.len rfl
          subst hvs
          have hge := Nat.zero_le i
          simp only [putO, layL]
          rcases Nat.lt_or_ge i 8 with hlt | hgt
          · replace hi := hlt
            clear hlt
            rcases Nat.lt_or_ge i 4 with hlt | hgt
            · replace hi := hlt
              clear hlt
              rcases Nat.lt_or_ge i 2 with hlt | hgt
              · replace hi := hlt
                clear hlt
                rcases Nat.lt_or_ge i 1 with hlt | hgt
                · replace hi := hlt
                  clear hlt
                  obtain rfl := eqi hi hge
                  refine step_of ⟨some 35, _, _, _, _, _⟩ rfl (fun K' hK => ?_)
                  go_simp
                  refine hK.out _ _ ⟨_, hF.pure hok hla hpre rfl (Below.refl _ _), ?fr⟩
                  case fr => simp only [putO, layL]
                · replace hge : 1 ≤ i := hgt
                  clear hgt
                  obtain rfl := eqi hi hge
                  refine step_of ⟨some 36, _, _, _, _, _⟩ rfl (fun K' hK => ?_)
                  go_simp
                  refine hK.out _ _ ⟨_, hF.pure hok hla hpre rfl (Below.refl _ _), ?fr⟩
                  case fr => simp only [putO, layL]
              · replace hge : 2 ≤ i := hgt
                clear hgt
                rcases Nat.lt_or_ge i 3 with hlt | hgt
                · replace hi := hlt
                  clear hlt
                  obtain rfl := eqi hi hge
                  refine step_of ⟨some 37, _, _, _, _, _⟩ rfl (fun K' hK => ?_)
                  go_simp
                  refine hK.out _ _ ⟨_, hF.pure hok hla hpre rfl (Below.refl _ _), ?fr⟩
                  case fr => simp only [putO, layL]
                · replace hge : 3 ≤ i := hgt
                  clear hgt
                  obtain rfl := eqi hi hge
                  have p1 := hpre 1 (by kernel_rfl)
                  have e1 : s1 = .int .i64 0 := hF.get 1 _ rfl (.inr p1)
                  subst e1
                  have p2 := hpre 2 (by kernel_rfl)
                  have e2 : s2 = .int .i64 1 := hF.get 2 _ rfl (.inr p2)
                  subst e2
                  refine step_of ⟨some 38, _, _, _, _, _⟩ rfl (fun K' hK => ?_)
                  go_simp
                  refine hK.out _ _ ⟨_, hF.pure hok hla hpre rfl (Below.refl _ _), ?fr⟩
                  case fr => simp only [putO, layL]
            · replace hge : 4 ≤ i := hgt
              clear hgt
              rcases Nat.lt_or_ge i 6 with hlt | hgt
              · replace hi := hlt
                clear hlt
                rcases Nat.lt_or_ge i 5 with hlt | hgt
                · replace hi := hlt
                  clear hlt
                  obtain rfl := eqi hi hge
                  have p3 := hpre 3 (by kernel_rfl)
                  have e3 : s3 = .bool true := hF.get 3 _ rfl (.inr p3)
                  subst e3
                  refine step_of ⟨some 39, _, _, _, _, _⟩ rfl (fun K' hK => ?_)
                  go_simp
                  refine hK.out _ _ ⟨_, hF.pure hok hla hpre rfl (Below.refl _ _), ?fr⟩
                  case fr => simp only [putO, layL]
                · replace hge : 5 ≤ i := hgt
                  clear hgt
                  obtain rfl := eqi hi hge
                  have p4 := hpre 4 (by kernel_rfl)
                  have e4 : s4 = .bool true := hF.get 4 _ rfl (.inr p4)
                  subst e4
                  refine step_of ⟨some 40, _, _, _, _, _⟩ rfl (fun K' hK => ?_)
                  rw [if_pos (by rfl)]
                  go_simp
                  refine hK.out _ _ ⟨_, hF.pure hok hla hpre rfl (Below.refl _ _), ?fr⟩
                  case fr => simp only [putO, layL]
              · replace hge : 6 ≤ i := hgt
                clear hgt
                rcases Nat.lt_or_ge i 7 with hlt | hgt
                · replace hi := hlt
                  clear hlt
                  obtain rfl := eqi hi hge
                  have p4 := hpre 4 (by kernel_rfl)
                  have e4 : s4 = .bool true := hF.get 4 _ rfl (.inr p4)
                  subst e4
                  refine step_of ⟨some 41, _, _, _, _, _⟩ rfl (fun K' hK => ?_)
                  rw [if_pos (by rfl)]
                  go_simp
                  refine hK.out _ _ ⟨_, hF.pure hok hla hpre rfl (Below.refl _ _), ?fr⟩
                  case fr => simp only [putO, layL]
                · replace hge : 7 ≤ i := hgt
                  clear hgt
                  obtain rfl := eqi hi hge
                  have p4 := hpre 4 (by kernel_rfl)
                  have e4 : s4 = .bool true := hF.get 4 _ rfl (.inr p4)
                  subst e4
                  refine step_of ⟨some 42, _, _, _, _, _⟩ rfl (fun K' hK => ?_)
                  rw [if_pos (by rfl)]
                  go_simp
                  refine hK.out _ _ ⟨_, hF.pure hok hla hpre rfl (Below.refl _ _), ?fr⟩
                  case fr => simp only [putO, layL]
          · replace hge : 8 ≤ i := hgt
            clear hgt
            rcases Nat.lt_or_ge i 12 with hlt | hgt
            · replace hi := hlt
              clear hlt
              rcases Nat.lt_or_ge i 10 with hlt | hgt
              · replace hi := hlt
                clear hlt
                rcases Nat.lt_or_ge i 9 with hlt | hgt
                · replace hi := hlt
                  clear hlt
                  obtain rfl := eqi hi hge
                  have p6 := hpre 6 (by kernel_rfl)
                  have e6 : s6 = .slice (some ⟨g, 0, none⟩) 1 C := hF.get 6 _ rfl (.inr p6)
                  subst e6
                  have p7 := hpre 7 (by kernel_rfl)
                  have e7 : s7 = .int .i64 0 := hF.get 7 _ rfl (.inr p7)
                  subst e7
                  have p4 := hpre 4 (by kernel_rfl)
                  have e4 : s4 = .bool true := hF.get 4 _ rfl (.inr p4)
                  subst e4
                  have hj0 : (0 : Int) ≤ 0 := Int.le_refl _
                  have hj1 : (0 : Int) < 1 := by decide
                  refine step_of ⟨some 43, _, _, _, _, _⟩ rfl (fun K' hK => ?_)
                  rw [if_pos (by rfl)]
                  go_simp
                  refine hK.out _ _ ⟨_, hF.pure hok hla hpre rfl (Below.refl _ _), ?fr⟩
                  case fr => simp only [putO, layL]
                · replace hge : 9 ≤ i := hgt
                  clear hgt
                  obtain rfl := eqi hi hge
                  have p8 := hpre 8 (by kernel_rfl)
                  have e8 : s8 = .pointer (some ⟨g, 0, none⟩) := hF.get 8 _ rfl (.inr p8)
                  subst e8
                  have p4 := hpre 4 (by kernel_rfl)
                  have e4 : s4 = .bool true := hF.get 4 _ rfl (.inr p4)
                  subst e4
                  obtain ⟨f0, f1⟩ := (HS.out.step (below_none hF.low)).one 0 (show 0 < 1 by decide)
                  simp only [List.getElem_cons_zero, Nat.zero_mul, Nat.zero_add] at f0 f1
                  refine step_of ⟨some 44, _, _, _, _, _⟩ rfl (fun K' hK => ?_)
                  rw [if_pos (by rfl)]
                  go_simp
                  refine hK.out _ _ ⟨_, hF.pure hok hla hpre rfl (Below.refl _ _), ?fr⟩
                  case fr => simp only [putO, layL]
              · replace hge : 10 ≤ i := hgt
                clear hgt
                rcases Nat.lt_or_ge i 11 with hlt | hgt
                · replace hi := hlt
                  clear hlt
                  obtain rfl := eqi hi hge
                  have p4 := hpre 4 (by kernel_rfl)
                  have e4 : s4 = .bool true := hF.get 4 _ rfl (.inr p4)
                  subst e4
                  have hcc := (two_at (keep_block HB.out (below_none hF.low))).1
                  have cHB0 := hcc.1
                  have cHB1 := hcc.2
                  clear hcc
                  refine step_of ⟨some 45, _, _, _, _, _⟩ rfl (fun K' hK => ?_)
                  rw [if_pos (by rfl)]
                  go_simp
                  refine hK.out _ _ ⟨_, hF.pure hok hla hpre rfl (Below.refl _ _), ?fr⟩
                  case fr => simp only [putO, layL]
                · replace hge : 11 ≤ i := hgt
                  clear hgt
                  obtain rfl := eqi hi hge
                  have p5 := hpre 5 (by kernel_rfl)
                  have e5 : s5 = .func (.func 184) #[] #[] := hF.get 5 _ rfl (.inr p5)
                  subst e5
                  have p9 := hpre 9 (by kernel_rfl)
                  have e9 : s9 = .agg #[.string (numS a), .string (denS a)] := hF.get 9 _ rfl (.inr p9)
                  subst e9
                  have p10 := hpre 10 (by kernel_rfl)
                  have e10 : s10 = .agg #[.string (numS x), .string (denS x)] := hF.get 10 _ rfl (.inr p10)
                  subst e10
                  have p4 := hpre 4 (by kernel_rfl)
                  have e4 : s4 = .bool true := hF.get 4 _ rfl (.inr p4)
                  subst e4
                  refine step_of ⟨some 46, _, _, _, _, _⟩ rfl (fun K' hK => ?_)
                  rw [if_pos (by rfl)]
                  go_simp
                  go_at_call 184
                  (with_reducible refine (TC.out _ (HS.out.step (below_none hF.low)).env).mono ?_)
                  rintro e Wq ⟨rfl, hq⟩
                  refine hK.out _ _ ⟨_, hF.pure hok hla hpre rfl hq, ?fr⟩
                  case fr => simp only [putO, layL]
            · replace hge : 12 ≤ i := hgt
              clear hgt
              rcases Nat.lt_or_ge i 14 with hlt | hgt
              · replace hi := hlt
                clear hlt
                rcases Nat.lt_or_ge i 13 with hlt | hgt
                · replace hi := hlt
                  clear hlt
                  obtain rfl := eqi hi hge
                  have p11 := hpre 11 (by kernel_rfl)
                  have e11 : s11 = .int .i64 0 := hF.get 11 _ rfl (.inr p11)
                  subst e11
                  have p4 := hpre 4 (by kernel_rfl)
                  have e4 : s4 = .bool true := hF.get 4 _ rfl (.inr p4)
                  subst e4
                  refine step_of ⟨some 47, _, _, _, _, _⟩ rfl (fun K' hK => ?_)
                  rw [if_pos (by rfl)]
                  go_simp
                  refine hK.out _ _ ⟨_, hF.pure hok hla hpre rfl (Below.refl _ _), ?fr⟩
                  case fr => simp only [putO, layL]
                · replace hge : 13 ≤ i := hgt
                  clear hgt
                  obtain rfl := eqi hi hge
                  have p4 := hpre 4 (by kernel_rfl)
                  have e4 : s4 = .bool true := hF.get 4 _ rfl (.inr p4)
                  subst e4
                  have p12 := hpre 12 (by kernel_rfl)
                  have e12 : s12 = .bool true := hF.get 12 _ rfl (.inr p12)
                  subst e12
                  refine step_of ⟨some 48, _, _, _, _, _⟩ rfl (fun K' hK => ?_)
                  go_simp
                  refine hK.out _ _ ⟨_, hF.pure hok hla hpre rfl (Below.refl _ _), ?fr⟩
                  case fr => simp only [putO, layL]
              · replace hge : 14 ≤ i := hgt
                clear hgt
                rcases Nat.lt_or_ge i 15 with hlt | hgt
                · replace hi := hlt
                  clear hlt
                  obtain rfl := eqi hi hge
                  have p0 := hpre 0 (by kernel_rfl)
                  have e0 : s0 = .int .i64 0 := hF.get 0 _ rfl (.inr p0)
                  subst e0
                  refine step_of ⟨some 6, _, _, _, _, _⟩ rfl (fun K' hK => ?_)
                  go_simp
                  refine hK.out _ _ ⟨_, hF.pure hok hla hpre rfl (Below.refl _ _), ?fr⟩
                  case fr => simp only [putO, layL]
                · replace hge : 15 ≤ i := hgt
                  clear hgt
                  obtain rfl := eqi hi hge
                  have p13 := hpre 13 (by kernel_rfl)
                  have e13 : s13 = .bool true := hF.get 13 _ rfl (.inr p13)
                  subst e13
                  refine step_of ⟨some 7, _, _, _, _, _⟩ rfl (fun K' hK => ?_)
                  go_simp
                  refine hK.out _ _ ⟨_, hF.pure hok hla hpre rfl (Below.refl _ _), ?fr⟩
                  case fr => simp only [putO, layL]
        case hd =>
          rintro listed vs WA hF hall
          obtain ⟨s0, s1, s2, s3, s4, s5, s6, s7, s8, s9, s10, s11, s12, s13, s14, s15, hvs⟩ := exl_of 16 vs (fun l => vs = l) hF.len rfl
          subst hvs
          have e14 : s14 = .int .i64 0 := hF.get 14 _ rfl (.inr (hall 14 (by decide)))
          subst e14
          have e15 : s15 = .bool true := hF.get 15 _ rfl (.inr (hall 15 (by decide)))
          subst e15
          have hq := below_none hF.low
          replace HS := Lib.hid (HS.out.step hq)
          replace HB := Lib.hid HS.out.box
          clear hq
          clear hF hall hok hna hla
          simp only [putO, layL]
          go_wp2
          go_ret2
          exact ⟨rfl, HS.out.low⟩
      · subst hc
        rw [if_neg (by decide)]
        have HB := Lib.hid HS.out.box
        go_upto_region 8 with fail
        go_wp2_with fail
        have hok : okB 16 (sr1Ks8 a x g C B) = true := by kernel_rfl
        have hna := noAny_of (ks := (sr1Ks8 a x g C B)) (by kernel_rfl)
        have hla := lasts_of hna
        refine wp_region_facts (row := none) (w := wr) 16 (sr1Ks8 a x g C B) [some 35, some 36, some 37, some 38, some 39, some 40, some 41, some 42, some 43, some 44, some 45, some 46, some 47, some 48, some 6, some 7] (by kernel_rfl) (by kernel_rfl) rfl [undef, undef, undef, undef, undef, undef, undef, undef, undef, undef, undef, undef, undef, undef, (.int .i64 0), (.bool false)] ?h00 (Fs.start rfl rfl) ?hs ?hd
        case h00 => simp only [putO, layL]
        case hs =>
          rintro listed vs Wr hF i hi hun hpre
          obtain ⟨s0, s1, s2, s3, s4, s5, s6, s7, s8, s9, s10, s11, s12, s13, s14, s15, hvs⟩ := exl_of 16 vs (fun l => vs = l) hF.len rfl
          subst hvs
          have hge := Nat.zero_le i
          simp only [putO, layL]
          rcases Nat.lt_or_ge i 8 with hlt | hgt
          · replace hi := hlt
            clear hlt
            rcases Nat.lt_or_ge i 4 with hlt | hgt
            · replace hi := hlt
              clear hlt
              rcases Nat.lt_or_ge i 2 with hlt | hgt
              · replace hi := hlt
                clear hlt
                rcases Nat.lt_or_ge i 1 with hlt | hgt
                · replace hi := hlt
                  clear hlt
                  obtain rfl := eqi hi hge
                  refine step_of ⟨some 35, _, _, _, _, _⟩ rfl (fun K' hK => ?_)
                  go_simp
                  refine hK.out _ _ ⟨_, hF.pure hok hla hpre rfl (Below.refl _ _), ?fr⟩
                  case fr => simp only [putO, layL]
                · replace hge : 1 ≤ i := hgt
                  clear hgt
                  obtain rfl := eqi hi hge
                  refine step_of ⟨some 36, _, _, _, _, _⟩ rfl (fun K' hK => ?_)
                  go_simp
                  refine hK.out _ _ ⟨_, hF.pure hok hla hpre rfl (Below.refl _ _), ?fr⟩
                  case fr => simp only [putO, layL]
              · replace hge : 2 ≤ i := hgt
                clear hgt
                rcases Nat.lt_or_ge i 3 with hlt | hgt
                · replace hi := hlt
                  clear hlt
                  obtain rfl := eqi hi hge
                  refine step_of ⟨some 37, _, _, _, _, _⟩ rfl (fun K' hK => ?_)
                  go_simp
                  refine hK.out _ _ ⟨_, hF.pure hok hla hpre rfl (Below.refl _ _), ?fr⟩
                  case fr => simp only [putO, layL]
                · replace hge : 3 ≤ i := hgt
                  clear hgt
                  obtain rfl := eqi hi hge
                  have p1 := hpre 1 (by kernel_rfl)
                  have e1 : s1 = .int .i64 0 := hF.get 1 _ rfl (.inr p1)
                  subst e1
                  have p2 := hpre 2 (by kernel_rfl)
                  have e2 : s2 = .int .i64 1 := hF.get 2 _ rfl (.inr p2)
                  subst e2
                  refine step_of ⟨some 38, _, _, _, _, _⟩ rfl (fun K' hK => ?_)
                  go_simp
                  refine hK.out _ _ ⟨_, hF.pure hok hla hpre rfl (Below.refl _ _), ?fr⟩
                  case fr => simp only [putO, layL]
            · replace hge : 4 ≤ i := hgt
              clear hgt
              rcases Nat.lt_or_ge i 6 with hlt | hgt
              · replace hi := hlt
                clear hlt
                rcases Nat.lt_or_ge i 5 with hlt | hgt
                · replace hi := hlt
                  clear hlt
                  obtain rfl := eqi hi hge
                  have p3 := hpre 3 (by kernel_rfl)
                  have e3 : s3 = .bool true := hF.get 3 _ rfl (.inr p3)
                  subst e3
                  refine step_of ⟨some 39, _, _, _, _, _⟩ rfl (fun K' hK => ?_)
                  go_simp
                  refine hK.out _ _ ⟨_, hF.pure hok hla hpre rfl (Below.refl _ _), ?fr⟩
                  case fr => simp only [putO, layL]
                · replace hge : 5 ≤ i := hgt
                  clear hgt
                  obtain rfl := eqi hi hge
                  have p4 := hpre 4 (by kernel_rfl)
                  have e4 : s4 = .bool true := hF.get 4 _ rfl (.inr p4)
                  subst e4
                  refine step_of ⟨some 40, _, _, _, _, _⟩ rfl (fun K' hK => ?_)
                  rw [if_pos (by rfl)]
                  go_simp
                  refine hK.out _ _ ⟨_, hF.pure hok hla hpre rfl (Below.refl _ _), ?fr⟩
                  case fr => simp only [putO, layL]
              · replace hge : 6 ≤ i := hgt
                clear hgt
                rcases Nat.lt_or_ge i 7 with hlt | hgt
                · replace hi := hlt
                  clear hlt
                  obtain rfl := eqi hi hge
                  have p4 := hpre 4 (by kernel_rfl)
                  have e4 : s4 = .bool true := hF.get 4 _ rfl (.inr p4)
                  subst e4
                  refine step_of ⟨some 41, _, _, _, _, _⟩ rfl (fun K' hK => ?_)
                  rw [if_pos (by rfl)]
                  go_simp
                  refine hK.out _ _ ⟨_, hF.pure hok hla hpre rfl (Below.refl _ _), ?fr⟩
                  case fr => simp only [putO, layL]
                · replace hge : 7 ≤ i := hgt
                  clear hgt
                  obtain rfl := eqi hi hge
                  have p4 := hpre 4 (by kernel_rfl)
                  have e4 : s4 = .bool true := hF.get 4 _ rfl (.inr p4)
                  subst e4
                  refine step_of ⟨some 42, _, _, _, _, _⟩ rfl (fun K' hK => ?_)
                  rw [if_pos (by rfl)]
                  go_simp
                  refine hK.out _ _ ⟨_, hF.pure hok hla hpre rfl (Below.refl _ _), ?fr⟩
                  case fr => simp only [putO, layL]
          · replace hge : 8 ≤ i := hgt
            clear hgt
            rcases Nat.lt_or_ge i 12 with hlt | hgt
            · replace hi := hlt
              clear hlt
              rcases Nat.lt_or_ge i 10 with hlt | hgt
              · replace hi := hlt
                clear hlt
                rcases Nat.lt_or_ge i 9 with hlt | hgt
                · replace hi := hlt
                  clear hlt
                  obtain rfl := eqi hi hge
                  have p6 := hpre 6 (by kernel_rfl)
                  have e6 : s6 = .slice (some ⟨g, 0, none⟩) 1 C := hF.get 6 _ rfl (.inr p6)
                  subst e6
                  have p7 := hpre 7 (by kernel_rfl)
                  have e7 : s7 = .int .i64 0 := hF.get 7 _ rfl (.inr p7)
                  subst e7
                  have p4 := hpre 4 (by kernel_rfl)
                  have e4 : s4 = .bool true := hF.get 4 _ rfl (.inr p4)
                  subst e4
                  have hj0 : (0 : Int) ≤ 0 := Int.le_refl _
                  have hj1 : (0 : Int) < 1 := by decide
                  refine step_of ⟨some 43, _, _, _, _, _⟩ rfl (fun K' hK => ?_)
                  rw [if_pos (by rfl)]
                  go_simp
                  refine hK.out _ _ ⟨_, hF.pure hok hla hpre rfl (Below.refl _ _), ?fr⟩
                  case fr => simp only [putO, layL]
                · replace hge : 9 ≤ i := hgt
                  clear hgt
                  obtain rfl := eqi hi hge
                  have p8 := hpre 8 (by kernel_rfl)
                  have e8 : s8 = .pointer (some ⟨g, 0, none⟩) := hF.get 8 _ rfl (.inr p8)
                  subst e8
                  have p4 := hpre 4 (by kernel_rfl)
                  have e4 : s4 = .bool true := hF.get 4 _ rfl (.inr p4)
                  subst e4
                  obtain ⟨f0, f1⟩ := (HS.out.step (below_none hF.low)).one 0 (show 0 < 1 by decide)
                  simp only [List.getElem_cons_zero, Nat.zero_mul, Nat.zero_add] at f0 f1
                  refine step_of ⟨some 44, _, _, _, _, _⟩ rfl (fun K' hK => ?_)
                  rw [if_pos (by rfl)]
                  go_simp
                  refine hK.out _ _ ⟨_, hF.pure hok hla hpre rfl (Below.refl _ _), ?fr⟩
                  case fr => simp only [putO, layL]
              · replace hge : 10 ≤ i := hgt
                clear hgt
                rcases Nat.lt_or_ge i 11 with hlt | hgt
                · replace hi := hlt
                  clear hlt
                  obtain rfl := eqi hi hge
                  have p4 := hpre 4 (by kernel_rfl)
                  have e4 : s4 = .bool true := hF.get 4 _ rfl (.inr p4)
                  subst e4
                  have hcc := (two_at (keep_block HB.out (below_none hF.low))).1
                  have cHB0 := hcc.1
                  have cHB1 := hcc.2
                  clear hcc
                  refine step_of ⟨some 45, _, _, _, _, _⟩ rfl (fun K' hK => ?_)
                  rw [if_pos (by rfl)]
                  go_simp
                  refine hK.out _ _ ⟨_, hF.pure hok hla hpre rfl (Below.refl _ _), ?fr⟩
                  case fr => simp only [putO, layL]
                · replace hge : 11 ≤ i := hgt
                  clear hgt
                  obtain rfl := eqi hi hge
                  have p5 := hpre 5 (by kernel_rfl)
                  have e5 : s5 = .func (.func 184) #[] #[] := hF.get 5 _ rfl (.inr p5)
                  subst e5
                  have p9 := hpre 9 (by kernel_rfl)
                  have e9 : s9 = .agg #[.string (numS a), .string (denS a)] := hF.get 9 _ rfl (.inr p9)
                  subst e9
                  have p10 := hpre 10 (by kernel_rfl)
                  have e10 : s10 = .agg #[.string (numS x), .string (denS x)] := hF.get 10 _ rfl (.inr p10)
                  subst e10
                  have p4 := hpre 4 (by kernel_rfl)
                  have e4 : s4 = .bool true := hF.get 4 _ rfl (.inr p4)
                  subst e4
                  refine step_of ⟨some 46, _, _, _, _, _⟩ rfl (fun K' hK => ?_)
                  rw [if_pos (by rfl)]
                  go_simp
                  go_at_call 184
                  (with_reducible refine (TC.out _ (HS.out.step (below_none hF.low)).env).mono ?_)
                  rintro e Wq ⟨rfl, hq⟩
                  refine hK.out _ _ ⟨_, hF.pure hok hla hpre rfl hq, ?fr⟩
                  case fr => simp only [putO, layL]
            · replace hge : 12 ≤ i := hgt
              clear hgt
              rcases Nat.lt_or_ge i 14 with hlt | hgt
              · replace hi := hlt
                clear hlt
                rcases Nat.lt_or_ge i 13 with hlt | hgt
                · replace hi := hlt
                  clear hlt
                  obtain rfl := eqi hi hge
                  have p11 := hpre 11 (by kernel_rfl)
                  have e11 : s11 = .int .i64 1 := hF.get 11 _ rfl (.inr p11)
                  subst e11
                  have p4 := hpre 4 (by kernel_rfl)
                  have e4 : s4 = .bool true := hF.get 4 _ rfl (.inr p4)
                  subst e4
                  refine step_of ⟨some 47, _, _, _, _, _⟩ rfl (fun K' hK => ?_)
                  rw [if_pos (by rfl)]
                  go_simp
                  refine hK.out _ _ ⟨_, hF.pure hok hla hpre rfl (Below.refl _ _), ?fr⟩
                  case fr => simp only [putO, layL]
                · replace hge : 13 ≤ i := hgt
                  clear hgt
                  obtain rfl := eqi hi hge
                  have p4 := hpre 4 (by kernel_rfl)
                  have e4 : s4 = .bool true := hF.get 4 _ rfl (.inr p4)
                  subst e4
                  have p12 := hpre 12 (by kernel_rfl)
                  have e12 : s12 = .bool false := hF.get 12 _ rfl (.inr p12)
                  subst e12
                  refine step_of ⟨some 48, _, _, _, _, _⟩ rfl (fun K' hK => ?_)
                  go_simp
                  refine hK.out _ _ ⟨_, hF.pure hok hla hpre rfl (Below.refl _ _), ?fr⟩
                  case fr => simp only [putO, layL]
              · replace hge : 14 ≤ i := hgt
                clear hgt
                rcases Nat.lt_or_ge i 15 with hlt | hgt
                · replace hi := hlt
                  clear hlt
                  obtain rfl := eqi hi hge
                  have p0 := hpre 0 (by kernel_rfl)
                  have e0 : s0 = .int .i64 0 := hF.get 0 _ rfl (.inr p0)
                  subst e0
                  refine step_of ⟨some 6, _, _, _, _, _⟩ rfl (fun K' hK => ?_)
                  go_simp
                  refine hK.out _ _ ⟨_, hF.pure hok hla hpre rfl (Below.refl _ _), ?fr⟩
                  case fr => simp only [putO, layL]
                · replace hge : 15 ≤ i := hgt
                  clear hgt
                  obtain rfl := eqi hi hge
                  have p13 := hpre 13 (by kernel_rfl)
                  have e13 : s13 = .bool false := hF.get 13 _ rfl (.inr p13)
                  subst e13
                  refine step_of ⟨some 7, _, _, _, _, _⟩ rfl (fun K' hK => ?_)
                  go_simp
                  refine hK.out _ _ ⟨_, hF.pure hok hla hpre rfl (Below.refl _ _), ?fr⟩
                  case fr => simp only [putO, layL]
        case hd =>
          rintro listed vs WA hF hall
          obtain ⟨s0, s1, s2, s3, s4, s5, s6, s7, s8, s9, s10, s11, s12, s13, s14, s15, hvs⟩ := exl_of 16 vs (fun l => vs = l) hF.len rfl
          subst hvs
          have e14 : s14 = .int .i64 0 := hF.get 14 _ rfl (.inr (hall 14 (by decide)))
          subst e14
          have e15 : s15 = .bool false := hF.get 15 _ rfl (.inr (hall 15 (by decide)))
          subst e15
          have hq := below_none hF.low
          replace HS := Lib.hid (HS.out.step hq)
          replace HB := Lib.hid HS.out.box
          clear hq
          clear hF hall hok hna hla
          simp only [putO, layL]
          go_wp2
          go_ret2
          exact ⟨rfl, HS.out.low⟩
/-- how many of the first k numbers are greater -/
def gtN (a : Rat) (qs : List Rat) (k : Nat) : Nat := ((qs.take k).filter fun y => decide (cmpR a y = -1)).length
theorem gtN_succ (a : Rat) (qs : List Rat) (k : Nat) (h : k < qs.length) : gtN a qs (k + 1) = gtN a qs k + if cmpR a qs[k] = -1 then 1 else 0 := by
  unfold gtN
  rw [List.take_succ_eq_append_getElem h, List.filter_append, List.length_append]
  by_cases e : cmpR a qs[k] = -1 <;> simp [e]
theorem gtN_le (a : Rat) (qs : List Rat) (k : Nat) : gtN a qs k ≤ k := Nat.le_trans (List.length_filter_le _ _) (by simp; omega)
/-- the arguments (block b), their values (block g), the array's numbers (block gi), the result's block -/
structure ArgV (w0 : World) (b g C : Nat) (vs : List Val) (gi : Nat) (qs : List Rat) (i : Nat) (W : World) : Prop where
  args : ArgsAt W b (some ⟨g, 0, none⟩) vs.length C i
  vals : ValsAt W g 0 vs
  arr : ValsAt W gi 0 (numVals qs)
  res : W.heap[w0.heap.size]? = some (.cells #[.int .i64 0, .string { data := #[] }, .string { data := #[] }, .string { data := #[] }, .bool false, .int .i64 0, .int .i64 0, .int .i64 0, .slice none 0 0] 27 (0, 0))
  env : Env W
  low : w0.grownBy W (some b)
  gb : g ≠ b
  gib : gi ≠ b
  gl : g < w0.heap.size
  gil : gi < w0.heap.size
  bl : b < w0.heap.size
  past : Past b
  len : vs.length ≤ 300
  pos : 0 < qs.length
  q9 : qs.length ≤ 1000
theorem ArgV.start {w : World} {b g C gi : Nat} {vs : List Val} {qs : List Rat} (ha : ArgsAt w b (some ⟨g, 0, none⟩) vs.length C 0) (hv : ValsAt w g 0 vs) (h0 : 0 < vs.length) (hav : ValsAt w gi 0 (numVals qs)) (hq : 0 < qs.length) (h9 : qs.length ≤ 1000) (hl : vs.length ≤ 300) (hne : g ≠ b) (hgi : gi ≠ b) (hE : Env w) (hP : Past b) :
    ArgV w b g C vs gi qs 0 (w.alloc (.cells #[.int .i64 0, .string { data := #[] }, .string { data := #[] }, .string { data := #[] }, .bool false, .int .i64 0, .int .i64 0, .int .i64 0, .slice none 0 0] 27)) :=
  have hb : Below w.heap.size w (w.alloc (.cells #[.int .i64 0, .string { data := #[] }, .string { data := #[] }, .string { data := #[] }, .bool false, .int .i64 0, .int .i64 0, .int .i64 0, .slice none 0 0] 27)) := (Below.refl _ _).alloc (Nat.le_refl _) _
  ⟨keep_block ha hb, hv.below hb, hav.below hb, heap_alloc_new w _, hE.below hb, kept_below hb, hne, hgi, cell_lt (hv.at 0 h0).1, cell_lt (hav.at 0 (by rw [numVals_len]; exact hq)).1, heap_lt ha, hP, hl, hq, h9⟩
section
variable {w0 W W' : World} {b g C gi i : Nat} {vs : List Val} {qs : List Rat}
theorem ArgV.step (h : ArgV w0 b g C vs gi qs i W) (hb : Below W.heap.size W W') : ArgV w0 b g C vs gi qs i W' :=
  ⟨keep_block h.args hb, h.vals.below hb, h.arr.below hb, keep_block h.res hb, h.env.below hb, kept_trans h.low (kept_below hb), h.gb, h.gib, h.gl, h.gil, h.bl, h.past, h.len, h.pos, h.q9⟩
theorem ArgV.grow {i' : Nat} (h : ArgV w0 b g C vs gi qs i W) (ha : ArgsAt W' b (some ⟨g, 0, none⟩) vs.length C i') (hg : W.grownBy W' (some b)) : ArgV w0 b g C vs gi qs i' W' :=
  ⟨ha, vals_kept h.vals hg h.gb (Nat.lt_of_lt_of_le h.gl h.low.size), vals_kept h.arr hg h.gib (Nat.lt_of_lt_of_le h.gil h.low.size), kept_block h.res hg (Nat.ne_of_gt h.bl), h.env.kept hg h.past, kept_trans h.low hg, h.gb, h.gib, h.gl, h.gil, h.bl, h.past, h.len, h.pos, h.q9⟩
/-- the next argument is the array -/
theorem ArgV.value (r s : Int) (Ci : Nat) (h : ArgV w0 b g C vs gi qs i W) (hi : i < vs.length) (hv : vs[i] = arrVal' r s gi qs.length Ci) :
    Calls Tryz.prog 102 #[.pointer (some ⟨b, 0, none⟩)] W fun e w' => e = .returned (.agg #[.int .i64 5, .string { data := #[] }, .string { data := #[] }, .string { data := #[] }, .bool false, .int .i64 0, .int .i64 r, .int .i64 s, .slice (some ⟨gi, 0, none⟩) qs.length Ci]) ∧ ArgV w0 b g C vs gi qs (i + 1) w' := by
  have hc := h.vals.at i hi
  rw [hv] at hc
  refine (value_any b g 0 vs.length C i _ _ _ _ _ _ _ _ _ _ _ W h.args hi (by have := h.len; omega) h.gb hc).mono ?_
  rintro e w' ⟨rfl, ha, hg⟩
  exact ⟨rfl, h.grow ha hg⟩
theorem ArgV.inside (r s : Int) (Ci : Nat) (h : ArgV w0 b g C vs gi qs i W) :
    Calls Tryz.prog 101 #[.agg #[.int .i64 5, .string { data := #[] }, .string { data := #[] }, .string { data := #[] }, .bool false, .int .i64 0, .int .i64 r, .int .i64 s, .slice (some ⟨gi, 0, none⟩) qs.length Ci]] W fun e w' => ∃ gF cap, e = .returned (.slice (some ⟨gF, 0, none⟩) qs.length cap) ∧ RowB w' gF qs ∧ w0.heap.size < gF ∧ gF ≠ b ∧ ArgV w0 b g C vs gi qs i w' := by
  refine (inside_arr qs r s gi Ci W h.q9 h.pos h.arr h.env).mono ?_
  rintro e w' ⟨v, rfl, ho, _, hb⟩
  obtain ⟨gF, cap, rfl, hgF, hr⟩ := ho.rowB h.pos
  have h1 := heap_lt h.res
  have h2 := h.bl
  exact ⟨gF, cap, rfl, hr, by omega, by omega, h.step hb⟩
theorem ArgV.insideNum (q : Rat) (h : ArgV w0 b g C vs gi qs i W) :
    Calls Tryz.prog 101 #[.agg #[.int .i64 1, .string (numS q), .string (denS q), .string { data := #[] }, .bool false, .int .i64 0, .int .i64 0, .int .i64 0, .slice none 0 0]] W fun e w' => ∃ gF cap, e = .returned (.slice (some ⟨gF, 0, none⟩) 1 cap) ∧ RowB w' gF [q] ∧ Below W.heap.size W w' ∧ ArgV w0 b g C vs gi qs i w' := by
  refine (inside_num q W h.env).mono ?_
  rintro e w' ⟨v, rfl, ho, _, hb⟩
  obtain ⟨gF, cap, rfl, hgF, hr⟩ := ho.rowB (show 0 < 1 by decide)
  exact ⟨gF, cap, rfl, hr, hb, h.step hb⟩
/-- the next argument is a number, taken as a value -/
theorem ArgV.valueNum (q : Rat) (h : ArgV w0 b g C vs gi qs i W) (hi : i < vs.length) (hv : vs[i] = numVal' q) :
    Calls Tryz.prog 102 #[.pointer (some ⟨b, 0, none⟩)] W fun e w' => e = .returned (.agg #[.int .i64 1, .string (numS q), .string (denS q), .string { data := #[] }, .bool false, .int .i64 0, .int .i64 0, .int .i64 0, .slice none 0 0]) ∧ ArgV w0 b g C vs gi qs (i + 1) w' ∧ W.grownBy w' (some b) := by
  have hc := h.vals.at i hi
  rw [hv] at hc
  refine (value_any b g 0 vs.length C i _ _ _ _ _ _ _ _ _ _ _ W h.args hi (by have := h.len; omega) h.gb hc).mono ?_
  rintro e w' ⟨rfl, ha, hg⟩
  exact ⟨rfl, h.grow ha hg, hg⟩
end
/-- what stays in frequency's first loop -/
structure FqI (w0 : World) (b g C : Nat) (vs : List Val) (gi : Nat) (qs : List Rat) (i gF gS gc : Nat) (a : Rat) (n m : Nat) (W : World) : Prop where
  arg : ArgV w0 b g C vs gi qs i W
  row : RowB W gF qs
  one : FracsAt W gS [a]
  cnt : W.heap[gc]? = some (.cells #[.int .i64 (n : Int), .int .i64 (m : Int)] 3 (0, 0))
theorem FqI.step {w0 W W' : World} {b g C gi i gF gS gc n m : Nat} {vs : List Val} {qs : List Rat} {a : Rat} (h : FqI w0 b g C vs gi qs i gF gS gc a n m W) (hb : Below W.heap.size W W') : FqI w0 b g C vs gi qs i gF gS gc a n m W' :=
  ⟨h.arg.step hb, h.row.below hb, h.one.below hb, keep_block h.cnt hb⟩
theorem FqI.put {w0 W : World} {b g C gi i gF gS gc n m : Nat} {vs : List Val} {qs : List Rat} {a : Rat} (h : FqI w0 b g C vs gi qs i gF gS gc a n m W) (j n' m' : Nat) (v : Int) (hs : (W.setCell ⟨gc, j, none⟩ (.int .i64 v)).heap[gc]? = some (.cells #[.int .i64 (n' : Int), .int .i64 (m' : Int)] 3 (0, 0))) (hgc : w0.heap.size < gc) (hF : gF ≠ gc) (hS : gS ≠ gc) (hP : Past gc) : FqI w0 b g C vs gi qs i gF gS gc a n' m' (W.setCell ⟨gc, j, none⟩ (.int .i64 v)) := by
  have hg : W.grownBy (W.setCell ⟨gc, j, none⟩ (.int .i64 v)) (some gc) := only_setCell (p := ⟨gc, j, none⟩) (kept_below (Below.refl _ _)) (.inl rfl) _
  have a1 := h.arg.gl; have a2 := h.arg.gil; have a3 := h.arg.bl; have a4 := h.arg.low.size
  exact ⟨⟨kept_block h.arg.args hg (by omega), vals_kept h.arg.vals hg (by omega) (by omega), vals_kept h.arg.arr hg (by omega) (by omega), kept_block h.arg.res hg (by omega), h.arg.env.kept hg hP, only_setCell (p := ⟨gc, j, none⟩) h.arg.low (.inr (by simp only []; omega)) _, h.arg.gb, h.arg.gib, h.arg.gl, h.arg.gil, h.arg.bl, h.arg.past, h.arg.len, h.arg.pos, h.arg.q9⟩,
    RowB.kept h.row hg hF, fun j hj => ⟨kept_cell (h.one j hj).1 hg hS, kept_cell (h.one j hj).2 hg hS⟩, hs⟩
/-- the row of the items -/
structure RwI (w7 : World) (v : Value) (done : List Rat) (W : World) : Prop where
  low : Below w7.heap.size w7 W
  own : W.ownsRow w7.heap.size 27 9 v done.length (flat (numVals done))
theorem RwI.step {w7 W W' : World} {v : Value} {done : List Rat} (h : RwI w7 v done W) (hb : Below W.heap.size W W') : RwI w7 v done W' :=
  ⟨h.low.trans (hb.mono h.low.size), h.own.kept (only_of_below hb none) (by cases v.ownBlock <;> simp)⟩
theorem RwI.push {w7 W W' : World} {v v' : Value} {done : List Rat} {q : Rat} (h : RwI w7 v done W) (ho : W'.ownsRow w7.heap.size 27 9 v' (done.length + 1) (flat (numVals done) ++ (numVal' q).cells)) (hg : W.grownBy W' v.ownBlock) : RwI w7 v' (done ++ [q]) W' := by
  have hge : ∀ r, v.ownBlock = some r → w7.heap.size ≤ r := owned_lt h.own
  exact ⟨h.low.grown hg h.low.size (fun r hr => by have := hge r hr; omega), by rw [numVals_snoc, List.length_append]; exact ho⟩
theorem make_two (w : World) : (Instr.makeSlice 22 (.int .i64 2) (.int .i64 2)).run Tryz.prog w = .ok (.slice (some ⟨w.heap.size, 0, none⟩) 2 2) (w.alloc (.cells #[.int .i64 0, .int .i64 0] 3)) := by
  have h := run_make_row' (P := Tryz.prog) 22 3 (.int .i64 0) 8 Tryz.underlying22 (by kernel_rfl) rfl .i64 .i64 2 (by decide) (by decide) w
  rw [show madeCells #[Value.int .i64 0] 2 = #[.int .i64 0, .int .i64 0] by kernel_rfl] at h
  exact h
theorem sort_one (a : Rat) : sortL [a] = [a] := by
  unfold sortL
  exact List.mergeSort_singleton _
set_option linter.unusedSimpArgs false in
set_option linter.unusedVariables false in
set_option maxHeartbeats 8000000 in
set_option maxRecDepth 100000 in
theorem freq_any (a : Rat) (qs : List Rat) (r s : Int) (gi Ci b g C : Nat) (w : World) (hfa : fits a = true) (hq : ∀ q ∈ qs, fits q = true) (h0 : 0 < qs.length) (h9 : qs.length ≤ 1000) (ha : ArgsAt w b (some ⟨g, 0, none⟩) 2 C 0) (hv : ValsAt w g 0 [arrVal' r s gi qs.length Ci, numVal' a]) (hav : ValsAt w gi 0 (numVals qs)) (hne : g ≠ b) (hgi : gi ≠ b) (hE : Env w) (hP : Past b) :
    Calls Tryz.prog 106 #[.pointer (some ⟨b, 0, none⟩)] w fun e w' => ∃ lg cap, e = .returned (.agg #[.int .i64 5, .string { data := #[] }, .string { data := #[] }, .string { data := #[] }, .bool false, .int .i64 0, .int .i64 2, .int .i64 1, .slice (some ⟨lg, 0, none⟩) 2 cap]) ∧ ValsAt w' lg 0 (numVals [((qs.length - gtN a qs qs.length : Nat) : Int), ((gtN a qs qs.length : Nat) : Int)]) ∧ w.heap.size ≤ lg ∧ w.grownBy w' (some b) := by
  have HI := Lib.hid (ArgV.start (vs := [arrVal' r s gi qs.length Ci, numVal' a]) ha hv (show 0 < 2 by decide) hav h0 h9 (show 2 ≤ 300 by decide) hne hgi hE hP)
  have HQ := Lib.hid hq
  have HFA := Lib.hid hfa
  have HRM := Lib.hid hE.room
  obtain ⟨L, hL⟩ : ∃ L, qs.length = L := ⟨_, rfl⟩
  have HLL := Lib.hid hL
  rw [hL] at h0 h9 ⊢
  have hmk := make_two
  obtain ⟨i0, hi0', hz0, hz1, hz2⟩ := info_val
  clear ha hv hav hne hgi hE hP hq hfa hL
  go_enter Tryz.func106, Tryz.ntmps106
  go_wp2_with fail
  refine (HI.out.value r s Ci (show 0 < 2 by decide) rfl).mono ?_
  rintro e w1 ⟨rfl, hI⟩
  replace HI := Lib.hid hI
  clear hI
  go_wp2_with fail
  refine (HI.out.inside r s Ci).mono ?_
  rintro e w2 ⟨gF, cF, rfl, hr, hgF, hgFb, hI⟩
  replace HI := Lib.hid hI
  have HRW := Lib.hid hr
  have HGF := Lib.hid hgF
  have HGFB := Lib.hid hgFb
  have HFL := Lib.hid (show gF < w2.heap.size by obtain ⟨cur, hh, _⟩ := hr; exact heap_lt hh)
  clear hI hr hgF hgFb
  go_wp2_with fail
  refine (HI.out.valueNum a (show 1 < 2 by decide) rfl).mono ?_
  rintro e w3 ⟨rfl, hI, hg⟩
  replace HI := Lib.hid hI
  replace HRW := Lib.hid (RowB.kept HRW.out hg HGFB.out)
  replace HFL := Lib.hid (Nat.lt_of_lt_of_le HFL.out hg.size)
  clear hI hg
  go_wp2_with fail
  refine (HI.out.insideNum a).mono ?_
  rintro e w4 ⟨gO, cO, rfl, ho, hb, hI⟩
  replace HI := Lib.hid hI
  replace HRW := Lib.hid (HRW.out.below hb)
  replace HFL := Lib.hid (Nat.lt_of_lt_of_le HFL.out hb.size)
  have TS := Lib.hid (sorted_any [a] gO cO w4 (show 0 < 1 by decide) (show 1 ≤ 1000 by decide) (by intro q hq; simp only [List.mem_cons, List.not_mem_nil, or_false] at hq; rw [hq]; exact HFA.out) ho.fracs hI.env)
  clear hI hb ho
  go_wp2_with fail
  refine TS.out.mono ?_
  rintro e w5 ⟨gS, cS, rfl, hs, hgS, hgS2, hb⟩
  rw [sort_one] at hs
  have hI := HI.out.step hb
  have hb6 : Below w5.heap.size w5 (w5.alloc (.cells #[.int .i64 0, .int .i64 0] 3)) := (Below.refl _ _).alloc (Nat.le_refl _) _
  have HJ := Lib.hid (show FqI w b g C [arrVal' r s gi qs.length Ci, numVal' a] gi qs 2 gF gS w5.heap.size a 0 0 _ from ⟨hI.step hb6, (HRW.out.below hb).below hb6, hs.below hb6, heap_alloc_new w5 _⟩)
  have HP5 := Lib.hid (show w.heap.size < w5.heap.size ∧ gF ≠ w5.heap.size ∧ gS ≠ w5.heap.size ∧ Past w5.heap.size from ⟨heap_lt hI.res, by have := HFL.out; have := hb.size; omega, by omega, hI.env.room⟩)
  obtain ⟨gc, hgc⟩ : ∃ X, w5.heap.size = X := ⟨_, rfl⟩
  obtain ⟨w6, hw6⟩ : ∃ Z, w5.alloc (.cells #[.int .i64 0, .int .i64 0] 3) = Z := ⟨_, rfl⟩
  have HGC := Lib.hid hgc
  have HW6 := Lib.hid hw6
  rw [hw6, hgc] at HJ
  rw [hgc] at HP5
  clear hI hb hb6 hs hgS hgS2 TS HI HRW HFL hgc hw6
  go_upto_region 3 with fail
  rw [HW6.out, HGC.out]
  rw [HLL.out]
  go_wp2_with fail
  go_loopg [26] L (fun gh v26 wx => ∃ k : Nat, v26 = .int .i64 (k : Int) ∧ k ≤ L ∧ gh = L - k ∧ FqI w b g C [arrVal' r s gi qs.length Ci, numVal' a] gi qs 2 gF gS gc a (k - gtN a qs k) (gtN a qs k) wx)
  case atStart => exact ⟨0, rfl, Nat.zero_le _, rfl, HJ.out⟩
  case round =>
    clear HJ
    obtain ⟨k, rfl, hk, rfl, hj⟩ := hrel
    have HJ := Lib.hid hj
    clear hj
    by_cases hlt : k < L
    · have hd : decide ((k : Int) < (L : Int)) = true := decide_eq_true (by omega)
      have hd2 : decide (k < L) = true := decide_eq_true hlt
      have hkq : k < qs.length := by rw [HLL.out]; exact hlt
      have hsn := gtN_succ a qs k hkq
      have hol := gtN_le a qs k
      obtain ⟨x, hx⟩ : ∃ x, qs[k] = x := ⟨_, rfl⟩
      have hfx : fits x = true := by rw [← hx]; exact HQ.out _ (List.getElem_mem hkq)
      rw [hx] at hsn
      obtain ⟨o, ho⟩ : ∃ o, gtN a qs k = o := ⟨_, rfl⟩
      rw [ho] at hsn hol HJ
      have HSN := Lib.hid hsn
      obtain ⟨c0, c1⟩ := HJ.out.row.fracs k hkq
      rw [hx] at c0 c1
      have hi0 : (0 : Int) ≤ (k : Int) := by omega
      have hi1 : (k : Int) < (L : Int) := by omega
      have hwk : IntKind.i64.wrap ((k : Int) + 1) = (k : Int) + 1 := IntWalk.i64_in _ (by omega)
      have HTA := Lib.hid (HJ.out.step ((Below.refl wr.heap.size wr).alloc (Nat.le_refl _) (.cells #[.string (numS x), .string (denS x)] 24)))
      have TA := Lib.hid (search_one a x gS cS _ HFA.out hfx HTA.out.one HTA.out.arg.env)
      clear hfx hsn ho hkq hx HJ
      go_wp2_with fail
      refine TA.out.mono ?_
      rintro e w9 ⟨rfl, hb⟩
      have HT2 := Lib.hid (HTA.out.step hb)
      clear hb c0 c1 HTA TA
      by_cases hc : cmpR a x = -1
      · rw [if_pos hc] at HSN ⊢
        obtain ⟨⟨p0, p1⟩, pf0, pf1⟩ := two_at HT2.out.cnt
        have hwo : IntKind.i64.wrap ((o : Int) + 1) = (o : Int) + 1 := IntWalk.i64_in _ (by omega)
        have HP2 := Lib.hid (HT2.out.put 1 (k + 1 - gtN a qs (k + 1)) (gtN a qs (k + 1)) ((o : Int) + 1) (by
          have := heap_setCell_at HT2.out.cnt 1 (.int .i64 ((o : Int) + 1))
          rw [this, HSN.out, show k + 1 - (o + 1) = k - o by omega]
          rfl) HP5.out.1 HP5.out.2.1 HP5.out.2.2.1 HP5.out.2.2.2)
        clear hc
        go_wp2
        go_roundg (L - (k + 1))
        case measure => omega
        case rel => exact ⟨k + 1, by go_num, by omega, by omega, HP2.out⟩
      · rw [if_neg hc] at HSN ⊢
        have e1 : gtN a qs (k + 1) = o := HSN.out
        obtain ⟨ko, hko⟩ : ∃ z : Int, ((k - o : Nat) : Int) = z := ⟨_, rfl⟩
        have hko2 : 0 ≤ ko ∧ ko ≤ 1000 := by omega
        have hcnt := HT2.out.cnt
        have hst := heap_setCell_at hcnt 0 (.int .i64 (((k - o : Nat) : Int) + 1))
        have HP2 := Lib.hid (HT2.out.put 0 (k + 1 - gtN a qs (k + 1)) (gtN a qs (k + 1)) (((k - o : Nat) : Int) + 1) (by
          rw [hst, e1, show ((k + 1 - o : Nat) : Int) = ((k - o : Nat) : Int) + 1 by omega]
          rfl) HP5.out.1 HP5.out.2.1 HP5.out.2.2.1 HP5.out.2.2.2)
        clear hst e1
        rw [hko] at hcnt HP2
        obtain ⟨⟨p0, p1⟩, pf0, pf1⟩ := two_at hcnt
        have hwo : IntKind.i64.wrap (ko + 1) = ko + 1 := IntWalk.i64_in _ (by omega)
        clear hc hko hcnt
        go_wp2
        go_roundg (L - (k + 1))
        case measure => omega
        case rel => exact ⟨k + 1, by go_num, by omega, by omega, HP2.out⟩
    · have hd : decide ((k : Int) < (L : Int)) = false := decide_eq_false (by omega)
      have hd2 : decide (k < L) = false := decide_eq_false hlt
      have hkL : L = k := by omega
      subst hkL
      clear hlt
      have hkq : qs.length = L := HLL.out
      obtain ⟨p, hp⟩ : ∃ p, L - gtN a qs L = p := ⟨_, rfl⟩
      obtain ⟨o, ho⟩ : ∃ o, gtN a qs L = o := ⟨_, rfl⟩
      have hol := gtN_le a qs L
      rw [hp, ho] at HJ
      have hp9 : p ≤ 1000 := by omega
      have ho9 : o ≤ 1000 := by omega
      obtain ⟨x, hqx⟩ : ∃ x : Rat, ((p : Int) : Rat) = x := ⟨_, rfl⟩
      obtain ⟨y, hqy⟩ : ∃ y : Rat, ((o : Int) : Rat) = y := ⟨_, rfl⟩
      have HQX := Lib.hid hqx
      have HQY := Lib.hid hqy
      have HRES := Lib.hid (show numVals [((L - gtN a qs L : Nat) : Int), ((gtN a qs L : Nat) : Int)] = numVals [x, y] by rw [hp, ho, hqx, hqy])
      obtain ⟨w7, hw7⟩ : ∃ Z, wr = Z := ⟨_, rfl⟩
      rw [hw7] at HJ
      have HI7 := Lib.hid (show RwI w7 (.slice none 0 0) [] w7 from ⟨Below.refl _ _, World.ownsRow_nil _ _ _ _⟩)
      clear hqx hqy hp ho hol
      go_wp2_with fail
      clear hw7
      go_loopg [10, 45] 2 (fun gh v10 v45 wx => ∃ j : Nat, v45 = .int .i64 (j : Int) ∧ j ≤ 2 ∧ gh = 2 - j ∧ RwI w7 v10 ([x, y].take j) wx)
      case atStart => exact ⟨0, rfl, Nat.zero_le _, rfl, HI7.out⟩
      case round =>
        clear HI7
        obtain ⟨j, rfl, hj, rfl, hR⟩ := hrel
        rcases (show j = 0 ∨ j = 1 ∨ j = 2 by omega) with rfl | rfl | rfl
        · obtain ⟨⟨p0, p1⟩, _⟩ := two_at (HJ.out.step hR.low).cnt
          have TW := (fun W g => whole_any (p : Int) W (by omega) (by omega) g)
          rw [HQX.out] at TW
          rw [numVal_is x] at TW
          have TWH := Lib.hid TW
          have HE := Lib.hid (HJ.out.step hR.low).arg.env
          have HR := Lib.hid hR
          have hj0 : (0 : Int) ≤ (0 : Int) := by decide
          have hj1 : (0 : Int) < 2 := by decide
          have hwj : IntKind.i64.wrap ((0 : Int) + 1) = 0 + 1 := rfl
          clear hR TW
          go_wp2_with fail
          refine (TWH.out _ HE.out).mono ?_
          rintro e w2 ⟨rfl, hb⟩
          have HT2 := Lib.hid (HR.out.step hb)
          have HT3 := Lib.hid (HT2.out.step ((Below.refl w2.heap.size w2).alloc (Nat.le_refl _) (.cells #[.int .i64 1, .string (numS x), .string (denS x), .string { data := #[] }, .bool false, .int .i64 0, .int .i64 0, .int .i64 0, .slice none 0 0] 27)))
          have HNW := Lib.hid (World.news_of_block (cs := #[.int .i64 1, .string (numS x), .string (denS x), .string { data := #[] }, .bool false, .int .i64 0, .int .i64 0, .int .i64 0, .slice none 0 0]) (t := 27) (fr := (0, 0)) (heap_alloc_new w2 (.cells #[.int .i64 1, .string (numS x), .string (denS x), .string { data := #[] }, .bool false, .int .i64 0, .int .i64 0, .int .i64 0, .slice none 0 0] 27)))
          have hown := HT3.out.own
          obtain ⟨av, cv, hu⟩ := owns_form hown
          subst hu
          have HOW := Lib.hid hown
          have HBS := Lib.hid HT3.out.low.size
          clear hb hown p0 p1
          go_wp2_with (at_builtin; refine wpList_append_own _ rfl _ _ 25 rfl w7.heap.size 27 i0 _ 9 112 Tryz.underlying25 hi0' hz0 hz1 hz2 rfl (by decide) (.slice av 0 cv) 0 (flat (numVals [])) rfl HOW.out ⟨w2.heap.size, 0, none⟩ 1 1 [.int .i64 1, .string (numS x), .string (denS x), .string { data := #[] }, .bool false, .int .i64 0, .int .i64 0, .int .i64 0, .slice none 0 0] rfl rfl HNW.out (by simp [Value.oneCell']) (by decide) (by omega) HBS.out ?_)
          intro v5 w5 hown5 hgrow5 _
          have HT5 := Lib.hid (show RwI w7 v5 [x] w5 from HT3.out.push hown5 hgrow5)
          clear hown5 hgrow5 HOW HNW HBS
          go_wp2
          go_roundg (2 - (0 + 1))
          case measure => omega
          case rel => exact ⟨0 + 1, by go_num, by omega, by omega, HT5.out⟩
        · obtain ⟨⟨p0, p1⟩, _⟩ := two_at (HJ.out.step hR.low).cnt
          have TW := (fun W g => whole_any (o : Int) W (by omega) (by omega) g)
          rw [HQY.out] at TW
          rw [numVal_is y] at TW
          have TWH := Lib.hid TW
          have HE := Lib.hid (HJ.out.step hR.low).arg.env
          have HR := Lib.hid hR
          have hj0 : (0 : Int) ≤ (1 : Int) := by decide
          have hj1 : (1 : Int) < 2 := by decide
          have hwj : IntKind.i64.wrap ((1 : Int) + 1) = 1 + 1 := rfl
          clear hR TW
          go_wp2_with fail
          refine (TWH.out _ HE.out).mono ?_
          rintro e w2 ⟨rfl, hb⟩
          have HT2 := Lib.hid (HR.out.step hb)
          have HT3 := Lib.hid (HT2.out.step ((Below.refl w2.heap.size w2).alloc (Nat.le_refl _) (.cells #[.int .i64 1, .string (numS y), .string (denS y), .string { data := #[] }, .bool false, .int .i64 0, .int .i64 0, .int .i64 0, .slice none 0 0] 27)))
          have HNW := Lib.hid (World.news_of_block (cs := #[.int .i64 1, .string (numS y), .string (denS y), .string { data := #[] }, .bool false, .int .i64 0, .int .i64 0, .int .i64 0, .slice none 0 0]) (t := 27) (fr := (0, 0)) (heap_alloc_new w2 (.cells #[.int .i64 1, .string (numS y), .string (denS y), .string { data := #[] }, .bool false, .int .i64 0, .int .i64 0, .int .i64 0, .slice none 0 0] 27)))
          have hown := HT3.out.own
          obtain ⟨av, cv, hu⟩ := owns_form hown
          subst hu
          have HOW := Lib.hid hown
          have HBS := Lib.hid HT3.out.low.size
          clear hb hown p0 p1
          go_wp2_with (at_builtin; refine wpList_append_own _ rfl _ _ 25 rfl w7.heap.size 27 i0 _ 9 112 Tryz.underlying25 hi0' hz0 hz1 hz2 rfl (by decide) (.slice av 1 cv) 1 (flat (numVals [x])) rfl HOW.out ⟨w2.heap.size, 0, none⟩ 1 1 [.int .i64 1, .string (numS y), .string (denS y), .string { data := #[] }, .bool false, .int .i64 0, .int .i64 0, .int .i64 0, .slice none 0 0] rfl rfl HNW.out (by simp [Value.oneCell']) (by decide) (by omega) HBS.out ?_)
          intro v5 w5 hown5 hgrow5 _
          have HT5 := Lib.hid (show RwI w7 v5 [x, y] w5 from HT3.out.push hown5 hgrow5)
          clear hown5 hgrow5 HOW HNW HBS
          go_wp2
          go_roundg (2 - (1 + 1))
          case measure => omega
          case rel => exact ⟨1 + 1, by go_num, by omega, by omega, HT5.out⟩
        · have hown := hR.own
          obtain ⟨lg, cap, rfl, hlg, _, hva⟩ := vals_of_owns (vs := numVals [x, y]) hown rfl (Nat.zero_lt_succ _)
          have HJJ := Lib.hid (HJ.out.step hR.low)
          have HVA := Lib.hid hva
          have HLG := Lib.hid (show w.heap.size < lg by have h1 := heap_lt HJ.out.arg.res; omega)
          clear hR hown hlg hva
          go_wp2_with fail
          refine (vtab_any 2 1 (some ⟨lg, 0, none⟩) 2 cap _ (by decide) (by decide) (by decide) (by decide)).mono ?_
          rintro e w8 ⟨rfl, hb⟩
          replace HJJ := Lib.hid (HJJ.out.step hb)
          replace HVA := Lib.hid (HVA.out.below hb)
          clear hb
          have HRR := Lib.hid HJJ.out.arg.res
          obtain ⟨⟨r0, r1, r2, r3, r4, r5, r6, r7, r8⟩, g0, g1, g2, g3, g4, g5, g6, g7, g8⟩ := nine_at HRR.out
          have HFI := Lib.hid (set9_at HRR.out (.int .i64 5) (.string { data := #[] }) (.string { data := #[] }) (.string { data := #[] }) (.bool false) (.int .i64 0) (.int .i64 2) (.int .i64 1) (.slice (some ⟨lg, 0, none⟩) 2 cap))
          have HG9 := Lib.hid (kept_set9 HJJ.out.arg.low (Nat.le_refl _) (.int .i64 5) (.string { data := #[] }) (.string { data := #[] }) (.string { data := #[] }) (.bool false) (.int .i64 0) (.int .i64 2) (.int .i64 1) (.slice (some ⟨lg, 0, none⟩) 2 cap))
          have HVB := Lib.hid (vals_other HVA.out (set9_other w8 w.heap.size (.int .i64 5) (.string { data := #[] }) (.string { data := #[] }) (.string { data := #[] }) (.bool false) (.int .i64 0) (.int .i64 2) (.int .i64 1) (.slice (some ⟨lg, 0, none⟩) 2 cap) (show lg ≠ w.heap.size by have := HLG.out; omega)))
          rw [← HRES.out] at HVB
          obtain ⟨⟨z0, z1, z2, z3, z4, z5, z6, z7, z8⟩, _⟩ := nine_at HFI.out
          go_wp2
          refine bodyPost_ret (v := .agg #[.int .i64 5, .string { data := #[] }, .string { data := #[] }, .string { data := #[] }, .bool false, .int .i64 0, .int .i64 2, .int .i64 1, .slice (some ⟨lg, 0, none⟩) 2 cap]) (by simp [results, Tryz.results106, go_sem, z0, z1, z2, z3, z4, z5, z6, z7, z8]) rfl ⟨lg, cap, rfl, HVB.out, by have := HLG.out; omega, HG9.out⟩
end Go.Proofs.YtgponoogifeopaaGreatDoor.Num.Ft

/- package fstat: the law's stat at FREQUENCY of an array and a number. Conditions: the tables lie as they are laid. -/
namespace Go.Proofs.YtgponoogifeopaaGreatDoor.Num.Ft
open Go.RowKit Go.Lib Go.MapKept Num

set_option maxHeartbeats 4000000 in
set_option maxRecDepth 100000 in
theorem fq_entry (g cap0 : Nat) (vs : List Val) (its : List Rat) (w : World) (hE : Env w) (hv : ValsAt w g 0 vs)
    (hF : ∀ W b, Below w.heap.size w W → Env W → Past b → b < W.heap.size → w.heap.size ≤ b → ArgsAt W b (some ⟨g, 0, none⟩) vs.length cap0 0 → ValsAt W g 0 vs → g ≠ b → Calls Tryz.prog 106 #[.pointer (some ⟨b, 0, none⟩)] W fun e w' => ∃ lg cap, e = .returned (.agg #[.int .i64 5, .string { data := #[] }, .string { data := #[] }, .string { data := #[] }, .bool false, .int .i64 0, .int .i64 2, .int .i64 1, .slice (some ⟨lg, 0, none⟩) 2 cap]) ∧ ValsAt w' lg 0 (numVals its) ∧ W.heap.size ≤ lg ∧ W.grownBy w' (some b)) (hv0 : 0 < vs.length) :
    Calls Tryz.prog 105 #[.slice (some ⟨g, 0, none⟩) vs.length cap0] w fun e w' => ∃ lg cap, e = .returned (.agg #[.int .i64 5, .string { data := #[] }, .string { data := #[] }, .string { data := #[] }, .bool false, .int .i64 0, .int .i64 2, .int .i64 1, .slice (some ⟨lg, 0, none⟩) 2 cap]) ∧ ValsAt w' lg 0 (numVals its) ∧ w.heap.size ≤ lg ∧ Below w.heap.size w w' := by
  obtain ⟨hR, hB, hb⟩ := two_new w (.cells #[.int .i64 0, .string { data := #[] }, .string { data := #[] }, .string { data := #[] }, .bool false, .int .i64 0, .int .i64 0, .int .i64 0, .slice none 0 0] 27) (.cells #[.slice (some ⟨g, 0, none⟩) vs.length cap0, .int .i64 0] 92)
  have HR := Lib.hid hR
  have HL := Lib.hid hb
  have hgl : g < w.heap.size := cell_lt (hv.at 0 hv0).1
  have TF := Lib.hid (hF _ (w.heap.size + 1) hb (hE.below hb) (hE.past (Nat.le_succ _)) (by simp) (Nat.le_succ _) hB (hv.below hb) (by omega))
  clear hR hB hb hF hE hv hgl
  go_enter Tryz.func105, Tryz.ntmps105
  go_wp2_with fail
  refine TF.out.mono ?_
  rintro e W1 ⟨lg, cap, rfl, hva, hlg, hg⟩
  have HVA := Lib.hid hva
  have HLG := Lib.hid (show w.heap.size < lg by simp at hlg; omega)
  replace HR := Lib.hid (kept_block HR.out hg (by omega))
  have HG := Lib.hid (below_map HL.out (Nat.le_succ _) hg)
  clear hg hva hlg
  obtain ⟨⟨r0, r1, r2, r3, r4, r5, r6, r7, r8⟩, g0, g1, g2, g3, g4, g5, g6, g7, g8⟩ := nine_at HR.out
  obtain ⟨nb, z0, z1, z2, z3, z4, z5, z6, z7, z8⟩ := nine_end (x0 := (.int .i64 5)) (x1 := (.string { data := #[] })) (x2 := (.string { data := #[] })) (x3 := (.string { data := #[] })) (x4 := (.bool false)) (x5 := (.int .i64 0)) (x6 := (.int .i64 2)) (x7 := (.int .i64 1)) (x8 := (.slice (some ⟨lg, 0, none⟩) 2 cap)) HR.out HG.out (Nat.le_refl _)
  have HVB := Lib.hid (vals_other HVA.out (set9_other W1 w.heap.size (.int .i64 5) (.string { data := #[] }) (.string { data := #[] }) (.string { data := #[] }) (.bool false) (.int .i64 0) (.int .i64 2) (.int .i64 1) (.slice (some ⟨lg, 0, none⟩) 2 cap) (show lg ≠ w.heap.size by have := HLG.out; omega)))
  have NB := Lib.hid nb
  clear nb
  go_wp2
  refine bodyPost_ret (v := .agg #[.int .i64 5, .string { data := #[] }, .string { data := #[] }, .string { data := #[] }, .bool false, .int .i64 0, .int .i64 2, .int .i64 1, .slice (some ⟨lg, 0, none⟩) 2 cap]) (by simp [results, Tryz.results105, go_sem, z0, z1, z2, z3, z4, z5, z6, z7, z8]) rfl ⟨lg, cap, rfl, HVB.out, by have := HLG.out; omega, NB.out⟩
section
variable {qs : List Rat} (h0 : 0 < qs.length) (h9 : qs.length ≤ 1000) (hs : ∀ q ∈ qs, Sm q 1000 1) {w : World} {rr ss : Int} {gi Ci ab ao C : Nat} (hA : AArg w (arrVal' rr ss gi qs.length Ci) qs) (hav : ValsAt w gi 0 (numVals qs)) (hE : Env w)
include h0 h9 hs hA hav hE
theorem s_FREQ (x : Rat) (hfx : fits x = true) (hv : ValsAt w ab ao [arrVal' rr ss gi qs.length Ci, numVal' x]) :
    Calls Tryz.prog 10 #[.string { data := #[70, 82, 69, 81, 85, 69, 78, 67, 89] }, .slice (some ⟨ab, ao, none⟩) 2 C] w fun e w' => ∃ lg cap, e = .returned (.agg #[.int .i64 5, .string { data := #[] }, .string { data := #[] }, .string { data := #[] }, .bool false, .int .i64 0, .int .i64 2, .int .i64 1, .slice (some ⟨lg, 0, none⟩) 2 cap]) ∧ ValsAt w' lg 0 (numVals [((qs.length - gtN x qs qs.length : Nat) : Int), ((gtN x qs qs.length : Nat) : Int)]) ∧ w.heap.size ≤ lg ∧ Below w.heap.size w w' := by
  have hgt := gtN_le x qs qs.length
  exact math_tab { data := #[70, 82, 69, 81, 85, 69, 78, 67, 89] } (.slice (some ⟨ab, ao, none⟩) 2 C) 2 1 2 _ w ⟨_, _, _, rfl⟩ (fun W b hb hT =>
    run_a_tab 17 ⟨{ data := #[70, 82, 69, 81, 85, 69, 78, 67, 89] }, 2, 2, { data := #[97] }, false, 105⟩ (by decide) rfl rfl (enters_of Tryz.func105 (by kernel_rfl) rfl) rfl (fr_of 17 (by decide) (by kernel_rfl)) [arrVal' rr ss gi qs.length Ci, numVal' x] b ab ao C 2 1 2 _ (by decide) (by decide) (by decide) (by decide) rfl (by
      intro q hq
      simp only [List.mem_cons, List.not_mem_nil, or_false] at hq
      rcases hq with rfl | rfl
      · exact fits_int _ (by omega)
      · exact fits_int _ (by omega)) W (show 0 < 2 by decide) (show 2 ≤ 300 by decide) (show (2 : Int) ≤ 2 by decide) (show (2 : Int) ≤ 2 by decide) (hv.below hb) (hE.below hb) hT
      (fun v hv' W' h => by
        simp only [List.mem_cons, List.not_mem_nil, or_false] at hv'
        rcases hv' with rfl | rfl
        · exact (hA.below (hb.trans (h.mono hb.size))).check (each_fits hs) ((hE.below hb).below h)
        · exact check_num _ W' hfx ((hE.below hb).below h))
      (fun W' g cap hb' hE' hva => fq_entry g cap [arrVal' rr ss gi qs.length Ci, numVal' x] _ W' hE' hva (fun W'' b' hb'' hE'' hP hlt hge ha hva' hne =>
        have hB := hb.trans ((hb'.trans (hb''.mono hb'.size)).mono hb.size)
        freq_any x qs rr ss gi Ci b' g cap W'' hfx (each_fits hs) h0 h9 ha hva' (hav.below hB) hne (by
          have h2 : gi < w.heap.size := cell_lt (hav.at 0 (by rw [numVals_len]; exact h0)).1
          have h3 := hb.size
          have h4 := hb'.size
          omega) hE'' hP) (show 0 < 2 by decide)))
end
end Go.Proofs.YtgponoogifeopaaGreatDoor.Num.Ft
