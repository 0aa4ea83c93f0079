/- Numbers as texts of digits, fractions, values and the functions of fmath: contracts of the program's functions, joined from smaller texts. Conditions stand at each theorem. -/
import Derived.Test.YtkbhlkinlcmgoaaGreatDoorPlcA
import Derived.Test.YtkbhlkinlcmgoaaGreatDoorPlrA
import Derived.Deep.DeepCutAuto
import Derived.Test.YtkbhlkinlcmgoaaGreatDoorPlaA

/- package fmoney: plan (PLAN) over its arguments. Conditions: what the small functions give; the tables lie as they are laid. -/
namespace Go.Proofs.YtkbhlkinlcmgoaaGreatDoor.Num.Fy
open Go.RowKit Go.Lib Num
attribute [local irreducible] wpOp
/-- what the rounding closure gives -/
def RndC (k : Int) (q p : Rat) : Prop := ∀ (W : World) (B : Nat), W.heap[B]? = some (.cells #[.int .i64 k] 3 (0, 0)) → EnvY W → Calls Tryz.prog 210 #[.agg #[.string (numS q), .string (denS q)], .pointer (some ⟨B, 0, none⟩)] W fun e w' => e = .returned (.agg #[.string (numS p), .string (denS p)]) ∧ Below W.heap.size W w'
theorem RndC.on {k : Int} {q p : Rat} (h : RndC k q p) (W : World) (B : Nat) (hb : W.heap[B]? = some (.cells #[.int .i64 k] 3 (0, 0))) (hE : EnvY W) : Calls Tryz.prog 210 #[.agg #[.string (numS q), .string (denS q)], .pointer (some ⟨B, 0, none⟩)] W fun e w' => e = .returned (.agg #[.string (numS p), .string (denS p)]) ∧ Below W.heap.size W w' := h W B hb hE
/-- one row of the plan; the first rows -/
def rowL (As Is Cs Ws : Nat → Rat) (i : Nat) : List Rat := [(((i + 1 : Nat) : Int) : Rat), As i, Is i, Cs i, Ws i]
def itsL (As Is Cs Ws : Nat → Rat) (j : Nat) : List Rat := (List.range j).flatMap (rowL As Is Cs Ws)
theorem itsL_succ (As Is Cs Ws : Nat → Rat) (j : Nat) : itsL As Is Cs Ws (j + 1) = itsL As Is Cs Ws j ++ rowL As Is Cs Ws j := by
  unfold itsL
  rw [List.range_succ, List.flatMap_append]; simp
theorem own_in {B n z : Nat} {S : TypeId} {xs : List Value} {W : World} {v : Value} (h : W.ownsRow B S z v n xs) : ∀ q, v.ownBlock = some q → q < W.heap.size := by
  intro q hq
  rcases h.2 with ⟨rfl, _⟩ | ⟨g, cap, cur, rfl, _, hg, _⟩
  · cases hq
  · have e : g = q := by injection hq
    subst e
    exact heap_lt hg
theorem itsL_len (As Is Cs Ws : Nat → Rat) : ∀ j, (itsL As Is Cs Ws j).length = j * 5
  | 0 => rfl
  | j + 1 => by rw [itsL_succ, List.length_append, itsL_len As Is Cs Ws j]; show _ + 5 = _; omega
set_option linter.unusedVariables false in
/-- what the operations of region 7 yield -/
def planKs7 (v r G S z0 pay npay P : Rat) (n B3 : Nat) : List RK :=
  [.pure (.func (.func 210) #[] #[.pointer (some ⟨B3 + 1 + 1, 0, none⟩)]),
   .pure (.agg #[.string (numS r), .string (denS r)]),
   .pure (.int .i64 (n : Int)),
   .pure (.agg #[.string (numS r), .string (denS r), .string (numS G), .string (denS G), .string (numS S), .string (denS S)]),
   .pure (.agg #[.string (numS v), .string (denS v)]),
   .pure (.agg #[.string (numS z0), .string (denS z0)]),
   .pure (.agg #[.string (numS pay), .string (denS pay)]),
   .pure (.agg #[.string (numS npay), .string (denS npay)]),
   .pure (.agg #[.string (numS P), .string (denS P)]),
   .box none #[.string { data := #[] }, .string { data := #[] }] #[.string (numS P), .string (denS P)] 24 10,
   .put 9]
set_option linter.unusedVariables false in
/-- what the operations of region 18 yield -/
def planKs18 (a y c z : Rat) (B3 B11 B12 : Nat) : List RK :=
  [.pure (.agg #[.string (numS c), .string (denS c)]),
   .pure (.agg #[.string (numS y), .string (denS y)]),
   .pure (.agg #[.string (numS a), .string (denS a)]),
   .pure (.agg #[.string (numS y), .string (denS y)]),
   .pure (.agg #[.string (numS c), .string (denS c)]),
   .pure (.agg #[.string (numS z), .string (denS z)]),
   .pure (.agg #[.string (numS a), .string (denS a), .string (numS y), .string (denS y), .string (numS c), .string (denS c), .string (numS z), .string (denS z)]),
   .pure (.int .i64 0)]
set_option linter.unusedSimpArgs false in
set_option linter.unusedVariables false in
set_option maxHeartbeats 4000000 in
set_option maxRecDepth 100000 in
theorem plan_walk (v r G S z0 pay npay P : Rat) (sv sr : Int) (n k : Nat) (Vs Ms Is Ds Cs Ws As : Nat → Rat) (b g Ca : Nat) (w : World)
    (hn1 : 1 ≤ n)
    (hn9 : n ≤ 40)
    (hk9 : k ≤ 3)
    (fv : fits v = true)
    (fr : fits r = true)
    (cSv : Fun1 198 (.agg #[.string (numS v), .string (denS v)]) (.int .i64 sv))
    (hsv : 0 ≤ sv)
    (cSr : Fun1 198 (.agg #[.string (numS r), .string (denS r)]) (.int .i64 sr))
    (hsr : 0 ≤ sr)
    (cL : Fun3 74 (.agg #[.string (numS r), .string (denS r)]) (.int .i64 (n : Int)) (.int .i64 0) (.agg #[.string (numS r), .string (denS r), .string (numS G), .string (denS G), .string (numS S), .string (denS S)]))
    (cZ : Fun1 7 (.int .i64 0) (.agg #[.string (numS z0), .string (denS z0)]))
    (cP : Fun3 82 (.agg #[.string (numS r), .string (denS r), .string (numS G), .string (denS G), .string (numS S), .string (denS S)]) (.agg #[.string (numS v), .string (denS v)]) (.agg #[.string (numS z0), .string (denS z0)]) (.agg #[.string (numS pay), .string (denS pay)]))
    (cN : Fun1 77 (.agg #[.string (numS pay), .string (denS pay)]) (.agg #[.string (numS npay), .string (denS npay)]))
    (cR : RndC (k : Int) npay P)
    (hV0 : Vs 0 = v)
    (hVn : ∀ i, i < n → Ws i = Vs (i + 1))
    (hCs : ∀ i, i < n → Cs i = if i + 1 = n then Vs i else Ds i)
    (cM : ∀ i, i < n → Fun2 80 (.agg #[.string (numS (Vs i)), .string (denS (Vs i))]) (.agg #[.string (numS r), .string (denS r)]) (.agg #[.string (numS (Ms i)), .string (denS (Ms i))]))
    (cI : ∀ i, i < n → RndC (k : Int) (Ms i) (Is i))
    (cD : ∀ i, i < n → Fun2 94 (.agg #[.string (numS P), .string (denS P)]) (.agg #[.string (numS (Is i)), .string (denS (Is i))]) (.agg #[.string (numS (Ds i)), .string (denS (Ds i))]))
    (cW : ∀ i, i < n → Fun2 94 (.agg #[.string (numS (Vs i)), .string (denS (Vs i))]) (.agg #[.string (numS (Cs i)), .string (denS (Cs i))]) (.agg #[.string (numS (Ws i)), .string (denS (Ws i))]))
    (fF : ∀ i, i < n → fits (As i) = true ∧ fits (Is i) = true ∧ fits (Cs i) = true ∧ fits (Ws i) = true)
    (cA : ∀ i, i < n → Fun2 79 (.agg #[.string (numS (Cs i)), .string (denS (Cs i))]) (.agg #[.string (numS (Is i)), .string (denS (Is i))]) (.agg #[.string (numS (As i)), .string (denS (As i))]))
    (ha : ArgsAt w b (some ⟨g, 0, none⟩) 4 Ca 0) (hv : ValsAt w g 0 [numVal' v, numVal' r, numVal' ((n : Int) : Rat), numVal' ((k : Int) : Rat)]) (hne : g ≠ b) (hE : EnvY w) (hP : Past b) :
    Calls Tryz.prog 103 #[.pointer (some ⟨b, 0, none⟩)] w fun e w' => ∃ lg cap, e = .returned (.agg #[.int .i64 5, .string { data := #[] }, .string { data := #[] }, .string { data := #[] }, .bool false, .int .i64 0, .int .i64 (n : Int), .int .i64 5, .slice (some ⟨lg, 0, none⟩) (n * 5) cap]) ∧ ValsAt w' lg 0 (numVals (itsL As Is Cs Ws n)) ∧ w.heap.size ≤ lg ∧ w.grownBy w' (some b) := by
  have HI := Lib.hid (PgI.start (vs := [numVal' v, numVal' r, numVal' ((n : Int) : Rat), numVal' ((k : Int) : Rat)]) ha hv (show 0 < 4 by decide) (show 4 ≤ 300 by decide) hne hE hP)
  have QcSv := Lib.hid cSv
  have QcSr := Lib.hid cSr
  have QcL := Lib.hid cL
  have QcZ := Lib.hid cZ
  have QcP := Lib.hid cP
  have QcN := Lib.hid cN
  have QcR := Lib.hid cR
  have QhV0 := Lib.hid hV0
  have QhVn := Lib.hid hVn
  have QhCs := Lib.hid hCs
  have QcM := Lib.hid cM
  have QcI := Lib.hid cI
  have QcD := Lib.hid cD
  have QcW := Lib.hid cW
  have QfF := Lib.hid fF
  have QcA := Lib.hid cA
  unfold Fun1 at QcSv QcSr QcZ QcN
  unfold Fun3 at QcL QcP
  have hmf : ∀ (fn : Fn) (first cap : Array Value) (w : World), (Instr.makeFunc fn first cap).run Tryz.prog w = .ok (.func fn first cap) w := fun _ _ _ _ => rfl
  have dsv : decide (sv < 0) = false := decide_eq_false (by omega)
  have dsr : decide (sr < 0) = false := decide_eq_false (by omega)
  obtain ⟨i0, hi0', hz0, hz1, hz2⟩ := info_val
  obtain ⟨vs, hvs⟩ : ∃ vs, [numVal' v, numVal' r, numVal' ((n : Int) : Rat), numVal' ((k : Int) : Rat)] = vs := ⟨_, rfl⟩
  have TV0 := Lib.hid (show ∀ W, PgI w b g Ca vs 0 W → _ from fun W h => h.num v (by rw [← hvs]; exact (show 0 < 4 by decide)) (by subst hvs; rfl) fv)
  have TV1 := Lib.hid (show ∀ W, PgI w b g Ca vs 1 W → _ from fun W h => h.num r (by rw [← hvs]; exact (show 1 < 4 by decide)) (by subst hvs; rfl) fr)
  have TV2 := Lib.hid (show ∀ W, PgI w b g Ca vs 2 W → _ from fun W h => h.whole (n : Int) (by rw [← hvs]; exact (show 2 < 4 by decide)) (by subst hvs; rfl) (by omega))
  have TV3 := Lib.hid (show ∀ W, PgI w b g Ca vs 3 W → _ from fun W h => h.wholeOr (k : Int) 2 (by rw [← hvs]; exact (show 3 < 4 by decide)) (by subst hvs; rfl) (by omega))
  rw [hvs] at HI
  clear ha hv hne hE hP hvs fv fr cSv cSr cL cZ cP cN cR hV0 hVn hCs cM cI cD cW fF cA
  go_enter Tryz.func103, Tryz.ntmps103
  go_wp2_with fail
  refine (TV0.out _ HI.out).mono ?_
  rintro e w1 ⟨rfl, hI⟩
  rw [fracV_is v]
  replace HI := Lib.hid hI
  clear hI
  go_wp2_with fail
  refine (TV1.out _ HI.out).mono ?_
  rintro e w2 ⟨rfl, hI⟩
  rw [fracV_is r]
  replace HI := Lib.hid hI
  clear hI
  go_wp2_with fail
  refine (TV2.out _ HI.out).mono ?_
  rintro e w3 ⟨rfl, hI⟩
  replace HI := Lib.hid hI
  clear hI
  go_wp2_with fail
  refine (TV3.out _ HI.out).mono ?_
  rintro e w4 ⟨rfl, hI⟩
  replace HI := Lib.hid hI
  clear hI
  have hq : Below w4.heap.size w4 (((w4.alloc (.cells #[.string (numS v), .string (denS v)] 24)).alloc (.cells #[.string (numS r), .string (denS r)] 24)).alloc (.cells #[.int .i64 (k : Int)] 3)) := (((Below.refl _ _).alloc (Nat.le_refl _) _).alloc (by simp only [World.size_alloc]; omega) _).alloc (by simp only [World.size_alloc]; omega) _
  have H3 := Lib.hid (show (((w4.alloc (.cells #[.string (numS v), .string (denS v)] 24)).alloc (.cells #[.string (numS r), .string (denS r)] 24)).alloc (.cells #[.int .i64 (k : Int)] 3)).heap[w4.heap.size]? = some (.cells #[.string (numS v), .string (denS v)] 24 (0, 0)) from new_keep (new_keep (heap_alloc_new w4 _)))
  have H4 := Lib.hid (show (((w4.alloc (.cells #[.string (numS v), .string (denS v)] 24)).alloc (.cells #[.string (numS r), .string (denS r)] 24)).alloc (.cells #[.int .i64 (k : Int)] 3)).heap[w4.heap.size + 1]? = some (.cells #[.string (numS r), .string (denS r)] 24 (0, 0)) from by
    have h := heap_alloc_new (w4.alloc (.cells #[.string (numS v), .string (denS v)] 24)) (.cells #[.string (numS r), .string (denS r)] 24)
    simp only [World.size_alloc] at h
    exact new_keep h)
  have H6 := Lib.hid (show (((w4.alloc (.cells #[.string (numS v), .string (denS v)] 24)).alloc (.cells #[.string (numS r), .string (denS r)] 24)).alloc (.cells #[.int .i64 (k : Int)] 3)).heap[w4.heap.size + 1 + 1]? = some (.cells #[.int .i64 (k : Int)] 3 (0, 0)) from by
    have h := heap_alloc_new ((w4.alloc (.cells #[.string (numS v), .string (denS v)] 24)).alloc (.cells #[.string (numS r), .string (denS r)] 24)) (.cells #[.int .i64 (k : Int)] 3)
    simp only [World.size_alloc] at h
    exact h)
  have L3 := Lib.hid (heap_lt HI.out.res)
  replace HI := Lib.hid (HI.out.step hq)
  obtain ⟨B3, hB3⟩ : ∃ B, w4.heap.size = B := ⟨_, rfl⟩
  obtain ⟨W1, hW1⟩ : ∃ Z, (((w4.alloc (.cells #[.string (numS v), .string (denS v)] 24)).alloc (.cells #[.string (numS r), .string (denS r)] 24)).alloc (.cells #[.int .i64 (k : Int)] 3)) = Z := ⟨_, rfl⟩
  rw [hW1] at H3 H4 H6 HI
  rw [hB3] at H3 H4 H6 L3
  have EW := Lib.hid hW1
  have EB := Lib.hid hB3
  clear hq hW1 hB3
  go_upto_region 2 with fail
  rw [EW.out, EB.out]
  go_wp2_with fail
  refine (y_within (n : Int) 1 600 _ (by omega) (by omega)).mono ?_
  rintro e w5 ⟨rfl, hws⟩
  replace hws := hws.symm
  subst hws
  have c60 := Lib.cell_of_heap H6.out 0
  go_wp2_with fail
  refine (y_within (k : Int) 0 10 _ (by omega) (by omega)).mono ?_
  rintro e w5 ⟨rfl, hws⟩
  replace hws := hws.symm
  subst hws
  clear c60
  obtain ⟨⟨x0, x1⟩, _⟩ := two_at H3.out
  go_wp2_with fail
  refine (QcSv.out _ HI.out.env).mono ?_
  rintro e w5 ⟨rfl, hq⟩
  replace H3 := Lib.hid (keep_block H3.out hq)
  replace H4 := Lib.hid (keep_block H4.out hq)
  replace H6 := Lib.hid (keep_block H6.out hq)
  replace HI := Lib.hid (HI.out.step hq)
  clear hq x0 x1
  obtain ⟨⟨x0, x1⟩, _⟩ := two_at H4.out
  go_wp2_with fail
  refine (QcSr.out _ HI.out.env).mono ?_
  rintro e w6 ⟨rfl, hq⟩
  replace H3 := Lib.hid (keep_block H3.out hq)
  replace H4 := Lib.hid (keep_block H4.out hq)
  replace H6 := Lib.hid (keep_block H6.out hq)
  replace HI := Lib.hid (HI.out.step hq)
  clear hq x0 x1
  have LT6 := Lib.hid (heap_lt H6.out)
  go_upto_region 7 with fail
  go_wp2_with fail
  have hok : okB 11 (planKs7 v r G S z0 pay npay P n B3) = true := by kernel_rfl
  have hna := noAny_of (ks := (planKs7 v r G S z0 pay npay P n B3)) (by kernel_rfl)
  have hla := lasts_of hna
  refine wp_region_facts_abs (row := none) (w := w6) 11 0 11 [] (planKs7 v r G S z0 pay npay P n B3) [some 37, some 38, some 39, some 40, some 41, some 42, some 43, some 44, some 45, some 8, none] [(7, .func (.func 210) #[] #[.pointer (some ⟨B3 + 1 + 1, 0, none⟩)]), (4, .pointer (some ⟨B3 + 1, 0, none⟩)), (5, .int .i64 (n : Int)), (3, .pointer (some ⟨B3, 0, none⟩))] 90 (by kernel_rfl) (by kernel_rfl) (by kernel_rfl) rfl rfl (by decide) rfl (by kernel_rfl) rfl (Nat.le_of_eq rfl) rfl ?ho [undef, undef, undef, undef, undef, undef, undef, undef, undef, undef, undef] ?h00 (Fs.start rfl rfl) ?hs ?hd
  case ho =>
    intro k x hk
    match k, hk with
    | 0, hk => have hk := Option.some.inj hk; subst hk; rfl
    | 1, hk => have hk := Option.some.inj hk; subst hk; rfl
    | 2, hk => have hk := Option.some.inj hk; subst hk; rfl
    | 3, hk => have hk := Option.some.inj hk; subst hk; rfl
    | _ + 4, hk => exact absurd hk (by simp)
  case h00 => simp only [putO, layL]
  case hs =>
    rintro A listed vs Wr hF hR i hi hun hpre
    obtain ⟨s0, s1, s2, s3, s4, s5, s6, s7, s8, s9, s10, hvs⟩ := exl_of 11 vs (fun l => vs = l) hF.len rfl
    subst hvs
    have hge := Nat.zero_le i
    rcases Nat.lt_or_ge i 5 with hi | hge
    · rcases Nat.lt_or_ge i 2 with hi | hge
      · rcases Nat.lt_or_ge i 1 with hi | hge
        · obtain rfl := eqi hi hge
          have ro7 : A.tmps[7]? = some (.func (.func 210) #[] #[.pointer (some ⟨B3 + 1 + 1, 0, none⟩)]) := hR.out 0 _ rfl
          refine step_of ⟨some 37, _, _, _, _, _⟩ rfl (fun K' hK => ?_)
          go_simp
          exact hK.out _ _ ⟨_, hF.pure hok hla hpre rfl (Below.refl _ _), rfl⟩
        obtain rfl := eqi hi hge
        have ro4 : A.tmps[4]? = some (.pointer (some ⟨B3 + 1, 0, none⟩)) := hR.out 1 _ rfl
        have hcc := (two_at (keep_block H4.out (below_none hF.low))).1
        have cH40 := hcc.1
        have cH41 := hcc.2
        clear hcc
        refine step_of ⟨some 38, _, _, _, _, _⟩ rfl (fun K' hK => ?_)
        go_simp
        exact hK.out _ _ ⟨_, hF.pure hok hla hpre rfl (Below.refl _ _), rfl⟩
      rcases Nat.lt_or_ge i 3 with hi | hge
      · obtain rfl := eqi hi hge
        have ro5 : A.tmps[5]? = some (.int .i64 (n : Int)) := hR.out 2 _ rfl
        refine step_of ⟨some 39, _, _, _, _, _⟩ rfl (fun K' hK => ?_)
        go_simp
        exact hK.out _ _ ⟨_, hF.pure hok hla hpre rfl (Below.refl _ _), rfl⟩
      rcases Nat.lt_or_ge i 4 with hi | hge
      · obtain rfl := eqi hi hge
        have p1 := hpre 1 (by kernel_rfl)
        have e1 : s1 = .agg #[.string (numS r), .string (denS r)] := hF.get 1 _ rfl (.inr p1)
        subst e1
        have r1 : A.tmps[38]? = some (.agg #[.string (numS r), .string (denS r)]) := hR.own 1 _ _ rfl rfl
        have p2 := hpre 2 (by kernel_rfl)
        have e2 : s2 = .int .i64 (n : Int) := hF.get 2 _ rfl (.inr p2)
        subst e2
        have r2 : A.tmps[39]? = some (.int .i64 (n : Int)) := hR.own 2 _ _ rfl rfl
        refine step_of ⟨some 40, _, _, _, _, _⟩ rfl (fun K' hK => ?_)
        go_simp
        go_at_call 74
        (with_reducible refine (QcL.out _ (HI.out.step (below_none hF.low)).env).mono ?_)
        rintro e Wq ⟨rfl, hq⟩
        exact hK.out _ _ ⟨_, hF.pure hok hla hpre rfl hq, rfl⟩
      obtain rfl := eqi hi hge
      have ro3 : A.tmps[3]? = some (.pointer (some ⟨B3, 0, none⟩)) := hR.out 3 _ rfl
      have hcc := (two_at (keep_block H3.out (below_none hF.low))).1
      have cH30 := hcc.1
      have cH31 := hcc.2
      clear hcc
      refine step_of ⟨some 41, _, _, _, _, _⟩ rfl (fun K' hK => ?_)
      go_simp
      exact hK.out _ _ ⟨_, hF.pure hok hla hpre rfl (Below.refl _ _), rfl⟩
    rcases Nat.lt_or_ge i 8 with hi | hge
    · rcases Nat.lt_or_ge i 6 with hi | hge
      · obtain rfl := eqi hi hge
        refine step_of ⟨some 42, _, _, _, _, _⟩ rfl (fun K' hK => ?_)
        go_simp
        go_at_call 7
        (with_reducible refine (QcZ.out _ (HI.out.step (below_none hF.low)).env).mono ?_)
        rintro e Wq ⟨rfl, hq⟩
        exact hK.out _ _ ⟨_, hF.pure hok hla hpre rfl hq, rfl⟩
      rcases Nat.lt_or_ge i 7 with hi | hge
      · obtain rfl := eqi hi hge
        have p3 := hpre 3 (by kernel_rfl)
        have e3 : s3 = .agg #[.string (numS r), .string (denS r), .string (numS G), .string (denS G), .string (numS S), .string (denS S)] := hF.get 3 _ rfl (.inr p3)
        subst e3
        have r3 : A.tmps[40]? = some (.agg #[.string (numS r), .string (denS r), .string (numS G), .string (denS G), .string (numS S), .string (denS S)]) := hR.own 3 _ _ rfl rfl
        have p4 := hpre 4 (by kernel_rfl)
        have e4 : s4 = .agg #[.string (numS v), .string (denS v)] := hF.get 4 _ rfl (.inr p4)
        subst e4
        have r4 : A.tmps[41]? = some (.agg #[.string (numS v), .string (denS v)]) := hR.own 4 _ _ rfl rfl
        have p5 := hpre 5 (by kernel_rfl)
        have e5 : s5 = .agg #[.string (numS z0), .string (denS z0)] := hF.get 5 _ rfl (.inr p5)
        subst e5
        have r5 : A.tmps[42]? = some (.agg #[.string (numS z0), .string (denS z0)]) := hR.own 5 _ _ rfl rfl
        refine step_of ⟨some 43, _, _, _, _, _⟩ rfl (fun K' hK => ?_)
        go_simp
        go_at_call 82
        (with_reducible refine (QcP.out _ (HI.out.step (below_none hF.low)).env).mono ?_)
        rintro e Wq ⟨rfl, hq⟩
        exact hK.out _ _ ⟨_, hF.pure hok hla hpre rfl hq, rfl⟩
      obtain rfl := eqi hi hge
      have p6 := hpre 6 (by kernel_rfl)
      have e6 : s6 = .agg #[.string (numS pay), .string (denS pay)] := hF.get 6 _ rfl (.inr p6)
      subst e6
      have r6 : A.tmps[43]? = some (.agg #[.string (numS pay), .string (denS pay)]) := hR.own 6 _ _ rfl rfl
      refine step_of ⟨some 44, _, _, _, _, _⟩ rfl (fun K' hK => ?_)
      go_simp
      go_at_call 77
      (with_reducible refine (QcN.out _ (HI.out.step (below_none hF.low)).env).mono ?_)
      rintro e Wq ⟨rfl, hq⟩
      exact hK.out _ _ ⟨_, hF.pure hok hla hpre rfl hq, rfl⟩
    rcases Nat.lt_or_ge i 9 with hi | hge
    · obtain rfl := eqi hi hge
      have p0 := hpre 0 (by kernel_rfl)
      have e0 : s0 = .func (.func 210) #[] #[.pointer (some ⟨B3 + 1 + 1, 0, none⟩)] := hF.get 0 _ rfl (.inr p0)
      subst e0
      have r0 : A.tmps[37]? = some (.func (.func 210) #[] #[.pointer (some ⟨B3 + 1 + 1, 0, none⟩)]) := hR.own 0 _ _ rfl rfl
      have p7 := hpre 7 (by kernel_rfl)
      have e7 : s7 = .agg #[.string (numS npay), .string (denS npay)] := hF.get 7 _ rfl (.inr p7)
      subst e7
      have r7 : A.tmps[44]? = some (.agg #[.string (numS npay), .string (denS npay)]) := hR.own 7 _ _ rfl rfl
      refine step_of ⟨some 45, _, _, _, _, _⟩ rfl (fun K' hK => ?_)
      go_simp
      go_at_call 210
      (with_reducible refine (QcR.out.on _ _ (keep_block H6.out (below_none hF.low)) (HI.out.step (below_none hF.low)).env).mono ?_)
      rintro e Wq ⟨rfl, hq⟩
      exact hK.out _ _ ⟨_, hF.pure hok hla hpre rfl hq, rfl⟩
    rcases Nat.lt_or_ge i 10 with hi | hge
    · obtain rfl := eqi hi hge
      refine step_of ⟨some 8, _, _, _, _, _⟩ rfl (fun K' hK => ?_)
      go_simp
      exact hK.out _ _ ⟨_, hF.box hok hla hpre hun rfl, rfl⟩
    obtain rfl := eqi hi hge
    have p9 := hpre 9 (by kernel_rfl)
    obtain ⟨G, eG, _, hGl, hGB⟩ : ∃ G, s9 = .pointer (some ⟨G, 0, none⟩) ∧ (∀ k, none = some k → G = k) ∧ w6.heap.size ≤ G ∧ Wr.heap[G]? = some (.cells (if listed.getD 10 false = true then #[.string (numS P), .string (denS P)] else #[.string { data := #[] }, .string { data := #[] }]) 24 (0, 0)) := hF.get 9 _ rfl (.inr p9)
    subst eG
    rw [if_neg (bit_off hun)] at hGB
    have HGB := Lib.hid hGB
    clear hGB
    have r9 : A.tmps[8]? = some (.pointer (some ⟨G, 0, none⟩)) := hR.own 9 _ _ rfl rfl
    have p8 := hpre 8 (by kernel_rfl)
    have e8 : s8 = .agg #[.string (numS P), .string (denS P)] := hF.get 8 _ rfl (.inr p8)
    subst e8
    have r8 : A.tmps[45]? = some (.agg #[.string (numS P), .string (denS P)]) := hR.own 8 _ _ rfl rfl
    obtain ⟨⟨y0, y1⟩, g0, g1⟩ := two_at HGB.out
    refine step_of ⟨none, _, _, _, _, _⟩ rfl (fun K' hK => ?_)
    go_simp
    exact hK.out _ _ ⟨undef, hF.put hok hna hpre hun rfl undef rfl (.inr p9) rfl (set2_at HGB.out (.string (numS P)) (.string (denS P))) (fun k hk => set2_other _ _ (.string (numS P)) (.string (denS P)) hk) (put2_below hGl _ (.string (numS P)) (.string (denS P))), rfl⟩
  case hd =>
    rintro listed vs W7 hF hall
    obtain ⟨s0, s1, s2, s3, s4, s5, s6, s7, s8, s9, s10, hvs⟩ := exl_of 11 vs (fun l => vs = l) hF.len rfl
    subst hvs
    obtain ⟨b8, e9, _, gq, k9⟩ : ∃ G, s9 = .pointer (some ⟨G, 0, none⟩) ∧ (∀ k, none = some k → G = k) ∧ _ ≤ G ∧ W7.heap[G]? = some (.cells (if listed.getD 10 false = true then #[.string (numS P), .string (denS P)] else #[.string { data := #[] }, .string { data := #[] }]) 24 (0, 0)) := hF.get 9 _ rfl (.inr (hall 9 (by decide)))
    subst e9
    rw [if_pos (hall 10 (by decide))] at k9
    have H8 := Lib.hid k9
    clear k9
    have ge8 := Lib.hid gq
    clear gq
    have hq := below_none hF.low
    replace H3 := Lib.hid (keep_block H3.out hq)
    replace H4 := Lib.hid (keep_block H4.out hq)
    replace H6 := Lib.hid (keep_block H6.out hq)
    replace HI := Lib.hid (HI.out.step hq)
    clear hq
    clear hF hall hok hla hna
    refine rest_end ?_
    simp only [putO, layL]
    have HPB := Lib.hid (show PbI w b g Ca vs B3 (B3 + 1) (B3 + 1 + 1) b8 (Vs 0) r P (k : Int) W7 from ⟨HI.out, by rw [QhV0.out]; exact H3.out, H4.out, H6.out, H8.out, L3.out, Nat.lt_succ_self _, Nat.lt_succ_self _, by have := LT6.out; have := ge8.out; omega⟩)
    have L8 := Lib.hid (heap_lt H8.out)
    have HRW := Lib.hid (show RwB W7 (.slice none 0 0) (itsL As Is Cs Ws 0) W7 from ⟨Nat.le_refl _, World.ownsRow_nil _ _ _ _⟩)
    clear H3 H4 H6 H8 HI L3 TV0 TV1 TV2 TV3
    go_wp2_with fail
    go_loopg [9, 10] n (fun gh v9 v10 wx => ∃ (j : Nat) (va : Value), va = v9 ∧ v10 = .int .i64 ((j : Int) + 1) ∧ j ≤ n ∧ gh = n - j ∧ PbI w b g Ca vs B3 (B3 + 1) (B3 + 1 + 1) b8 (Vs j) r P (k : Int) wx ∧ RwB W7 va (itsL As Is Cs Ws j) wx)
    case atStart => exact ⟨0, _, rfl, rfl, Nat.zero_le _, rfl, HPB.out, HRW.out⟩
    case round =>
      clear HPB HRW
      obtain ⟨j, va, rfl, rfl, hj, rfl, hpb, hrw⟩ := hrel
      have HPB := Lib.hid hpb
      have HRW := Lib.hid hrw
      clear hpb hrw
      by_cases hlt : j < n
      · skip
        have hd : decide ((j : Int) + 1 ≤ (n : Int)) = true := decide_eq_true (by omega)
        have hwj : IntKind.i64.wrap ((j : Int) + 1 + 1) = (j : Int) + 1 + 1 := IntWalk.i64_in _ (by omega)
        have TM := Lib.hid (QcM.out j hlt)
        have TI := Lib.hid (QcI.out j hlt)
        have TD := Lib.hid (QcD.out j hlt)
        have TW := Lib.hid (QcW.out j hlt)
        have TA := Lib.hid (QcA.out j hlt)
        have HCS := Lib.hid (QhCs.out j hlt)
        have HVN := Lib.hid (QhVn.out j hlt)
        obtain ⟨fa, fi, fc, fz⟩ := QfF.out j hlt
        have HTK := itsL_succ As Is Cs Ws j
        unfold rowL at HTK
        replace HTK := Lib.hid HTK
        obtain ⟨x, hx⟩ : ∃ x, Vs j = x := ⟨_, rfl⟩
        obtain ⟨m, hm⟩ : ∃ x, Ms j = x := ⟨_, rfl⟩
        obtain ⟨y, hy⟩ : ∃ x, Is j = x := ⟨_, rfl⟩
        obtain ⟨d, hdd⟩ : ∃ x, Ds j = x := ⟨_, rfl⟩
        obtain ⟨c, hc⟩ : ∃ x, Cs j = x := ⟨_, rfl⟩
        obtain ⟨z, hz⟩ : ∃ x, Ws j = x := ⟨_, rfl⟩
        obtain ⟨a, ha⟩ : ∃ x, As j = x := ⟨_, rfl⟩
        have HXI := Lib.hid hx
        rw [hx] at HPB TM TW HCS
        rw [hm] at TM TI
        rw [hy] at TI TD TA HTK fi
        rw [hdd] at TD HCS
        rw [hc] at TW TA HCS HTK fc
        rw [hz] at TW HVN HTK fz
        rw [ha] at TA HTK fa
        unfold Fun2 at TM TD TW TA
        have TNA := (fun W (g : EnvY W) => number_any a W fa g.e)
        have TNY := (fun W (g : EnvY W) => number_any y W fi g.e)
        have TNC := (fun W (g : EnvY W) => number_any c W fc g.e)
        have TNZ := (fun W (g : EnvY W) => number_any z W fz g.e)
        rw [fracV_is a, numVal_is a] at TNA
        rw [fracV_is y, numVal_is y] at TNY
        rw [fracV_is c, numVal_is c] at TNC
        rw [fracV_is z, numVal_is z] at TNZ
        replace TNA := Lib.hid TNA
        replace TNY := Lib.hid TNY
        replace TNC := Lib.hid TNC
        replace TNZ := Lib.hid TNZ
        have TN0 := (fun W (g : EnvY W) => whole_any ((j : Int) + 1) W (by omega) (by omega) g.e)
        obtain ⟨q0, hq0⟩ : ∃ q : Rat, ((((j : Int) + 1 : Int)) : Rat) = q := ⟨_, rfl⟩
        rw [show (((j + 1 : Nat) : Int) : Rat) = ((((j : Int) + 1 : Int)) : Rat) from rfl, hq0] at HTK
        rw [hq0, numVal_is q0] at TN0
        replace TN0 := Lib.hid TN0
        obtain ⟨L, hL⟩ : ∃ L, (itsL As Is Cs Ws j).length = L := ⟨_, rfl⟩
        have hL9 : L ≤ 200 := by rw [← hL, itsL_len]; omega
        have HLL := Lib.hid hL
        obtain ⟨its, hits⟩ : ∃ l, itsL As Is Cs Ws j = l := ⟨_, rfl⟩
        rw [hits] at HRW HLL HTK
        clear fa fi fc fz hx hm hy hdd hc hz ha hq0 hL hits
        obtain ⟨⟨x0, x1⟩, _⟩ := two_at HPB.out.h3
        obtain ⟨⟨y0, y1⟩, _⟩ := two_at HPB.out.h4
        go_wp2_with fail
        refine (TM.out _ HPB.out.arg.env).mono ?_
        rintro e w1 ⟨rfl, hq⟩
        replace HPB := Lib.hid (HPB.out.step hq)
        replace HRW := Lib.hid (HRW.out.step hq)
        clear hq x0 x1 y0 y1
        go_wp2_with fail
        refine (TI.out.on _ _ HPB.out.h6 HPB.out.arg.env).mono ?_
        rintro e w2 ⟨rfl, hq⟩
        replace HPB := Lib.hid (HPB.out.step hq)
        replace HRW := Lib.hid (HRW.out.step hq)
        clear hq
        have L11 := Lib.hid (show W7.heap.size ≤ w2.heap.size from HRW.out.size)
        have NO := Lib.hid (own_in HRW.out.own)
        have hq : Below w2.heap.size w2 (w2.alloc (.cells #[.string (numS y), .string (denS y)] 24)) := (Below.refl _ _).alloc (Nat.le_refl _) _
        replace HPB := Lib.hid (HPB.out.step hq)
        replace HRW := Lib.hid (HRW.out.step hq)
        have H11 := Lib.hid (heap_alloc_new w2 (.cells #[.string (numS y), .string (denS y)] 24))
        obtain ⟨B11, hB⟩ : ∃ B, w2.heap.size = B := ⟨_, rfl⟩
        obtain ⟨W3, hW⟩ : ∃ Z, w2.alloc (.cells #[.string (numS y), .string (denS y)] 24) = Z := ⟨_, rfl⟩
        rw [hW] at HPB HRW H11
        rw [hB] at H11
        have EW11 := Lib.hid hW
        have EB11 := Lib.hid hB
        clear hq hW hB
        go_upto_region 13 with fail
        rw [EW11.out, EB11.out]
        rw [EB11.out] at L11 NO
        obtain ⟨⟨x0, x1⟩, _⟩ := two_at HPB.out.h8
        obtain ⟨⟨y0, y1⟩, _⟩ := two_at H11.out
        go_wp2_with fail
        refine (TD.out _ HPB.out.arg.env).mono ?_
        rintro e w4 ⟨rfl, hq⟩
        replace HPB := Lib.hid (HPB.out.step hq)
        replace HRW := Lib.hid (HRW.out.step hq)
        replace H11 := Lib.hid (keep_block H11.out hq)
        clear hq x0 x1 y0 y1
        have L12 := Lib.hid (heap_lt H11.out)
        have hq : Below w4.heap.size w4 (w4.alloc (.cells #[.string (numS d), .string (denS d)] 24)) := (Below.refl _ _).alloc (Nat.le_refl _) _
        replace HPB := Lib.hid (HPB.out.step hq)
        replace HRW := Lib.hid (HRW.out.step hq)
        replace H11 := Lib.hid (keep_block H11.out hq)
        have H12 := Lib.hid (heap_alloc_new w4 (.cells #[.string (numS d), .string (denS d)] 24))
        obtain ⟨B12, hB⟩ : ∃ B, w4.heap.size = B := ⟨_, rfl⟩
        obtain ⟨W5, hW⟩ : ∃ Z, w4.alloc (.cells #[.string (numS d), .string (denS d)] 24) = Z := ⟨_, rfl⟩
        rw [hW] at HPB HRW H11 H12
        rw [hB] at H12
        have EW12 := Lib.hid hW
        have EB12 := Lib.hid hB
        clear hq hW hB
        go_upto_if 61 with fail
        rw [EW12.out, EB12.out]
        rw [EB12.out] at L12
        go_cut [] (fun wx => PbI w b g Ca vs B3 (B3 + 1) (B3 + 1 + 1) b8 x r P (k : Int) wx ∧ RwB W7 va its wx ∧ wx.heap[B11]? = some (.cells #[.string (numS y), .string (denS y)] 24 (0, 0)) ∧ wx.heap[B12]? = some (.cells #[.string (numS c), .string (denS c)] 24 (0, 0)))
        case first =>
          obtain ⟨⟨x0, x1⟩, _⟩ := two_at HPB.out.h3
          obtain ⟨⟨y0, y1⟩, f0, f1⟩ := two_at H12.out
          by_cases hl : j + 1 = n
          · have hb1 : ((j : Int) + 1 == (n : Int)) = true := by rw [beq_iff_eq]; omega
            have hb2 : decide ((j : Int) + 1 = (n : Int)) = true := decide_eq_true (by omega)
            have hcs := HCS.out
            rw [if_pos hl] at hcs
            have hg : W5.grownBy ((W5.setCell ⟨B12, 0, none⟩ (.string (numS x))).setCell ⟨B12, 1, none⟩ (.string (denS x))) (some B12) := only_setCell (p := ⟨B12, 1, none⟩) (only_setCell (p := ⟨B12, 0, none⟩) (kept_below (Below.refl _ _)) (.inl rfl) _) (.inl rfl) _
            have hne : ∀ q, va.ownBlock = some q → q ≠ B12 := fun q hq => Nat.ne_of_lt (Nat.lt_trans (NO.out q hq) L12.out)
            have hrel := Lib.hid (And.intro (HPB.out.kept hg (by have := L8.out; have := L11.out; have := L12.out; omega)) (And.intro (show RwB W7 va its _ from ⟨by rw [World.size_setCell, World.size_setCell]; exact HRW.out.size, ownsRow_setCell_other (ownsRow_setCell_other HRW.out.own (a := ⟨B12, 0, none⟩) (fun e => hne B12 e rfl) (.string (numS x))) (a := ⟨B12, 1, none⟩) (fun e => hne B12 e rfl) (.string (denS x))⟩) (And.intro (kept_block H11.out hg (Nat.ne_of_lt L12.out)) (set2_at H12.out (.string (numS x)) (.string (denS x))))))
            have HXC := Lib.hid hcs
            clear hg hne hl hcs
            go_wp2
            go_meet
            case rel =>
              rw [HXC.out]
              exact hrel.out
          · have hb1 : ((j : Int) + 1 == (n : Int)) = false := by rw [beq_eq_false_iff_ne]; omega
            have hb2 : decide ((j : Int) + 1 = (n : Int)) = false := decide_eq_false (by omega)
            have hcs := HCS.out
            rw [if_neg hl] at hcs
            have hrel := Lib.hid (And.intro HPB.out (And.intro HRW.out (And.intro H11.out H12.out)))
            have HXC := Lib.hid hcs
            clear hl hcs
            go_wp2
            go_meet
            case rel =>
              rw [HXC.out]
              exact hrel.out
        case rest =>
          obtain ⟨hpb, hrw, h11, h12⟩ := hcut
          replace HPB := Lib.hid hpb
          replace HRW := Lib.hid hrw
          replace H11 := Lib.hid h11
          replace H12 := Lib.hid h12
          clear hpb hrw h11 h12
          obtain ⟨⟨x0, x1⟩, _⟩ := two_at HPB.out.h3
          obtain ⟨⟨y0, y1⟩, _⟩ := two_at H12.out
          go_wp2_with fail
          refine (TW.out _ HPB.out.arg.env).mono ?_
          rintro e w6 ⟨rfl, hq⟩
          replace HPB := Lib.hid (HPB.out.step hq)
          replace HRW := Lib.hid (HRW.out.step hq)
          replace H11 := Lib.hid (keep_block H11.out hq)
          replace H12 := Lib.hid (keep_block H12.out hq)
          clear hq x0 x1 y0 y1
          obtain ⟨⟨x0, x1⟩, f0, f1⟩ := two_at HPB.out.h3
          have hB3 : B3 < W7.heap.size := by have := HPB.out.l4; have := HPB.out.l6; have := HPB.out.l8; have := L8.out; omega
          replace H11 := Lib.hid ((set2_other w6 B3 (.string (numS z)) (.string (denS z)) (show B11 ≠ B3 by have := L11.out; omega)).trans H11.out)
          replace H12 := Lib.hid ((set2_other w6 B3 (.string (numS z)) (.string (denS z)) (show B12 ≠ B3 by have := L11.out; have := L12.out; omega)).trans H12.out)
          replace HRW := Lib.hid (HRW.out.put B3 (.string (numS z)) (.string (denS z)) hB3)
          replace HPB := Lib.hid (HPB.out.put z)
          go_upto_region 17 with fail
          obtain ⟨W8, hW⟩ : ∃ Z, ((w6.setCell ⟨B3, 0, none⟩ (.string (numS z))).setCell ⟨B3, 1, none⟩ (.string (denS z))) = Z := ⟨_, rfl⟩
          rw [hW] at HPB HRW H11 H12 ⊢
          clear hW x0 x1 f0 f1 hB3
          go_wp2_with fail
          refine (TN0.out _ HPB.out.arg.env).mono ?_
          rintro e w9 ⟨rfl, hq⟩
          replace HPB := Lib.hid (HPB.out.step hq)
          replace HRW := Lib.hid (HRW.out.step hq)
          replace H11 := Lib.hid (keep_block H11.out hq)
          replace H12 := Lib.hid (keep_block H12.out hq)
          clear hq
          have hq : Below w9.heap.size w9 (w9.alloc (.cells #[.int .i64 1, .string (numS q0), .string (denS q0), .string { data := #[] }, .bool false, .int .i64 0, .int .i64 0, .int .i64 0, .slice none 0 0] 30)) := (Below.refl _ _).alloc (Nat.le_refl _) _
          have HNW := Lib.hid (World.news_of_block (cs := #[.int .i64 1, .string (numS q0), .string (denS q0), .string { data := #[] }, .bool false, .int .i64 0, .int .i64 0, .int .i64 0, .slice none 0 0]) (t := 30) (fr := (0, 0)) (heap_alloc_new w9 (.cells #[.int .i64 1, .string (numS q0), .string (denS q0), .string { data := #[] }, .bool false, .int .i64 0, .int .i64 0, .int .i64 0, .slice none 0 0] 30)))
          replace HPB := Lib.hid (HPB.out.step hq)
          replace HRW := Lib.hid (HRW.out.step hq)
          replace H11 := Lib.hid (keep_block H11.out hq)
          replace H12 := Lib.hid (keep_block H12.out hq)
          clear hq
          have hown := HRW.out.own
          rw [HLL.out] at hown
          obtain ⟨av, cv, hu⟩ := owns_form hown
          subst hu
          have HOW := Lib.hid hown
          have HBS := Lib.hid HRW.out.size
          have hml : L + 1 ≤ maxLen := by unfold maxLen; omega
          clear hown
          go_wp2_with (at_builtin; refine wpList_append_own _ rfl _ _ 28 rfl W7.heap.size 30 i0 _ 9 112 Tryz.underlying28 hi0' hz0 hz1 hz2 rfl (by decide) (.slice av (L) cv) (L) (flat (numVals (its))) rfl HOW.out ⟨w9.heap.size, 0, none⟩ 1 1 [.int .i64 1, .string (numS q0), .string (denS q0), .string { data := #[] }, .bool false, .int .i64 0, .int .i64 0, .int .i64 0, .slice none 0 0] rfl rfl HNW.out (by simp [Value.oneCell']) hml (by omega) HBS.out ?_)
          intro v5 w5 hown5 hgrow5 _
          have hpp := HPB.out.pushed HRW.out L8.out hgrow5
          have hrr : RwB W7 v5 (its ++ [q0]) w5 := HRW.out.push (by rw [HLL.out]; exact hown5) hgrow5
          replace H11 := Lib.hid ((hgrow5.block _ (heap_lt H11.out) (fun e => by have := NO.out _ e.symm; have := L12.out; omega)).trans H11.out)
          replace H12 := Lib.hid ((hgrow5.block _ (heap_lt H12.out) (fun e => by have := NO.out _ e.symm; have := L12.out; omega)).trans H12.out)
          replace HPB := Lib.hid hpp
          replace HRW := Lib.hid hrr
          clear hown5 hgrow5 HOW HNW HBS hpp hrr hml
          have H3 := Lib.hid HPB.out.h3
          go_upto_region 18 with fail
          go_wp2_with fail
          have hok : okB 8 (planKs18 a y c z B3 B11 B12) = true := by kernel_rfl
          have hna := noAny_of (ks := (planKs18 a y c z B3 B11 B12)) (by kernel_rfl)
          have hla := lasts_of hna
          refine wp_region_facts_abs (row := none) (w := w5) 8 0 8 [] (planKs18 a y c z B3 B11 B12) [some 71, some 72, some 73, some 74, some 75, some 76, some 77, some 78] [(12, .pointer (some ⟨B12, 0, none⟩)), (11, .pointer (some ⟨B11, 0, none⟩)), (3, .pointer (some ⟨B3, 0, none⟩))] 90 (by kernel_rfl) (by kernel_rfl) (by kernel_rfl) rfl rfl (by decide) rfl (by kernel_rfl) rfl (Nat.le_of_eq rfl) rfl ?ho [u71, u72, u73, u74, u75, u76, u77, u78] ?h00 (Fs.start rfl rfl) ?hs ?hd
          case ho =>
            intro k x hk
            match k, hk with
            | 0, hk => have hk := Option.some.inj hk; subst hk; rfl
            | 1, hk => have hk := Option.some.inj hk; subst hk; rfl
            | 2, hk => have hk := Option.some.inj hk; subst hk; rfl
            | _ + 3, hk => exact absurd hk (by simp)
          case h00 => simp only [putO, layL]
          case hs =>
            rintro A listed vs Wr hF hR i hi hun hpre
            obtain ⟨s0, s1, s2, s3, s4, s5, s6, s7, hvs⟩ := exl_of 8 vs (fun l => vs = l) hF.len rfl
            subst hvs
            have hge := Nat.zero_le i
            rcases Nat.lt_or_ge i 4 with hi | hge
            · rcases Nat.lt_or_ge i 2 with hi | hge
              · rcases Nat.lt_or_ge i 1 with hi | hge
                · obtain rfl := eqi hi hge
                  have ro12 : A.tmps[12]? = some (.pointer (some ⟨B12, 0, none⟩)) := hR.out 0 _ rfl
                  have hcc := (two_at (keep_block H12.out (below_none hF.low))).1
                  have cH120 := hcc.1
                  have cH121 := hcc.2
                  clear hcc
                  refine step_of ⟨some 71, _, _, _, _, _⟩ rfl (fun K' hK => ?_)
                  go_simp
                  exact hK.out _ _ ⟨_, hF.pure hok hla hpre rfl (Below.refl _ _), rfl⟩
                obtain rfl := eqi hi hge
                have ro11 : A.tmps[11]? = some (.pointer (some ⟨B11, 0, none⟩)) := hR.out 1 _ rfl
                have hcc := (two_at (keep_block H11.out (below_none hF.low))).1
                have cH110 := hcc.1
                have cH111 := hcc.2
                clear hcc
                refine step_of ⟨some 72, _, _, _, _, _⟩ rfl (fun K' hK => ?_)
                go_simp
                exact hK.out _ _ ⟨_, hF.pure hok hla hpre rfl (Below.refl _ _), rfl⟩
              rcases Nat.lt_or_ge i 3 with hi | hge
              · obtain rfl := eqi hi hge
                have p0 := hpre 0 (by kernel_rfl)
                have e0 : s0 = .agg #[.string (numS c), .string (denS c)] := hF.get 0 _ rfl (.inr p0)
                subst e0
                have r0 : A.tmps[71]? = some (.agg #[.string (numS c), .string (denS c)]) := hR.own 0 _ _ rfl rfl
                have p1 := hpre 1 (by kernel_rfl)
                have e1 : s1 = .agg #[.string (numS y), .string (denS y)] := hF.get 1 _ rfl (.inr p1)
                subst e1
                have r1 : A.tmps[72]? = some (.agg #[.string (numS y), .string (denS y)]) := hR.own 1 _ _ rfl rfl
                refine step_of ⟨some 73, _, _, _, _, _⟩ rfl (fun K' hK => ?_)
                go_simp
                go_at_call 79
                (with_reducible refine (TA.out _ (HPB.out.step (below_none hF.low)).arg.env).mono ?_)
                rintro e Wq ⟨rfl, hq⟩
                exact hK.out _ _ ⟨_, hF.pure hok hla hpre rfl hq, rfl⟩
              obtain rfl := eqi hi hge
              have ro11 : A.tmps[11]? = some (.pointer (some ⟨B11, 0, none⟩)) := hR.out 1 _ rfl
              have hcc := (two_at (keep_block H11.out (below_none hF.low))).1
              have cH110 := hcc.1
              have cH111 := hcc.2
              clear hcc
              refine step_of ⟨some 74, _, _, _, _, _⟩ rfl (fun K' hK => ?_)
              go_simp
              exact hK.out _ _ ⟨_, hF.pure hok hla hpre rfl (Below.refl _ _), rfl⟩
            rcases Nat.lt_or_ge i 6 with hi | hge
            · rcases Nat.lt_or_ge i 5 with hi | hge
              · obtain rfl := eqi hi hge
                have ro12 : A.tmps[12]? = some (.pointer (some ⟨B12, 0, none⟩)) := hR.out 0 _ rfl
                have hcc := (two_at (keep_block H12.out (below_none hF.low))).1
                have cH120 := hcc.1
                have cH121 := hcc.2
                clear hcc
                refine step_of ⟨some 75, _, _, _, _, _⟩ rfl (fun K' hK => ?_)
                go_simp
                exact hK.out _ _ ⟨_, hF.pure hok hla hpre rfl (Below.refl _ _), rfl⟩
              obtain rfl := eqi hi hge
              have ro3 : A.tmps[3]? = some (.pointer (some ⟨B3, 0, none⟩)) := hR.out 2 _ rfl
              have hcc := (two_at (keep_block H3.out (below_none hF.low))).1
              have cH30 := hcc.1
              have cH31 := hcc.2
              clear hcc
              refine step_of ⟨some 76, _, _, _, _, _⟩ rfl (fun K' hK => ?_)
              go_simp
              exact hK.out _ _ ⟨_, hF.pure hok hla hpre rfl (Below.refl _ _), rfl⟩
            rcases Nat.lt_or_ge i 7 with hi | hge
            · obtain rfl := eqi hi hge
              have p2 := hpre 2 (by kernel_rfl)
              have e2 : s2 = .agg #[.string (numS a), .string (denS a)] := hF.get 2 _ rfl (.inr p2)
              subst e2
              have r2 : A.tmps[73]? = some (.agg #[.string (numS a), .string (denS a)]) := hR.own 2 _ _ rfl rfl
              have p3 := hpre 3 (by kernel_rfl)
              have e3 : s3 = .agg #[.string (numS y), .string (denS y)] := hF.get 3 _ rfl (.inr p3)
              subst e3
              have r3 : A.tmps[74]? = some (.agg #[.string (numS y), .string (denS y)]) := hR.own 3 _ _ rfl rfl
              have p4 := hpre 4 (by kernel_rfl)
              have e4 : s4 = .agg #[.string (numS c), .string (denS c)] := hF.get 4 _ rfl (.inr p4)
              subst e4
              have r4 : A.tmps[75]? = some (.agg #[.string (numS c), .string (denS c)]) := hR.own 4 _ _ rfl rfl
              have p5 := hpre 5 (by kernel_rfl)
              have e5 : s5 = .agg #[.string (numS z), .string (denS z)] := hF.get 5 _ rfl (.inr p5)
              subst e5
              have r5 : A.tmps[76]? = some (.agg #[.string (numS z), .string (denS z)]) := hR.own 5 _ _ rfl rfl
              refine step_of ⟨some 77, _, _, _, _, _⟩ rfl (fun K' hK => ?_)
              go_simp
              exact hK.out _ _ ⟨_, hF.pure hok hla hpre rfl (Below.refl _ _), rfl⟩
            obtain rfl := eqi hi hge
            refine step_of ⟨some 78, _, _, _, _, _⟩ rfl (fun K' hK => ?_)
            go_simp
            exact hK.out _ _ ⟨_, hF.pure hok hla hpre rfl (Below.refl _ _), rfl⟩
          case hd =>
            rintro listed vs W18 hF hall
            obtain ⟨s0, s1, s2, s3, s4, s5, s6, s7, hvs⟩ := exl_of 8 vs (fun l => vs = l) hF.len rfl
            subst hvs
            have e6 : s6 = .agg #[.string (numS a), .string (denS a), .string (numS y), .string (denS y), .string (numS c), .string (denS c), .string (numS z), .string (denS z)] := hF.get 6 _ rfl (.inr (hall 6 (by decide)))
            subst e6
            have e7 : s7 = .int .i64 0 := hF.get 7 _ rfl (.inr (hall 7 (by decide)))
            subst e7
            have hq := below_none hF.low
            replace H3 := Lib.hid (keep_block H3.out hq)
            replace H11 := Lib.hid (keep_block H11.out hq)
            replace H12 := Lib.hid (keep_block H12.out hq)
            replace HPB := Lib.hid (HPB.out.step hq)
            replace HRW := Lib.hid (HRW.out.step hq)
            clear hq
            clear hF hall hok hla hna
            refine rest_end ?_
            simp only [putO, layL]
            clear H3 H11 H12 L11 L12 NO TM TI TD TW TA TN0 HCS
            go_wp2_with fail
            go_loopg [9, 78] 4 (fun gh v9 v78 wx => ∃ (t : Nat) (va : Value), va = v9 ∧ v78 = .int .i64 (t : Int) ∧ t ≤ 4 ∧ gh = 4 - t ∧ PbI w b g Ca vs B3 (B3 + 1) (B3 + 1 + 1) b8 z r P (k : Int) wx ∧ RwB W7 va (its ++ [q0] ++ [a, y, c, z].take t) wx)
            case atStart => exact ⟨0, _, rfl, rfl, Nat.zero_le _, rfl, HPB.out, by have := HRW.out; simpa using this⟩
            case round =>
              clear HPB HRW
              obtain ⟨t, va, rfl, rfl, ht, rfl, hpb, hrw⟩ := hrel
              have HPB := Lib.hid hpb
              have HRW := Lib.hid hrw
              clear hpb hrw
              rcases (show t = 0 ∨ t = 1 ∨ t = 2 ∨ t = 3 ∨ t = 4 by omega) with rfl | rfl | rfl | rfl | rfl
              · skip
                replace HRW := Lib.hid (show RwB W7 va (its ++ [q0]) _ from by have := HRW.out; simpa using this)
                have hwt : IntKind.i64.wrap ((0 : Int) + 1) = 1 := rfl
                have hq : Below wr.heap.size wr (wr.alloc (.cells #[.string (numS a), .string (denS a)] 24)) := (Below.refl _ _).alloc (Nat.le_refl _) _
                replace HPB := Lib.hid (HPB.out.step hq)
                replace HRW := Lib.hid (HRW.out.step hq)
                clear hq
                have hix : ∀ w, (Instr.index 163 (.agg #[.string (numS a), .string (denS a), .string (numS y), .string (denS y), .string (numS c), .string (denS c), .string (numS z), .string (denS z)]) (.int .i64 0)).run Tryz.prog w = .ok (.agg #[.string (numS a), .string (denS a)]) w := fun w => by kernel_rfl
                go_wp2_with fail
                have hlen : (its ++ [q0]).length = L + 1 := by simp [HLL.out]
                refine (TNA.out _ HPB.out.arg.env).mono ?_
                rintro e w9 ⟨rfl, hq⟩
                replace HPB := Lib.hid (HPB.out.step hq)
                replace HRW := Lib.hid (HRW.out.step hq)
                clear hq
                have hq : Below w9.heap.size w9 (w9.alloc (.cells #[.int .i64 1, .string (numS a), .string (denS a), .string { data := #[] }, .bool false, .int .i64 0, .int .i64 0, .int .i64 0, .slice none 0 0] 30)) := (Below.refl _ _).alloc (Nat.le_refl _) _
                have HNW := Lib.hid (World.news_of_block (cs := #[.int .i64 1, .string (numS a), .string (denS a), .string { data := #[] }, .bool false, .int .i64 0, .int .i64 0, .int .i64 0, .slice none 0 0]) (t := 30) (fr := (0, 0)) (heap_alloc_new w9 (.cells #[.int .i64 1, .string (numS a), .string (denS a), .string { data := #[] }, .bool false, .int .i64 0, .int .i64 0, .int .i64 0, .slice none 0 0] 30)))
                replace HPB := Lib.hid (HPB.out.step hq)
                replace HRW := Lib.hid (HRW.out.step hq)
                clear hq
                have hown := HRW.out.own
                rw [hlen] at hown
                obtain ⟨av, cv, hu⟩ := owns_form hown
                subst hu
                have HOW := Lib.hid hown
                have HBS := Lib.hid HRW.out.size
                have hml : L + 1 + 1 ≤ maxLen := by unfold maxLen; omega
                clear hown
                go_wp2_with (at_builtin; refine wpList_append_own _ rfl _ _ 28 rfl W7.heap.size 30 i0 _ 9 112 Tryz.underlying28 hi0' hz0 hz1 hz2 rfl (by decide) (.slice av (L + 1) cv) (L + 1) (flat (numVals (its ++ [q0]))) rfl HOW.out ⟨w9.heap.size, 0, none⟩ 1 1 [.int .i64 1, .string (numS a), .string (denS a), .string { data := #[] }, .bool false, .int .i64 0, .int .i64 0, .int .i64 0, .slice none 0 0] rfl rfl HNW.out (by simp [Value.oneCell']) hml (by omega) HBS.out ?_)
                intro v5 w5 hown5 hgrow5 _
                have hpp := HPB.out.pushed HRW.out L8.out hgrow5
                have hrr : RwB W7 v5 (its ++ [q0] ++ [a]) w5 := HRW.out.push (by rw [hlen]; exact hown5) hgrow5
                skip
                replace HPB := Lib.hid hpp
                replace HRW := Lib.hid hrr
                clear hown5 hgrow5 HOW HNW HBS hpp hrr hml
                replace HRW := Lib.hid (show RwB W7 v5 (its ++ [q0] ++ [a, y, c, z].take 1) _ from by
                  have := HRW.out
                  simpa using this)
                go_wp2
                go_roundg (4 - (0 + 1))
                case measure => omega
                case rel => exact ⟨0 + 1, _, rfl, by go_num, by omega, by omega, HPB.out, HRW.out⟩
              · skip
                replace HRW := Lib.hid (show RwB W7 va (its ++ [q0, a]) _ from by have := HRW.out; simpa using this)
                have hwt : IntKind.i64.wrap ((1 : Int) + 1) = 2 := rfl
                have hq : Below wr.heap.size wr (wr.alloc (.cells #[.string (numS y), .string (denS y)] 24)) := (Below.refl _ _).alloc (Nat.le_refl _) _
                replace HPB := Lib.hid (HPB.out.step hq)
                replace HRW := Lib.hid (HRW.out.step hq)
                clear hq
                have hix : ∀ w, (Instr.index 163 (.agg #[.string (numS a), .string (denS a), .string (numS y), .string (denS y), .string (numS c), .string (denS c), .string (numS z), .string (denS z)]) (.int .i64 1)).run Tryz.prog w = .ok (.agg #[.string (numS y), .string (denS y)]) w := fun w => by kernel_rfl
                go_wp2_with fail
                have hlen : (its ++ [q0, a]).length = L + 1 + 1 := by simp [HLL.out]
                refine (TNY.out _ HPB.out.arg.env).mono ?_
                rintro e w9 ⟨rfl, hq⟩
                replace HPB := Lib.hid (HPB.out.step hq)
                replace HRW := Lib.hid (HRW.out.step hq)
                clear hq
                have hq : Below w9.heap.size w9 (w9.alloc (.cells #[.int .i64 1, .string (numS y), .string (denS y), .string { data := #[] }, .bool false, .int .i64 0, .int .i64 0, .int .i64 0, .slice none 0 0] 30)) := (Below.refl _ _).alloc (Nat.le_refl _) _
                have HNW := Lib.hid (World.news_of_block (cs := #[.int .i64 1, .string (numS y), .string (denS y), .string { data := #[] }, .bool false, .int .i64 0, .int .i64 0, .int .i64 0, .slice none 0 0]) (t := 30) (fr := (0, 0)) (heap_alloc_new w9 (.cells #[.int .i64 1, .string (numS y), .string (denS y), .string { data := #[] }, .bool false, .int .i64 0, .int .i64 0, .int .i64 0, .slice none 0 0] 30)))
                replace HPB := Lib.hid (HPB.out.step hq)
                replace HRW := Lib.hid (HRW.out.step hq)
                clear hq
                have hown := HRW.out.own
                rw [hlen] at hown
                obtain ⟨av, cv, hu⟩ := owns_form hown
                subst hu
                have HOW := Lib.hid hown
                have HBS := Lib.hid HRW.out.size
                have hml : L + 1 + 1 + 1 ≤ maxLen := by unfold maxLen; omega
                clear hown
                go_wp2_with (at_builtin; refine wpList_append_own _ rfl _ _ 28 rfl W7.heap.size 30 i0 _ 9 112 Tryz.underlying28 hi0' hz0 hz1 hz2 rfl (by decide) (.slice av (L + 1 + 1) cv) (L + 1 + 1) (flat (numVals (its ++ [q0, a]))) rfl HOW.out ⟨w9.heap.size, 0, none⟩ 1 1 [.int .i64 1, .string (numS y), .string (denS y), .string { data := #[] }, .bool false, .int .i64 0, .int .i64 0, .int .i64 0, .slice none 0 0] rfl rfl HNW.out (by simp [Value.oneCell']) hml (by omega) HBS.out ?_)
                intro v5 w5 hown5 hgrow5 _
                have hpp := HPB.out.pushed HRW.out L8.out hgrow5
                have hrr : RwB W7 v5 (its ++ [q0, a] ++ [y]) w5 := HRW.out.push (by rw [hlen]; exact hown5) hgrow5
                skip
                replace HPB := Lib.hid hpp
                replace HRW := Lib.hid hrr
                clear hown5 hgrow5 HOW HNW HBS hpp hrr hml
                replace HRW := Lib.hid (show RwB W7 v5 (its ++ [q0] ++ [a, y, c, z].take 2) _ from by
                  have := HRW.out
                  simpa using this)
                go_wp2
                go_roundg (4 - (1 + 1))
                case measure => omega
                case rel => exact ⟨1 + 1, _, rfl, by go_num, by omega, by omega, HPB.out, HRW.out⟩
              · skip
                replace HRW := Lib.hid (show RwB W7 va (its ++ [q0, a, y]) _ from by have := HRW.out; simpa using this)
                have hwt : IntKind.i64.wrap ((2 : Int) + 1) = 3 := rfl
                have hq : Below wr.heap.size wr (wr.alloc (.cells #[.string (numS c), .string (denS c)] 24)) := (Below.refl _ _).alloc (Nat.le_refl _) _
                replace HPB := Lib.hid (HPB.out.step hq)
                replace HRW := Lib.hid (HRW.out.step hq)
                clear hq
                have hix : ∀ w, (Instr.index 163 (.agg #[.string (numS a), .string (denS a), .string (numS y), .string (denS y), .string (numS c), .string (denS c), .string (numS z), .string (denS z)]) (.int .i64 2)).run Tryz.prog w = .ok (.agg #[.string (numS c), .string (denS c)]) w := fun w => by kernel_rfl
                go_wp2_with fail
                have hlen : (its ++ [q0, a, y]).length = L + 1 + 2 := by simp [HLL.out]
                refine (TNC.out _ HPB.out.arg.env).mono ?_
                rintro e w9 ⟨rfl, hq⟩
                replace HPB := Lib.hid (HPB.out.step hq)
                replace HRW := Lib.hid (HRW.out.step hq)
                clear hq
                have hq : Below w9.heap.size w9 (w9.alloc (.cells #[.int .i64 1, .string (numS c), .string (denS c), .string { data := #[] }, .bool false, .int .i64 0, .int .i64 0, .int .i64 0, .slice none 0 0] 30)) := (Below.refl _ _).alloc (Nat.le_refl _) _
                have HNW := Lib.hid (World.news_of_block (cs := #[.int .i64 1, .string (numS c), .string (denS c), .string { data := #[] }, .bool false, .int .i64 0, .int .i64 0, .int .i64 0, .slice none 0 0]) (t := 30) (fr := (0, 0)) (heap_alloc_new w9 (.cells #[.int .i64 1, .string (numS c), .string (denS c), .string { data := #[] }, .bool false, .int .i64 0, .int .i64 0, .int .i64 0, .slice none 0 0] 30)))
                replace HPB := Lib.hid (HPB.out.step hq)
                replace HRW := Lib.hid (HRW.out.step hq)
                clear hq
                have hown := HRW.out.own
                rw [hlen] at hown
                obtain ⟨av, cv, hu⟩ := owns_form hown
                subst hu
                have HOW := Lib.hid hown
                have HBS := Lib.hid HRW.out.size
                have hml : L + 1 + 2 + 1 ≤ maxLen := by unfold maxLen; omega
                clear hown
                go_wp2_with (at_builtin; refine wpList_append_own _ rfl _ _ 28 rfl W7.heap.size 30 i0 _ 9 112 Tryz.underlying28 hi0' hz0 hz1 hz2 rfl (by decide) (.slice av (L + 1 + 2) cv) (L + 1 + 2) (flat (numVals (its ++ [q0, a, y]))) rfl HOW.out ⟨w9.heap.size, 0, none⟩ 1 1 [.int .i64 1, .string (numS c), .string (denS c), .string { data := #[] }, .bool false, .int .i64 0, .int .i64 0, .int .i64 0, .slice none 0 0] rfl rfl HNW.out (by simp [Value.oneCell']) hml (by omega) HBS.out ?_)
                intro v5 w5 hown5 hgrow5 _
                have hpp := HPB.out.pushed HRW.out L8.out hgrow5
                have hrr : RwB W7 v5 (its ++ [q0, a, y] ++ [c]) w5 := HRW.out.push (by rw [hlen]; exact hown5) hgrow5
                skip
                replace HPB := Lib.hid hpp
                replace HRW := Lib.hid hrr
                clear hown5 hgrow5 HOW HNW HBS hpp hrr hml
                replace HRW := Lib.hid (show RwB W7 v5 (its ++ [q0] ++ [a, y, c, z].take 3) _ from by
                  have := HRW.out
                  simpa using this)
                go_wp2
                go_roundg (4 - (2 + 1))
                case measure => omega
                case rel => exact ⟨2 + 1, _, rfl, by go_num, by omega, by omega, HPB.out, HRW.out⟩
              · skip
                replace HRW := Lib.hid (show RwB W7 va (its ++ [q0, a, y, c]) _ from by have := HRW.out; simpa using this)
                have hwt : IntKind.i64.wrap ((3 : Int) + 1) = 4 := rfl
                have hq : Below wr.heap.size wr (wr.alloc (.cells #[.string (numS z), .string (denS z)] 24)) := (Below.refl _ _).alloc (Nat.le_refl _) _
                replace HPB := Lib.hid (HPB.out.step hq)
                replace HRW := Lib.hid (HRW.out.step hq)
                clear hq
                have hix : ∀ w, (Instr.index 163 (.agg #[.string (numS a), .string (denS a), .string (numS y), .string (denS y), .string (numS c), .string (denS c), .string (numS z), .string (denS z)]) (.int .i64 3)).run Tryz.prog w = .ok (.agg #[.string (numS z), .string (denS z)]) w := fun w => by kernel_rfl
                go_wp2_with fail
                have hlen : (its ++ [q0, a, y, c]).length = L + 1 + 3 := by simp [HLL.out]
                refine (TNZ.out _ HPB.out.arg.env).mono ?_
                rintro e w9 ⟨rfl, hq⟩
                replace HPB := Lib.hid (HPB.out.step hq)
                replace HRW := Lib.hid (HRW.out.step hq)
                clear hq
                have hq : Below w9.heap.size w9 (w9.alloc (.cells #[.int .i64 1, .string (numS z), .string (denS z), .string { data := #[] }, .bool false, .int .i64 0, .int .i64 0, .int .i64 0, .slice none 0 0] 30)) := (Below.refl _ _).alloc (Nat.le_refl _) _
                have HNW := Lib.hid (World.news_of_block (cs := #[.int .i64 1, .string (numS z), .string (denS z), .string { data := #[] }, .bool false, .int .i64 0, .int .i64 0, .int .i64 0, .slice none 0 0]) (t := 30) (fr := (0, 0)) (heap_alloc_new w9 (.cells #[.int .i64 1, .string (numS z), .string (denS z), .string { data := #[] }, .bool false, .int .i64 0, .int .i64 0, .int .i64 0, .slice none 0 0] 30)))
                replace HPB := Lib.hid (HPB.out.step hq)
                replace HRW := Lib.hid (HRW.out.step hq)
                clear hq
                have hown := HRW.out.own
                rw [hlen] at hown
                obtain ⟨av, cv, hu⟩ := owns_form hown
                subst hu
                have HOW := Lib.hid hown
                have HBS := Lib.hid HRW.out.size
                have hml : L + 1 + 3 + 1 ≤ maxLen := by unfold maxLen; omega
                clear hown
                go_wp2_with (at_builtin; refine wpList_append_own _ rfl _ _ 28 rfl W7.heap.size 30 i0 _ 9 112 Tryz.underlying28 hi0' hz0 hz1 hz2 rfl (by decide) (.slice av (L + 1 + 3) cv) (L + 1 + 3) (flat (numVals (its ++ [q0, a, y, c]))) rfl HOW.out ⟨w9.heap.size, 0, none⟩ 1 1 [.int .i64 1, .string (numS z), .string (denS z), .string { data := #[] }, .bool false, .int .i64 0, .int .i64 0, .int .i64 0, .slice none 0 0] rfl rfl HNW.out (by simp [Value.oneCell']) hml (by omega) HBS.out ?_)
                intro v5 w5 hown5 hgrow5 _
                have hpp := HPB.out.pushed HRW.out L8.out hgrow5
                have hrr : RwB W7 v5 (its ++ [q0, a, y, c] ++ [z]) w5 := HRW.out.push (by rw [hlen]; exact hown5) hgrow5
                skip
                replace HPB := Lib.hid hpp
                replace HRW := Lib.hid hrr
                clear hown5 hgrow5 HOW HNW HBS hpp hrr hml
                replace HRW := Lib.hid (show RwB W7 v5 (its ++ [q0] ++ [a, y, c, z].take 4) _ from by
                  have := HRW.out
                  simpa using this)
                go_wp2
                go_roundg (4 - (3 + 1))
                case measure => omega
                case rel => exact ⟨3 + 1, _, rfl, by go_num, by omega, by omega, HPB.out, HRW.out⟩
              · skip
                replace HRW := Lib.hid (show RwB W7 va (itsL As Is Cs Ws (j + 1)) _ from by
                  have := HRW.out
                  rw [HTK.out]
                  rw [List.append_assoc] at this
                  exact this)
                rw [HVN.out] at HPB
                go_wp2
                go_roundg (n - (j + 1))
                case measure => omega
                case rel => exact ⟨j + 1, _, rfl, by go_num, by omega, by omega, HPB.out, HRW.out⟩
      · skip
        have hd : decide ((j : Int) + 1 ≤ (n : Int)) = false := decide_eq_false (by omega)
        have hjn : j = n := by omega
        subst hjn
        have hown := HRW.out.own
        rw [itsL_len] at hown
        obtain ⟨lg, cap, rfl, hlg, _, hva⟩ := vals_of_owns (vs := numVals (itsL As Is Cs Ws j)) hown (by rw [numVals_len, itsL_len]) (by omega)
        have HVA := Lib.hid hva
        have HLG := Lib.hid (show w.heap.size < lg by have := HPB.out.l3; have := HPB.out.l4; have := HPB.out.l6; have := HPB.out.l8; have := L8.out; omega)
        clear hown hlg hva hlt HRW
        go_wp2_with fail
        refine (vtab_any j 5 (some ⟨lg, 0, none⟩) (j * 5) cap _ (by omega) (by omega) (by decide) (by decide)).mono ?_
        rintro e w8 ⟨rfl, hb⟩
        replace HPB := Lib.hid (HPB.out.step hb)
        replace HVA := Lib.hid (HVA.out.below hb)
        clear hb
        have HRR := Lib.hid HPB.out.arg.res
        obtain ⟨⟨r0, r1, r2, r3, r4, r5, r6, r7, r8⟩, g0, g1, g2, g3, g4, g5, g6, g7, g8⟩ := nine_at HRR.out
        have HFI := Lib.hid (set9_at HRR.out (.int .i64 5) (.string { data := #[] }) (.string { data := #[] }) (.string { data := #[] }) (.bool false) (.int .i64 0) (.int .i64 (j : Int)) (.int .i64 5) (.slice (some ⟨lg, 0, none⟩) (j * 5) cap))
        have HG9 := Lib.hid (kept_set9 HPB.out.arg.low (Nat.le_refl _) (.int .i64 5) (.string { data := #[] }) (.string { data := #[] }) (.string { data := #[] }) (.bool false) (.int .i64 0) (.int .i64 (j : Int)) (.int .i64 5) (.slice (some ⟨lg, 0, none⟩) (j * 5) cap))
        have HVB := Lib.hid (vals_other HVA.out (set9_other w8 w.heap.size (.int .i64 5) (.string { data := #[] }) (.string { data := #[] }) (.string { data := #[] }) (.bool false) (.int .i64 0) (.int .i64 (j : Int)) (.int .i64 5) (.slice (some ⟨lg, 0, none⟩) (j * 5) cap) (show lg ≠ w.heap.size by have := HLG.out; omega)))
        obtain ⟨⟨z0, z1, z2, z3, z4, z5, z6, z7, z8⟩, _⟩ := nine_at HFI.out
        go_wp2
        refine bodyPost_ret (v := .agg #[.int .i64 5, .string { data := #[] }, .string { data := #[] }, .string { data := #[] }, .bool false, .int .i64 0, .int .i64 (j : Int), .int .i64 5, .slice (some ⟨lg, 0, none⟩) (j * 5) cap]) (by simp [results, Tryz.results103, go_sem, z0, z1, z2, z3, z4, z5, z6, z7, z8]) rfl ⟨lg, cap, rfl, HVB.out, by have := HLG.out; omega, HG9.out⟩
end Go.Proofs.YtkbhlkinlcmgoaaGreatDoor.Num.Fy

/- package fmoney: plan's rounding closure. Conditions: nothing is too long; the tables lie as they are laid. -/
namespace Go.Proofs.YtkbhlkinlcmgoaaGreatDoor.Num.Fy
open Go.RowKit Go.Lib Num

set_option maxHeartbeats 4000000 in
set_option maxRecDepth 100000 in
theorem rnd_of {k : Int} {q p : Rat} (hk : k.natAbs ≤ 100) (hq : fits q = true) (hp : fits p = true) (e : roundR q k = p) : RndC k q p := by
  intro W B hB hE
  obtain ⟨hx, hr, hb⟩ := two_new W (.cells #[.string (numS q), .string (denS q)] 24) (.cells #[.string { data := #[] }, .string { data := #[] }] 24)
  have HX := Lib.hid hx
  have HR := Lib.hid hr
  have HL := Lib.hid hb
  have HB := Lib.hid (keep_block hB hb)
  have HE := Lib.hid (hE.below hb)
  have TR := (fun W (g : EnvY W) => round_any q k W hq hk g.e.tab)
  rw [e, wroteV_ok hp, fracV_is q, fracV_is p] at TR
  replace TR := Lib.hid TR
  have TM := (fun W => must_ok p W)
  rw [fracV_is p] at TM
  replace TM := Lib.hid TM
  have b0 := Lib.cell_of_heap HB.out 0
  obtain ⟨⟨x0, x1⟩, _⟩ := two_at HX.out
  clear hx hr hb hB hE hq hp e hk
  go_enter Tryz.func210, Tryz.ntmps210
  go_wp2_with fail
  refine (TR.out _ HE.out).mono ?_
  rintro e w1 ⟨rfl, hq⟩
  replace HR := Lib.hid (keep_block HR.out hq)
  replace HL := Lib.hid (HL.out.trans (hq.mono HL.out.size))
  clear hq b0 x0 x1
  go_wp2_with fail
  refine (TM.out _).mono ?_
  rintro e w2 ⟨rfl, hq⟩
  replace HR := Lib.hid (keep_block HR.out hq)
  replace HL := Lib.hid (HL.out.trans (hq.mono HL.out.size))
  clear hq
  obtain ⟨⟨r0, r1⟩, g0, g1⟩ := two_at HR.out
  have HF := Lib.hid (set2_at HR.out (.string (numS p)) (.string (denS p)))
  have HG := Lib.hid ((HL.out.setCell (p := ⟨W.heap.size + 1, 0, none⟩) (Nat.le_succ _) (.string (numS p))).setCell (p := ⟨W.heap.size + 1, 1, none⟩) (Nat.le_succ _) (.string (denS p)))
  obtain ⟨⟨z0, z1⟩, _⟩ := two_at HF.out
  go_wp2
  refine bodyPost_ret (v := .agg #[.string (numS p), .string (denS p)]) (by simp [results, Tryz.results210, go_sem, z0, z1]) rfl ⟨rfl, HG.out⟩
end Go.Proofs.YtkbhlkinlcmgoaaGreatDoor.Num.Fy
