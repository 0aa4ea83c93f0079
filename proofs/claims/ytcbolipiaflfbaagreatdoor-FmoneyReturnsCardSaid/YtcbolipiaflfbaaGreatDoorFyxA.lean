/- Numbers as texts of digits, fractions, values and the functions of fmath: contracts of the program's functions, joined from smaller texts. Conditions stand at each theorem. -/
import Derived.Test.YtcbolipiaflfbaaGreatDoorFycB

/- The law FmoneyReturns' own walk: nothing comes back. Conditions: what the functions give; the tables lie as they are laid. -/
namespace Go.Proofs.YtcbolipiaflfbaaGreatDoor.Num.Fy
open Go.RowKit Go.Lib Num
attribute [local irreducible] wpOp
set_option linter.unusedVariables false in
/-- what the operations of region 5 yield -/
def RetnKs5 (z r : Int) (q : Rat) (B n cv : Nat) (cc : Int) (av : Option Addr) : List RK :=
  [.pure (.pointer (some ⟨B, 8, none⟩)),
   .pure (.slice av n cv),
   .pure (.int .i64 z),
   .pure (.int .i64 r),
   .pure (.agg #[.int .i64 1, .string (numS q), .string (denS q), .string { data := #[] }, .bool false, .int .i64 0, .int .i64 0, .int .i64 0, .slice none 0 0]),
   .pure (.int .i64 (n : Int)),
   .row #[.int .i64 0, .string { data := #[] }, .string { data := #[] }, .string { data := #[] }, .bool false, .int .i64 0, .int .i64 0, .int .i64 0, .slice none 0 0] 27 1,
   .put 0,
   .put 0,
   .put 0,
   .put 0,
   .put 0]
set_option linter.unusedVariables false in
/-- what the operations of region 10 yield -/
def RetnKs10 (ln g cap B : Nat) (v c : Int) (x tt sq zz : Rat) (w1 w2 : World) : List RK :=
  [.pure (.pointer (some ⟨B, 7, none⟩)),
   .pure (.int .i64 (ln : Int)),
   .pure (.bool false),
   .pure (.bool false),
   .pure (.agg #[.int .i64 5, .string { data := #[] }, .string { data := #[] }, .string { data := #[] }, .bool false, .int .i64 0, .int .i64 1, .int .i64 (ln : Int), .slice (some ⟨g, 0, none⟩) ln cap]),
   .pure (.pointer (some ⟨B, 8, none⟩)),
   .pure (.slice (some ⟨g, 0, none⟩) ln cap),
   .pure (.pointer (some ⟨g, 0, none⟩)),
   .pure (.agg #[.int .i64 1, .string (numS x), .string (denS x), .string { data := #[] }, .bool false, .int .i64 0, .int .i64 0, .int .i64 0, .slice none 0 0]),
   .row #[.int .i64 5, .string { data := #[] }, .string { data := #[] }, .string { data := #[] }, .bool false, .int .i64 0, .int .i64 1, .int .i64 (ln : Int), .slice (some ⟨g, 0, none⟩) ln cap, .int .i64 1, .string (numS x), .string (denS x), .string { data := #[] }, .bool false, .int .i64 0, .int .i64 0, .int .i64 0, .slice none 0 0] 27 2,
   .pure (.agg #[.int .i64 1, .string (numS sq), .string (denS sq), .string { data := #[] }, .bool false, .int .i64 0, .int .i64 0, .int .i64 0, .slice none 0 0]),
   .pure (.int .i64 1),
   .pure (.bool false),
   .pure (.bool false)]
set_option linter.unusedVariables false in
/-- what the operations of region 13 yield -/
def RetnKs13 (ln g cap B : Nat) (v c : Int) (x tt sq zz : Rat) (w1 w2 : World) : List RK :=
  [.pure (.agg #[.int .i64 1, .string (numS tt), .string (denS tt), .string { data := #[] }, .bool false, .int .i64 0, .int .i64 0, .int .i64 0, .slice none 0 0]),
   .pure (.agg #[.int .i64 1, .string (numS zz), .string (denS zz), .string { data := #[] }, .bool false, .int .i64 0, .int .i64 0, .int .i64 0, .slice none 0 0]),
   .pure (.tuple #[.int .i64 c, .int .i64 0]),
   .pure (.tuple #[.int .i64 c, .int .i64 0]),
   .pure (.int .i64 c),
   .pure (.int .i64 0),
   .pure (.int .i64 c),
   .pure (.int .i64 0)]
set_option linter.unusedSimpArgs false in
set_option linter.unusedVariables false in
set_option maxHeartbeats 16000000 in
set_option maxRecDepth 100000 in
theorem ret_none (A : Option Addr) (L C : Nat) (zs : List Int) (first m v c : Int) (x tt sq zz : Rat) (w : World) (hi : IntsIn w A L C zs) (hf0 : -9223372036854775808 ≤ first) (hf1 : first ≤ 9223372036854775807) (hm : first % 1000 = m) (hv : -1 - m = v) (hx : ((v : Int) : Rat) = x) (h0 : 0 < zs.length) (hc : c < 0) (hE : EnvY w)
    (rI : Row1 13 { data := #[73, 82, 82] } (v :: flowL zs) (v :: flowL zs).length (.agg #[.int .i64 4, .string { data := #[] }, .string { data := #[] }, .string { data := #[] }, .bool false, .int .i64 5, .int .i64 0, .int .i64 0, .slice none 0 0]))
    (rT : Row1 11 { data := #[83, 85, 77] } (v :: flowL zs) (v :: flowL zs).length (.agg #[.int .i64 1, .string (numS tt), .string (denS tt), .string { data := #[] }, .bool false, .int .i64 0, .int .i64 0, .int .i64 0, .slice none 0 0]))
    (rQ : Row2 11 { data := #[83, 85, 77, 83, 81] } (v :: flowL zs) (v :: flowL zs).length x (.agg #[.int .i64 1, .string (numS sq), .string (denS sq), .string { data := #[] }, .bool false, .int .i64 0, .int .i64 0, .int .i64 0, .slice none 0 0]))
    (tZ : Fun1 10 (.int .i64 0) (.agg #[.int .i64 1, .string (numS zz), .string (denS zz), .string { data := #[] }, .bool false, .int .i64 0, .int .i64 0, .int .i64 0, .slice none 0 0]))
    (tC : Fun2 14 (.agg #[.int .i64 1, .string (numS tt), .string (denS tt), .string { data := #[] }, .bool false, .int .i64 0, .int .i64 0, .int .i64 0, .slice none 0 0]) (.agg #[.int .i64 1, .string (numS zz), .string (denS zz), .string { data := #[] }, .bool false, .int .i64 0, .int .i64 0, .int .i64 0, .slice none 0 0]) (.tuple #[.int .i64 c, .int .i64 0])) :
    Calls Tryz.prog 4 #[.slice A L C, .int .i64 first] w fun e w' => e = .returned (.bool true) ∧ Below w.heap.size w w' := by
  have TM := Lib.hid (fun W => kmod_any first 1000 hf0 hf1 (by decide) (by decide) W)
  rw [hm] at TM
  have hm0 : 0 ≤ m ∧ m ≤ 999 := by omega
  have hv0 : -1000 ≤ v ∧ v ≤ -1 := by omega
  have hwv : IntKind.i64.wrap (-1 - m) = v := by rw [hv]; exact IntWalk.i64_in _ (by omega)
  have TN0 := Lib.hid (fun W (ge : EnvY W) => kwhole_any v W (by omega) (by omega) ge.e)
  rw [hx] at TN0
  rw [numVal_is x] at TN0
  have hL := hi.len
  have hLC := hi.cap
  have hLm := hi.max
  obtain ⟨cn, hcv⟩ : ∃ cn, (zs.take 8).length = cn := ⟨_, rfl⟩
  have hc8 : cn ≤ 8 := by rw [← hcv]; simp; omega
  have hcL : cn ≤ L := by rw [← hcv]; simp; omega
  have hmin : min (L : Int) 8 = (cn : Int) := by rw [← hcv]; simp; omega
  have HQ := Lib.hid (show ∀ (k : Nat) (hk : k < cn), ∃ h : k < zs.length, ∀ q, ((zs[k] % 500 : Int) : Rat) = q → flat (numVals (rats ((v :: flowL zs).take (1 + k + 1)))) = flat (numVals (rats ((v :: flowL zs).take (1 + k)))) ++ [.int .i64 1, .string (numS q), .string (denS q), .string { data := #[] }, .bool false, .int .i64 0, .int .i64 0, .int .i64 0, .slice none 0 0] from by
    intro k hk
    exact ⟨by omega, fun q hq => flow_flat v zs k (by omega) (by omega) q hq⟩)
  have HQL := Lib.hid (show (v :: flowL zs).length = 1 + cn by rw [List.length_cons, flowL_len, hcv]; omega)
  have HQ1 := Lib.hid (show rats ((v :: flowL zs).take (1 + 0)) = [x] by simp [rats, hx])
  have HFL := Lib.hid (fun k => flat_first (qs := rats ((v :: flowL zs).take (1 + k))) (by rw [rats_len, List.length_take, List.length_cons]; omega))
  have HI1 := Lib.hid hi.src
  have HZ := Lib.hid hi.rng
  have HXV := Lib.hid (show rats (v :: flowL zs) = x :: rats (flowL zs) by rw [← hx]; rfl)
  have hmf : ∀ (fn : Fn) (first cap : Array Value) (w : World), (Instr.makeFunc fn first cap).run Tryz.prog w = .ok (.func fn first cap) w := fun _ _ _ _ => rfl
  have hcn0 : 0 < cn := by rw [← hcv, List.length_take]; omega
  have QrI := Lib.hid rI
  have QrT := Lib.hid rT
  have QrQ := Lib.hid rQ
  have QtZ := Lib.hid tZ
  have QtC := Lib.hid tC
  unfold Fun1 at QtZ
  unfold Fun2 at QtC
  have HE := Lib.hid hE
  have HEW := Lib.hid hE
  have HL := Lib.hid (Below.refl w.heap.size w)
  have hdc : decide (c < 0) = true := decide_eq_true hc
  obtain ⟨i0, hi0', hz0, hz1, hz2⟩ := info_val
  clear hE hi hf0 hf1 hm hv hx hcv hL h0 hc rI rT rQ tZ tC
  go_enter Tryz.func4, Tryz.ntmps4
  go_wp2_with fail
  refine (TM.out _).mono ?_
  rintro e w1 ⟨rfl, hws⟩
  replace hws := hws.symm
  subst hws
  go_wp2_with fail
  (with_reducible refine (TN0.out _ HE.out).mono ?_)
  rintro e w3 ⟨rfl, hq⟩
  have HI := Lib.hid (RowX.start (w := w) (q := x) hq)
  obtain ⟨B, hB⟩ : ∃ B, w3.heap.size + 1 = B := ⟨_, rfl⟩
  obtain ⟨W4, hW4⟩ : ∃ W4, (w3.alloc (.cells #[.int .i64 1, .string (numS x), .string (denS x), .string { data := #[] }, .bool false, .int .i64 0, .int .i64 0, .int .i64 0, .slice none 0 0] 27)).alloc (.cells #[.int .i64 5, .string { data := #[] }, .string { data := #[] }, .string { data := #[] }, .bool false, .int .i64 0, .int .i64 1, .int .i64 1, .slice (some ⟨w3.heap.size, 0, none⟩) 1 1] 27) = W4 := ⟨_, rfl⟩
  rw [hW4, hB] at HI
  have EB := Lib.hid hB
  have EW := Lib.hid hW4
  clear hq hB hW4
  go_wp2_with fail
  rw [EW.out, EB.out]
  skip
  go_loopg [29] cn (fun gh v29 wx => ∃ (k : Nat) (cc : Int) (v' : Value), v29 = .int .i64 ((k : Nat) : Int) ∧ k ≤ cn ∧ gh = cn - k ∧ cc = 1 + (k : Int) ∧ RowX w B 1 cc v' v' (1 + k) (flat (numVals (rats ((v :: flowL zs).take (1 + k))))) wx)
  case atStart => exact ⟨0, 1, _, rfl, Nat.zero_le _, rfl, rfl, by rw [HQ1.out]; exact HI.out⟩
  case round =>
    clear HI EB EW HE HL
    obtain ⟨k, cc, v', rfl, hk, rfl, hcc, hti⟩ := hrel
    have HTI := Lib.hid hti
    by_cases hlt : k < cn
    · have hd : decide ((k : Int) < (cn : Int)) = true := decide_eq_true (by omega)
      have hd2 : decide (k < cn) = true := decide_eq_true hlt
      obtain ⟨hkn, htk⟩ := HQ.out k hlt
      obtain ⟨A', hA', hcame⟩ := HI1.out (by omega)
      subst hA'
      have hcell := cell_below (hcame k hkn) HTI.out.low
      obtain ⟨hb1, hb2⟩ := HZ.out _ (List.getElem_mem hkn)
      obtain ⟨z, hz⟩ : ∃ z, zs[k] = z := ⟨_, rfl⟩
      rw [hz] at hcell hb1 hb2 htk
      have TZ := Lib.hid (fun W => kmod_any z 500 hb1 hb2 (by decide) (by decide) W)
      obtain ⟨r, hr⟩ : ∃ r, z % 500 = r := ⟨_, rfl⟩
      rw [hr] at TZ htk
      have hr0 : 0 ≤ r ∧ r ≤ 499 := by omega
      have TN := Lib.hid (fun W (ge : EnvY W) => kwhole_any r W (by omega) (by omega) ge.e)
      have hwc : IntKind.i64.wrap (cc + 1) = cc + 1 := IntWalk.i64_in _ (by omega)
      obtain ⟨q, hq⟩ : ∃ q : Rat, ((r : Int) : Rat) = q := ⟨_, rfl⟩
      rw [hq] at TN
      rw [numVal_is q] at TN
      have HTK := Lib.hid (htk q hq)
      obtain ⟨xs, hxs⟩ : ∃ xs, flat (numVals (rats ((v :: flowL zs).take (1 + k)))) = xs := ⟨_, rfl⟩
      have HF0 := HFL.out k
      rw [hxs] at HTI HTK HF0
      obtain ⟨av, cv, hu⟩ := owns_form HTI.out.own
      subst hu
      have hi0 : (0 : Int) ≤ (k : Int) := by omega
      have hi1 : (k : Int) < (cn : Int) := by omega
      have hml : 1 + k + 1 ≤ maxLen := by unfold maxLen; omega
      have HCC := Lib.hid hcc
      have HF1 := Lib.hid HF0
      have HLN := Lib.hid HTI.out.len
      obtain ⟨n, hn⟩ : ∃ n, 1 + k = n := ⟨_, rfl⟩
      have HN := Lib.hid hn
      have hn9 : 1 ≤ n ∧ n ≤ 9 := by omega
      rw [hn] at HTI hml HLN
      have HE := Lib.hid (HEW.out.below HTI.out.low)
      have H5 := Lib.hid HTI.out.box
      clear hti hz hq hkn hr hcame hcc htk hb1 hb2 hxs HF0 hn
      go_upto_region 5 with fail
      clear hcell
      skip
      go_wp2_with fail
      have hok : okB 12 (RetnKs5 z r q B n cv cc av) = true := by kernel_rfl
      have hna := noAny_of (ks := (RetnKs5 z r q B n cv cc av)) (by kernel_rfl)
      have hla := lasts_of hna
      refine wp_region_facts_tail (row := none) (w := wr) 7 5 12 [7, 8, 9, 10, 11] (RetnKs5 z r q B n cv cc av) [some 33, some 34, some 35, some 36, some 37, some 38, some 39, some 40, some 41, none, some 42, none] (by kernel_rfl) (by kernel_rfl) (by kernel_rfl) rfl rfl (by decide) rfl [u33, u34, u35, u36, u37, u38, u39, u40, u41, undef, u42, undef] ?h00 (Fs.start rfl rfl) ?hs ?hd
      case h00 => simp only [putO, layL]
      case hs =>
        rintro listed vs Wr hF i hi hun hpre
        obtain ⟨s0, s1, s2, s3, s4, s5, s6, s7, s8, s9, s10, s11, hvs⟩ := exl_of 12 vs (fun l => vs = l) hF.len rfl
        subst hvs
        have hge := Nat.zero_le i
        simp only [putO, layL]
        rcases Nat.lt_or_ge i 3 with hlt | hgt
        · replace hi := hlt
          clear hlt
          rcases Nat.lt_or_ge i 1 with hlt | hgt
          · replace hi := hlt
            clear hlt
            obtain rfl := eqi hi hge
            refine step_of ⟨some 33, _, _, _, _, _⟩ rfl (fun K' hK => ?_)
            go_simp
            refine hK.out _ _ ⟨_, hF.pure hok hla hpre rfl (Below.refl _ _), ?fr⟩
            case fr => simp only [putO, layL]
          · replace hge : 1 ≤ i := hgt
            clear hgt
            rcases Nat.lt_or_ge i 2 with hlt | hgt
            · replace hi := hlt
              clear hlt
              obtain rfl := eqi hi hge
              have p0 := hpre 0 (by kernel_rfl)
              have e0 : s0 = .pointer (some ⟨B, 8, none⟩) := hF.get 0 _ rfl (.inr p0)
              subst e0
              have hcc := (nine_at (keep_block H5.out (below_none hF.low))).1
              have cH50 := hcc.1
              have cH51 := hcc.2.1
              have cH52 := hcc.2.2.1
              have cH53 := hcc.2.2.2.1
              have cH54 := hcc.2.2.2.2.1
              have cH55 := hcc.2.2.2.2.2.1
              have cH56 := hcc.2.2.2.2.2.2.1
              have cH57 := hcc.2.2.2.2.2.2.2.1
              have cH58 := hcc.2.2.2.2.2.2.2.2
              clear hcc
              refine step_of ⟨some 34, _, _, _, _, _⟩ rfl (fun K' hK => ?_)
              go_simp
              refine hK.out _ _ ⟨_, hF.pure hok hla hpre rfl (Below.refl _ _), ?fr⟩
              case fr => simp only [putO, layL]
            · replace hge : 2 ≤ i := hgt
              clear hgt
              obtain rfl := eqi hi hge
              refine step_of ⟨some 35, _, _, _, _, _⟩ rfl (fun K' hK => ?_)
              go_simp
              refine hK.out _ _ ⟨_, hF.pure hok hla hpre rfl (Below.refl _ _), ?fr⟩
              case fr => simp only [putO, layL]
        · replace hge : 3 ≤ i := hgt
          clear hgt
          rcases Nat.lt_or_ge i 5 with hlt | hgt
          · replace hi := hlt
            clear hlt
            rcases Nat.lt_or_ge i 4 with hlt | hgt
            · replace hi := hlt
              clear hlt
              obtain rfl := eqi hi hge
              have p2 := hpre 2 (by kernel_rfl)
              have e2 : s2 = .int .i64 z := hF.get 2 _ rfl (.inr p2)
              subst e2
              refine step_of ⟨some 36, _, _, _, _, _⟩ rfl (fun K' hK => ?_)
              go_simp
              go_at_call 9
              (with_reducible refine (TZ.out _).mono ?_)
              rintro e Wq ⟨rfl, hq⟩
              subst hq
              refine hK.out _ _ ⟨_, hF.pure hok hla hpre rfl (Below.refl _ _), ?fr⟩
              case fr => simp only [putO, layL]
            · replace hge : 4 ≤ i := hgt
              clear hgt
              obtain rfl := eqi hi hge
              have p3 := hpre 3 (by kernel_rfl)
              have e3 : s3 = .int .i64 r := hF.get 3 _ rfl (.inr p3)
              subst e3
              refine step_of ⟨some 37, _, _, _, _, _⟩ rfl (fun K' hK => ?_)
              go_simp
              go_at_call 10
              (with_reducible refine (TN.out _ (HE.out.below (below_none hF.low))).mono ?_)
              rintro e Wq ⟨rfl, hq⟩
              refine hK.out _ _ ⟨_, hF.pure hok hla hpre rfl hq, ?fr⟩
              case fr => simp only [putO, layL]
          · replace hge : 5 ≤ i := hgt
            clear hgt
            rcases Nat.lt_or_ge i 6 with hlt | hgt
            · replace hi := hlt
              clear hlt
              obtain rfl := eqi hi hge
              have p1 := hpre 1 (by kernel_rfl)
              have e1 : s1 = .slice av n cv := hF.get 1 _ rfl (.inr p1)
              subst e1
              refine step_of ⟨some 38, _, _, _, _, _⟩ rfl (fun K' hK => ?_)
              go_simp
              refine hK.out _ _ ⟨_, hF.pure hok hla hpre rfl (Below.refl _ _), ?fr⟩
              case fr => simp only [putO, layL]
            · replace hge : 6 ≤ i := hgt
              clear hgt
              obtain rfl := eqi hi hge
              refine step_of ⟨some 39, _, _, _, _, _⟩ rfl (fun K' hK => ?_)
              go_simp
              refine hK.out _ _ ⟨_, hF.row hok hla hpre rfl, ?fr⟩
              case fr => simp only [putO, layL]
      case hd =>
        rintro listed vs WA hF hall
        obtain ⟨s0, s1, s2, s3, s4, s5, s6, s7, s8, s9, s10, s11, hvs⟩ := exl_of 12 vs (fun l => vs = l) hF.len rfl
        subst hvs
        have e1 : s1 = .slice av n cv := hF.get 1 _ rfl (.inr (hall 1 (by decide)))
        subst e1
        have e4 : s4 = .agg #[.int .i64 1, .string (numS q), .string (denS q), .string { data := #[] }, .bool false, .int .i64 0, .int .i64 0, .int .i64 0, .slice none 0 0] := hF.get 4 _ rfl (.inr (hall 4 (by decide)))
        subst e4
        have e5 : s5 = .int .i64 (n : Int) := hF.get 5 _ rfl (.inr (hall 5 (by decide)))
        subst e5
        obtain ⟨G39, e6, _, k6⟩ : ∃ G, s6 = .slice (some ⟨G, 0, none⟩) 1 1 ∧ _ ≤ G ∧ WA.heap[G]? = some (.cells #[.int .i64 0, .string { data := #[] }, .string { data := #[] }, .string { data := #[] }, .bool false, .int .i64 0, .int .i64 0, .int .i64 0, .slice none 0 0] 27 (0, 0)) := hF.get 6 _ rfl (.inr (hall 6 (by decide)))
        subst e6
        have HR39 := Lib.hid k6
        clear k6
        have hq := below_none hF.low
        replace HE := Lib.hid (HE.out.below hq)
        replace HTI := Lib.hid (HTI.out.step hq)
        replace H5 := Lib.hid (keep_block H5.out hq)
        clear hq
        clear hF hall hok hna hla
        simp only [putO, layL]
        have HOW := Lib.hid HTI.out.own
        refine rest_one 7 ⟨some 40, _, _, _, _, _⟩ rfl (by kernel_rfl) rfl (fun K' hK => ?_)
        refine step_append_rowx rfl _ _ 25 rfl w.heap.size 27 i0 _ 9 112 Tryz.underlying25 hi0' hz0 hz1 hz2 rfl (by decide) (.slice av n cv) n xs (by simp [Act.eval, Act.put]) HOW.out ⟨G39, 0, none⟩ 1 1 [.int .i64 0, .string { data := #[] }, .string { data := #[] }, .string { data := #[] }, .bool false, .int .i64 0, .int .i64 0, .int .i64 0, .slice none 0 0] (by simp [Act.eval, Act.put]) rfl (World.news_of_block (cs := #[.int .i64 0, .string { data := #[] }, .string { data := #[] }, .string { data := #[] }, .bool false, .int .i64 0, .int .i64 0, .int .i64 0, .slice none 0 0]) (t := 27) (fr := (0, 0)) HR39.out) (by simp [Value.oneCell']) hml (by omega) HTI.out.low.size ?_
        intro v5 w5 hown5 hgrow5
        rcases hown5.2 with ⟨_, h0⟩ | ⟨g5, c5, _, rfl, _⟩
        · omega
        have HT5 := Lib.hid (HTI.out.push hown5 (by rw [List.getElem?_append_left (by rw [HLN.out]; omega)]; exact HF1.out) hgrow5)
        clear hown5 hgrow5 HTI HOW H5
        refine hK.out _ _ ?_
        have hj0 : (0 : Int) ≤ (n : Int) := by omega
        have hj1 : (n : Int) < ((n + 1 : Nat) : Int) := by omega
        have hj2 : (n : Int) < (n : Int) + 1 := by omega
        refine rest_two 8 10 ⟨some 41, _, _, _, _, _⟩ ⟨some 42, _, _, _, _, _⟩ rfl rfl (by kernel_rfl) rfl rfl (fun K' hK => ?_) (fun K' hK => ?_)
        · go_simp
          refine hK.out _ _ ?_
          refine rest_two 9 10 ⟨none, _, _, _, _, _⟩ ⟨some 42, _, _, _, _, _⟩ rfl rfl (by kernel_rfl) rfl rfl (fun K' hK => ?_) (fun K' hK => ?_)
          · obtain ⟨⟨x0, x1, x2, x3, x4, x5, x6, x7, x8⟩, y0, y1, y2, y3, y4, y5, y6, y7, y8⟩ := HT5.out.last HLN.out
            go_simp
            refine hK.out _ _ ?_
            clear x0 x1 x2 x3 x4 x5 x6 x7 x8 y0 y1 y2 y3 y4 y5 y6 y7 y8
            have hu := HT5.out.put HLN.out rfl (by have := HN.out; omega) (.int .i64 1) (.string (numS q)) (.string (denS q)) (.string { data := #[] }) (.bool false) (.int .i64 0) (.int .i64 0) (.int .i64 0) (.slice none 0 0)
            unfold put9 at hu
            rw [← HTK.out] at hu
            obtain ⟨WU1, hW⟩ : ∃ Z, (((((((((w5.setCell ⟨g5, n * 9, none⟩ (.int .i64 1)).setCell ⟨g5, n * 9 + 1, none⟩ (.string (numS q))).setCell ⟨g5, n * 9 + 2, none⟩ (.string (denS q))).setCell ⟨g5, n * 9 + 3, none⟩ (.string { data := #[] })).setCell ⟨g5, n * 9 + 4, none⟩ (.bool false)).setCell ⟨g5, n * 9 + 5, none⟩ (.int .i64 0)).setCell ⟨g5, n * 9 + 6, none⟩ (.int .i64 0)).setCell ⟨g5, n * 9 + 7, none⟩ (.int .i64 0)).setCell ⟨g5, n * 9 + 8, none⟩ (.slice none 0 0)) = Z := ⟨_, rfl⟩
            rw [hW] at hu ⊢
            have HU1 := Lib.hid hu
            clear hW hu
            refine rest_one 10 ⟨some 42, _, _, _, _, _⟩ rfl (by kernel_rfl) rfl (fun K' hK => ?_)
            go_simp
            refine hK.out _ _ ?_
            refine rest_one 11 ⟨none, _, _, _, _, _⟩ rfl (by kernel_rfl) rfl (fun K' hK => ?_)
            obtain ⟨⟨x0, x1, x2, x3, x4, x5, x6, x7, x8⟩, y0, y1, y2, y3, y4, y5, y6, y7, y8⟩ := nine_at HU1.out.box
            go_simp
            refine hK.out _ _ ?_
            clear x0 x1 x2 x3 x4 x5 x6 x7 x8 y0 y1 y2 y3 y4 y5 y6 y7 y8
            have hu := HU1.out.store
            obtain ⟨WU2, hW⟩ : ∃ Z, (WU1.setCell ⟨B, 8, none⟩ (.slice (some ⟨g5, 0, none⟩) (n + 1) c5)) = Z := ⟨_, rfl⟩
            rw [hW] at hu ⊢
            have HU2 := Lib.hid hu
            clear hW hu
            refine rest_end ?_
            have HV8 := Lib.hid (HU2.out.cols (c' := cc + 1))
            obtain ⟨⟨x0, x1, x2, x3, x4, x5, x6, x7, x8⟩, y0, y1, y2, y3, y4, y5, y6, y7, y8⟩ := nine_at HU2.out.box
            go_wp2
            go_roundg (cn - (k + 1))
            case measure => omega
            case rel => exact ⟨k + 1, cc + 1, _, by go_num, by omega, by omega, by have := HCC.out; omega, by rw [show 1 + (k + 1) = n + 1 by have := HN.out; omega, show (v :: flowL zs).take (n + 1) = (v :: flowL zs).take (1 + k + 1) by rw [HN.out]]; exact HV8.out⟩
          · go_simp
            refine hK.out _ _ ?_
            refine rest_two 9 11 ⟨none, _, _, _, _, _⟩ ⟨none, _, _, _, _, _⟩ rfl rfl (by kernel_rfl) rfl rfl (fun K' hK => ?_) (fun K' hK => ?_)
            · obtain ⟨⟨x0, x1, x2, x3, x4, x5, x6, x7, x8⟩, y0, y1, y2, y3, y4, y5, y6, y7, y8⟩ := HT5.out.last HLN.out
              go_simp
              refine hK.out _ _ ?_
              clear x0 x1 x2 x3 x4 x5 x6 x7 x8 y0 y1 y2 y3 y4 y5 y6 y7 y8
              have hu := HT5.out.put HLN.out rfl (by have := HN.out; omega) (.int .i64 1) (.string (numS q)) (.string (denS q)) (.string { data := #[] }) (.bool false) (.int .i64 0) (.int .i64 0) (.int .i64 0) (.slice none 0 0)
              unfold put9 at hu
              rw [← HTK.out] at hu
              obtain ⟨WU3, hW⟩ : ∃ Z, (((((((((w5.setCell ⟨g5, n * 9, none⟩ (.int .i64 1)).setCell ⟨g5, n * 9 + 1, none⟩ (.string (numS q))).setCell ⟨g5, n * 9 + 2, none⟩ (.string (denS q))).setCell ⟨g5, n * 9 + 3, none⟩ (.string { data := #[] })).setCell ⟨g5, n * 9 + 4, none⟩ (.bool false)).setCell ⟨g5, n * 9 + 5, none⟩ (.int .i64 0)).setCell ⟨g5, n * 9 + 6, none⟩ (.int .i64 0)).setCell ⟨g5, n * 9 + 7, none⟩ (.int .i64 0)).setCell ⟨g5, n * 9 + 8, none⟩ (.slice none 0 0)) = Z := ⟨_, rfl⟩
              rw [hW] at hu ⊢
              have HU3 := Lib.hid hu
              clear hW hu
              refine rest_one 11 ⟨none, _, _, _, _, _⟩ rfl (by kernel_rfl) rfl (fun K' hK => ?_)
              obtain ⟨⟨x0, x1, x2, x3, x4, x5, x6, x7, x8⟩, y0, y1, y2, y3, y4, y5, y6, y7, y8⟩ := nine_at HU3.out.box
              go_simp
              refine hK.out _ _ ?_
              clear x0 x1 x2 x3 x4 x5 x6 x7 x8 y0 y1 y2 y3 y4 y5 y6 y7 y8
              have hu := HU3.out.store
              obtain ⟨WU4, hW⟩ : ∃ Z, (WU3.setCell ⟨B, 8, none⟩ (.slice (some ⟨g5, 0, none⟩) (n + 1) c5)) = Z := ⟨_, rfl⟩
              rw [hW] at hu ⊢
              have HU4 := Lib.hid hu
              clear hW hu
              refine rest_end ?_
              have HV8 := Lib.hid (HU4.out.cols (c' := cc + 1))
              obtain ⟨⟨x0, x1, x2, x3, x4, x5, x6, x7, x8⟩, y0, y1, y2, y3, y4, y5, y6, y7, y8⟩ := nine_at HU4.out.box
              go_wp2
              go_roundg (cn - (k + 1))
              case measure => omega
              case rel => exact ⟨k + 1, cc + 1, _, by go_num, by omega, by omega, by have := HCC.out; omega, by rw [show 1 + (k + 1) = n + 1 by have := HN.out; omega, show (v :: flowL zs).take (n + 1) = (v :: flowL zs).take (1 + k + 1) by rw [HN.out]]; exact HV8.out⟩
            · obtain ⟨⟨x0, x1, x2, x3, x4, x5, x6, x7, x8⟩, y0, y1, y2, y3, y4, y5, y6, y7, y8⟩ := nine_at HT5.out.box
              go_simp
              refine hK.out _ _ ?_
              clear x0 x1 x2 x3 x4 x5 x6 x7 x8 y0 y1 y2 y3 y4 y5 y6 y7 y8
              have hu := HT5.out.store
              obtain ⟨WU5, hW⟩ : ∃ Z, (w5.setCell ⟨B, 8, none⟩ (.slice (some ⟨g5, 0, none⟩) (n + 1) c5)) = Z := ⟨_, rfl⟩
              rw [hW] at hu ⊢
              have HU5 := Lib.hid hu
              clear hW hu
              refine rest_one 9 ⟨none, _, _, _, _, _⟩ rfl (by kernel_rfl) rfl (fun K' hK => ?_)
              obtain ⟨⟨x0, x1, x2, x3, x4, x5, x6, x7, x8⟩, y0, y1, y2, y3, y4, y5, y6, y7, y8⟩ := HU5.out.last HLN.out
              go_simp
              refine hK.out _ _ ?_
              clear x0 x1 x2 x3 x4 x5 x6 x7 x8 y0 y1 y2 y3 y4 y5 y6 y7 y8
              have hu := HU5.out.put HLN.out rfl (by have := HN.out; omega) (.int .i64 1) (.string (numS q)) (.string (denS q)) (.string { data := #[] }) (.bool false) (.int .i64 0) (.int .i64 0) (.int .i64 0) (.slice none 0 0)
              unfold put9 at hu
              rw [← HTK.out] at hu
              obtain ⟨WU6, hW⟩ : ∃ Z, (((((((((WU5.setCell ⟨g5, n * 9, none⟩ (.int .i64 1)).setCell ⟨g5, n * 9 + 1, none⟩ (.string (numS q))).setCell ⟨g5, n * 9 + 2, none⟩ (.string (denS q))).setCell ⟨g5, n * 9 + 3, none⟩ (.string { data := #[] })).setCell ⟨g5, n * 9 + 4, none⟩ (.bool false)).setCell ⟨g5, n * 9 + 5, none⟩ (.int .i64 0)).setCell ⟨g5, n * 9 + 6, none⟩ (.int .i64 0)).setCell ⟨g5, n * 9 + 7, none⟩ (.int .i64 0)).setCell ⟨g5, n * 9 + 8, none⟩ (.slice none 0 0)) = Z := ⟨_, rfl⟩
              rw [hW] at hu ⊢
              have HU6 := Lib.hid hu
              clear hW hu
              refine rest_end ?_
              have HV8 := Lib.hid (HU6.out.cols (c' := cc + 1))
              obtain ⟨⟨x0, x1, x2, x3, x4, x5, x6, x7, x8⟩, y0, y1, y2, y3, y4, y5, y6, y7, y8⟩ := nine_at HU6.out.box
              go_wp2
              go_roundg (cn - (k + 1))
              case measure => omega
              case rel => exact ⟨k + 1, cc + 1, _, by go_num, by omega, by omega, by have := HCC.out; omega, by rw [show 1 + (k + 1) = n + 1 by have := HN.out; omega, show (v :: flowL zs).take (n + 1) = (v :: flowL zs).take (1 + k + 1) by rw [HN.out]]; exact HV8.out⟩
        · go_simp
          refine hK.out _ _ ?_
          refine rest_two 8 11 ⟨some 41, _, _, _, _, _⟩ ⟨none, _, _, _, _, _⟩ rfl rfl (by kernel_rfl) rfl rfl (fun K' hK => ?_) (fun K' hK => ?_)
          · go_simp
            refine hK.out _ _ ?_
            refine rest_two 9 11 ⟨none, _, _, _, _, _⟩ ⟨none, _, _, _, _, _⟩ rfl rfl (by kernel_rfl) rfl rfl (fun K' hK => ?_) (fun K' hK => ?_)
            · obtain ⟨⟨x0, x1, x2, x3, x4, x5, x6, x7, x8⟩, y0, y1, y2, y3, y4, y5, y6, y7, y8⟩ := HT5.out.last HLN.out
              go_simp
              refine hK.out _ _ ?_
              clear x0 x1 x2 x3 x4 x5 x6 x7 x8 y0 y1 y2 y3 y4 y5 y6 y7 y8
              have hu := HT5.out.put HLN.out rfl (by have := HN.out; omega) (.int .i64 1) (.string (numS q)) (.string (denS q)) (.string { data := #[] }) (.bool false) (.int .i64 0) (.int .i64 0) (.int .i64 0) (.slice none 0 0)
              unfold put9 at hu
              rw [← HTK.out] at hu
              obtain ⟨WU7, hW⟩ : ∃ Z, (((((((((w5.setCell ⟨g5, n * 9, none⟩ (.int .i64 1)).setCell ⟨g5, n * 9 + 1, none⟩ (.string (numS q))).setCell ⟨g5, n * 9 + 2, none⟩ (.string (denS q))).setCell ⟨g5, n * 9 + 3, none⟩ (.string { data := #[] })).setCell ⟨g5, n * 9 + 4, none⟩ (.bool false)).setCell ⟨g5, n * 9 + 5, none⟩ (.int .i64 0)).setCell ⟨g5, n * 9 + 6, none⟩ (.int .i64 0)).setCell ⟨g5, n * 9 + 7, none⟩ (.int .i64 0)).setCell ⟨g5, n * 9 + 8, none⟩ (.slice none 0 0)) = Z := ⟨_, rfl⟩
              rw [hW] at hu ⊢
              have HU7 := Lib.hid hu
              clear hW hu
              refine rest_one 11 ⟨none, _, _, _, _, _⟩ rfl (by kernel_rfl) rfl (fun K' hK => ?_)
              obtain ⟨⟨x0, x1, x2, x3, x4, x5, x6, x7, x8⟩, y0, y1, y2, y3, y4, y5, y6, y7, y8⟩ := nine_at HU7.out.box
              go_simp
              refine hK.out _ _ ?_
              clear x0 x1 x2 x3 x4 x5 x6 x7 x8 y0 y1 y2 y3 y4 y5 y6 y7 y8
              have hu := HU7.out.store
              obtain ⟨WU8, hW⟩ : ∃ Z, (WU7.setCell ⟨B, 8, none⟩ (.slice (some ⟨g5, 0, none⟩) (n + 1) c5)) = Z := ⟨_, rfl⟩
              rw [hW] at hu ⊢
              have HU8 := Lib.hid hu
              clear hW hu
              refine rest_end ?_
              have HV8 := Lib.hid (HU8.out.cols (c' := cc + 1))
              obtain ⟨⟨x0, x1, x2, x3, x4, x5, x6, x7, x8⟩, y0, y1, y2, y3, y4, y5, y6, y7, y8⟩ := nine_at HU8.out.box
              go_wp2
              go_roundg (cn - (k + 1))
              case measure => omega
              case rel => exact ⟨k + 1, cc + 1, _, by go_num, by omega, by omega, by have := HCC.out; omega, by rw [show 1 + (k + 1) = n + 1 by have := HN.out; omega, show (v :: flowL zs).take (n + 1) = (v :: flowL zs).take (1 + k + 1) by rw [HN.out]]; exact HV8.out⟩
            · obtain ⟨⟨x0, x1, x2, x3, x4, x5, x6, x7, x8⟩, y0, y1, y2, y3, y4, y5, y6, y7, y8⟩ := nine_at HT5.out.box
              go_simp
              refine hK.out _ _ ?_
              clear x0 x1 x2 x3 x4 x5 x6 x7 x8 y0 y1 y2 y3 y4 y5 y6 y7 y8
              have hu := HT5.out.store
              obtain ⟨WU9, hW⟩ : ∃ Z, (w5.setCell ⟨B, 8, none⟩ (.slice (some ⟨g5, 0, none⟩) (n + 1) c5)) = Z := ⟨_, rfl⟩
              rw [hW] at hu ⊢
              have HU9 := Lib.hid hu
              clear hW hu
              refine rest_one 9 ⟨none, _, _, _, _, _⟩ rfl (by kernel_rfl) rfl (fun K' hK => ?_)
              obtain ⟨⟨x0, x1, x2, x3, x4, x5, x6, x7, x8⟩, y0, y1, y2, y3, y4, y5, y6, y7, y8⟩ := HU9.out.last HLN.out
              go_simp
              refine hK.out _ _ ?_
              clear x0 x1 x2 x3 x4 x5 x6 x7 x8 y0 y1 y2 y3 y4 y5 y6 y7 y8
              have hu := HU9.out.put HLN.out rfl (by have := HN.out; omega) (.int .i64 1) (.string (numS q)) (.string (denS q)) (.string { data := #[] }) (.bool false) (.int .i64 0) (.int .i64 0) (.int .i64 0) (.slice none 0 0)
              unfold put9 at hu
              rw [← HTK.out] at hu
              obtain ⟨WU10, hW⟩ : ∃ Z, (((((((((WU9.setCell ⟨g5, n * 9, none⟩ (.int .i64 1)).setCell ⟨g5, n * 9 + 1, none⟩ (.string (numS q))).setCell ⟨g5, n * 9 + 2, none⟩ (.string (denS q))).setCell ⟨g5, n * 9 + 3, none⟩ (.string { data := #[] })).setCell ⟨g5, n * 9 + 4, none⟩ (.bool false)).setCell ⟨g5, n * 9 + 5, none⟩ (.int .i64 0)).setCell ⟨g5, n * 9 + 6, none⟩ (.int .i64 0)).setCell ⟨g5, n * 9 + 7, none⟩ (.int .i64 0)).setCell ⟨g5, n * 9 + 8, none⟩ (.slice none 0 0)) = Z := ⟨_, rfl⟩
              rw [hW] at hu ⊢
              have HU10 := Lib.hid hu
              clear hW hu
              refine rest_end ?_
              have HV8 := Lib.hid (HU10.out.cols (c' := cc + 1))
              obtain ⟨⟨x0, x1, x2, x3, x4, x5, x6, x7, x8⟩, y0, y1, y2, y3, y4, y5, y6, y7, y8⟩ := nine_at HU10.out.box
              go_wp2
              go_roundg (cn - (k + 1))
              case measure => omega
              case rel => exact ⟨k + 1, cc + 1, _, by go_num, by omega, by omega, by have := HCC.out; omega, by rw [show 1 + (k + 1) = n + 1 by have := HN.out; omega, show (v :: flowL zs).take (n + 1) = (v :: flowL zs).take (1 + k + 1) by rw [HN.out]]; exact HV8.out⟩
          · obtain ⟨⟨x0, x1, x2, x3, x4, x5, x6, x7, x8⟩, y0, y1, y2, y3, y4, y5, y6, y7, y8⟩ := nine_at HT5.out.box
            go_simp
            refine hK.out _ _ ?_
            clear x0 x1 x2 x3 x4 x5 x6 x7 x8 y0 y1 y2 y3 y4 y5 y6 y7 y8
            have hu := HT5.out.store
            obtain ⟨WU11, hW⟩ : ∃ Z, (w5.setCell ⟨B, 8, none⟩ (.slice (some ⟨g5, 0, none⟩) (n + 1) c5)) = Z := ⟨_, rfl⟩
            rw [hW] at hu ⊢
            have HU11 := Lib.hid hu
            clear hW hu
            refine rest_one 8 ⟨some 41, _, _, _, _, _⟩ rfl (by kernel_rfl) rfl (fun K' hK => ?_)
            go_simp
            refine hK.out _ _ ?_
            refine rest_one 9 ⟨none, _, _, _, _, _⟩ rfl (by kernel_rfl) rfl (fun K' hK => ?_)
            obtain ⟨⟨x0, x1, x2, x3, x4, x5, x6, x7, x8⟩, y0, y1, y2, y3, y4, y5, y6, y7, y8⟩ := HU11.out.last HLN.out
            go_simp
            refine hK.out _ _ ?_
            clear x0 x1 x2 x3 x4 x5 x6 x7 x8 y0 y1 y2 y3 y4 y5 y6 y7 y8
            have hu := HU11.out.put HLN.out rfl (by have := HN.out; omega) (.int .i64 1) (.string (numS q)) (.string (denS q)) (.string { data := #[] }) (.bool false) (.int .i64 0) (.int .i64 0) (.int .i64 0) (.slice none 0 0)
            unfold put9 at hu
            rw [← HTK.out] at hu
            obtain ⟨WU12, hW⟩ : ∃ Z, (((((((((WU11.setCell ⟨g5, n * 9, none⟩ (.int .i64 1)).setCell ⟨g5, n * 9 + 1, none⟩ (.string (numS q))).setCell ⟨g5, n * 9 + 2, none⟩ (.string (denS q))).setCell ⟨g5, n * 9 + 3, none⟩ (.string { data := #[] })).setCell ⟨g5, n * 9 + 4, none⟩ (.bool false)).setCell ⟨g5, n * 9 + 5, none⟩ (.int .i64 0)).setCell ⟨g5, n * 9 + 6, none⟩ (.int .i64 0)).setCell ⟨g5, n * 9 + 7, none⟩ (.int .i64 0)).setCell ⟨g5, n * 9 + 8, none⟩ (.slice none 0 0)) = Z := ⟨_, rfl⟩
            rw [hW] at hu ⊢
            have HU12 := Lib.hid hu
            clear hW hu
            refine rest_end ?_
            have HV8 := Lib.hid (HU12.out.cols (c' := cc + 1))
            obtain ⟨⟨x0, x1, x2, x3, x4, x5, x6, x7, x8⟩, y0, y1, y2, y3, y4, y5, y6, y7, y8⟩ := nine_at HU12.out.box
            go_wp2
            go_roundg (cn - (k + 1))
            case measure => omega
            case rel => exact ⟨k + 1, cc + 1, _, by go_num, by omega, by omega, by have := HCC.out; omega, by rw [show 1 + (k + 1) = n + 1 by have := HN.out; omega, show (v :: flowL zs).take (n + 1) = (v :: flowL zs).take (1 + k + 1) by rw [HN.out]]; exact HV8.out⟩
    · have hd : decide ((k : Int) < (cn : Int)) = false := decide_eq_false (by omega)
      have hd2 : decide (k < cn) = false := decide_eq_false hlt
      have hkL : k = cn := by omega
      have hall : (v :: flowL zs).take (1 + k) = v :: flowL zs := by rw [hkL, ← HQL.out, List.take_length]
      rw [hall] at hti
      obtain ⟨g, cap, hv, hg, hcap, hva⟩ := hti.vals (by rw [rats_len, HQL.out]; omega) (by omega)
      subst hv
      obtain ⟨ln, hln⟩ : ∃ ln, (v :: flowL zs).length = ln := ⟨_, rfl⟩
      have hcl : cc = (ln : Int) := by rw [← hln, HQL.out, hcc, hkL]; omega
      have hnl : 1 + k = ln := by rw [← hln, HQL.out, hkL]
      subst hcl
      rw [hnl] at hti hcap
      have hl1 : ((ln : Int) == 1) = false := by simp; omega
      have hl2 : (ln == 1) = false := by simp; omega
      have hg0 : (0 : Int) < (ln : Int) := by omega
      have hgN : 0 < ln := by omega
      have HV := Lib.hid hva
      have H5 := Lib.hid hti.box
      have HL := Lib.hid hti.low
      have HE := Lib.hid (HEW.out.below hti.low)
      rw [hln] at QrI QrT QrQ
      clear hti HTI hall hkL hlt hva hcc hk HQL HQ HQ1 HI1 HZ HEW HFL
      obtain ⟨⟨lH50, lH51, lH52, lH53, lH54, lH55, lH56, lH57, lH58⟩, _⟩ := nine_at H5.out
      go_wp2_with fail
      (with_reducible refine (Row1.at QrI.out _ _ _ HV.out HE.out).mono ?_)
      rintro e w1 ⟨rfl, hq⟩
      replace HE := Lib.hid (HE.out.below hq)
      replace HL := Lib.hid (HL.out.trans (hq.mono HL.out.size))
      replace H5 := Lib.hid (keep_block H5.out hq)
      replace HV := Lib.hid (HV.out.below hq)
      clear hq
      clear lH50 lH51 lH52 lH53 lH54 lH55 lH56 lH57 lH58
      have hq : Below w1.heap.size w1 (w1.alloc (.cells #[.int .i64 4, .string { data := #[] }, .string { data := #[] }, .string { data := #[] }, .bool false, .int .i64 5, .int .i64 0, .int .i64 0, .slice none 0 0] 27)) := ((Below.refl _ _).alloc (Nat.le_refl _) _)
      replace HE := Lib.hid (HE.out.below hq)
      replace HL := Lib.hid (HL.out.trans (hq.mono HL.out.size))
      replace H5 := Lib.hid (keep_block H5.out hq)
      replace HV := Lib.hid (HV.out.below hq)
      have H8 : Hid ((w1.alloc (.cells #[.int .i64 4, .string { data := #[] }, .string { data := #[] }, .string { data := #[] }, .bool false, .int .i64 5, .int .i64 0, .int .i64 0, .slice none 0 0] 27)).heap[w1.heap.size]? = some (.cells #[.int .i64 4, .string { data := #[] }, .string { data := #[] }, .string { data := #[] }, .bool false, .int .i64 5, .int .i64 0, .int .i64 0, .slice none 0 0] 27 (0, 0))) := Lib.hid (by
        have h := heap_alloc_new w1 (.cells #[.int .i64 4, .string { data := #[] }, .string { data := #[] }, .string { data := #[] }, .bool false, .int .i64 5, .int .i64 0, .int .i64 0, .slice none 0 0] 27)
        exact h)
      clear hq
      obtain ⟨WL2, hWL2⟩ : ∃ Z, (w1.alloc (.cells #[.int .i64 4, .string { data := #[] }, .string { data := #[] }, .string { data := #[] }, .bool false, .int .i64 5, .int .i64 0, .int .i64 0, .slice none 0 0] 27)) = Z := ⟨_, rfl⟩
      rw [hWL2] at HE HL H5 H8 HV
      have EWL2 := Lib.hid hWL2
      clear hWL2
      have SWL2 : Hid (w1.heap.size + 1 = WL2.heap.size) := Lib.hid (by rw [← EWL2.out]; simp only [World.size_alloc])
      have hld := H5.out
      rw [← EWL2.out] at hld
      obtain ⟨⟨lH50, lH51, lH52, lH53, lH54, lH55, lH56, lH57, lH58⟩, _⟩ := nine_at hld
      clear hld
      go_wp2_with fail
      rw [EWL2.out]
      rw [SWL2.out]
      (with_reducible refine (Row1.at QrT.out _ _ _ HV.out HE.out).mono ?_)
      rintro e w2 ⟨rfl, hq⟩
      replace HE := Lib.hid (HE.out.below hq)
      replace HL := Lib.hid (HL.out.trans (hq.mono HL.out.size))
      replace H5 := Lib.hid (keep_block H5.out hq)
      replace H8 := Lib.hid (keep_block H8.out hq)
      replace HV := Lib.hid (HV.out.below hq)
      clear hq
      clear lH50 lH51 lH52 lH53 lH54 lH55 lH56 lH57 lH58
      have hq : Below w2.heap.size w2 (w2.alloc (.cells #[.int .i64 1, .string (numS tt), .string (denS tt), .string { data := #[] }, .bool false, .int .i64 0, .int .i64 0, .int .i64 0, .slice none 0 0] 27)) := ((Below.refl _ _).alloc (Nat.le_refl _) _)
      replace HE := Lib.hid (HE.out.below hq)
      replace HL := Lib.hid (HL.out.trans (hq.mono HL.out.size))
      replace H5 := Lib.hid (keep_block H5.out hq)
      replace H8 := Lib.hid (keep_block H8.out hq)
      replace HV := Lib.hid (HV.out.below hq)
      have H9 : Hid ((w2.alloc (.cells #[.int .i64 1, .string (numS tt), .string (denS tt), .string { data := #[] }, .bool false, .int .i64 0, .int .i64 0, .int .i64 0, .slice none 0 0] 27)).heap[w2.heap.size]? = some (.cells #[.int .i64 1, .string (numS tt), .string (denS tt), .string { data := #[] }, .bool false, .int .i64 0, .int .i64 0, .int .i64 0, .slice none 0 0] 27 (0, 0))) := Lib.hid (by
        have h := heap_alloc_new w2 (.cells #[.int .i64 1, .string (numS tt), .string (denS tt), .string { data := #[] }, .bool false, .int .i64 0, .int .i64 0, .int .i64 0, .slice none 0 0] 27)
        exact h)
      clear hq
      obtain ⟨WL3, hWL3⟩ : ∃ Z, (w2.alloc (.cells #[.int .i64 1, .string (numS tt), .string (denS tt), .string { data := #[] }, .bool false, .int .i64 0, .int .i64 0, .int .i64 0, .slice none 0 0] 27)) = Z := ⟨_, rfl⟩
      rw [hWL3] at HE HL H5 H8 H9 HV
      have EWL3 := Lib.hid hWL3
      clear hWL3
      have SWL3 : Hid (w2.heap.size + 1 = WL3.heap.size) := Lib.hid (by rw [← EWL3.out]; simp only [World.size_alloc])
      have hf1 : ∀ w : World, (Instr.field 27 (.agg #[.int .i64 1, .string (numS sq), .string (denS sq), .string { data := #[] }, .bool false, .int .i64 0, .int .i64 0, .int .i64 0, .slice none 0 0]) 0).run Tryz.prog w = .ok (.int .i64 1) w := fun _ => by kernel_rfl
      go_wp2_with fail
      rw [EWL3.out]
      have hok : okB 14 (RetnKs10 ln g cap B v c x tt sq zz w1 w2) = true := by kernel_rfl
      have hna := noAny_of (ks := (RetnKs10 ln g cap B v c x tt sq zz w1 w2)) (by kernel_rfl)
      have hla := lasts_of hna
      refine wp_region_facts (row := none) (w := WL3) 14 (RetnKs10 ln g cap B v c x tt sq zz w1 w2) [some 54, some 55, some 56, some 57, some 58, some 59, some 60, some 61, some 62, some 63, some 64, some 65, some 66, some 67] (by kernel_rfl) (by kernel_rfl) rfl [undef, undef, undef, undef, undef, undef, undef, undef, undef, undef, undef, undef, undef, undef] ?h00 (Fs.start rfl rfl) ?hs ?hd
      case h00 => simp only [putO, layL]
      case hs =>
        rintro listed vs Wr hF i hi hun hpre
        obtain ⟨s0, s1, s2, s3, s4, s5, s6, s7, s8, s9, s10, s11, s12, s13, hvs⟩ := exl_of 14 vs (fun l => vs = l) hF.len rfl
        subst hvs
        have hge := Nat.zero_le i
        simp only [putO, layL]
        rcases Nat.lt_or_ge i 7 with hlt | hgt
        · replace hi := hlt
          clear hlt
          rcases Nat.lt_or_ge i 3 with hlt | hgt
          · replace hi := hlt
            clear hlt
            rcases Nat.lt_or_ge i 1 with hlt | hgt
            · replace hi := hlt
              clear hlt
              obtain rfl := eqi hi hge
              refine step_of ⟨some 54, _, _, _, _, _⟩ rfl (fun K' hK => ?_)
              go_simp
              refine hK.out _ _ ⟨_, hF.pure hok hla hpre rfl (Below.refl _ _), ?fr⟩
              case fr => simp only [putO, layL]
            · replace hge : 1 ≤ i := hgt
              clear hgt
              rcases Nat.lt_or_ge i 2 with hlt | hgt
              · replace hi := hlt
                clear hlt
                obtain rfl := eqi hi hge
                have p0 := hpre 0 (by kernel_rfl)
                have e0 : s0 = .pointer (some ⟨B, 7, none⟩) := hF.get 0 _ rfl (.inr p0)
                subst e0
                have hcc := (nine_at (keep_block H5.out (below_none hF.low))).1
                have cH50 := hcc.1
                have cH51 := hcc.2.1
                have cH52 := hcc.2.2.1
                have cH53 := hcc.2.2.2.1
                have cH54 := hcc.2.2.2.2.1
                have cH55 := hcc.2.2.2.2.2.1
                have cH56 := hcc.2.2.2.2.2.2.1
                have cH57 := hcc.2.2.2.2.2.2.2.1
                have cH58 := hcc.2.2.2.2.2.2.2.2
                clear hcc
                refine step_of ⟨some 55, _, _, _, _, _⟩ rfl (fun K' hK => ?_)
                go_simp
                refine hK.out _ _ ⟨_, hF.pure hok hla hpre rfl (Below.refl _ _), ?fr⟩
                case fr => simp only [putO, layL]
              · replace hge : 2 ≤ i := hgt
                clear hgt
                obtain rfl := eqi hi hge
                have p1 := hpre 1 (by kernel_rfl)
                have e1 : s1 = .int .i64 (ln : Int) := hF.get 1 _ rfl (.inr p1)
                subst e1
                refine step_of ⟨some 56, _, _, _, _, _⟩ rfl (fun K' hK => ?_)
                go_simp
                refine hK.out _ _ ⟨_, hF.pure hok hla hpre rfl (Below.refl _ _), ?fr⟩
                case fr => simp only [putO, layL]
          · replace hge : 3 ≤ i := hgt
            clear hgt
            rcases Nat.lt_or_ge i 5 with hlt | hgt
            · replace hi := hlt
              clear hlt
              rcases Nat.lt_or_ge i 4 with hlt | hgt
              · replace hi := hlt
                clear hlt
                obtain rfl := eqi hi hge
                have p2 := hpre 2 (by kernel_rfl)
                have e2 : s2 = .bool false := hF.get 2 _ rfl (.inr p2)
                subst e2
                refine step_of ⟨some 57, _, _, _, _, _⟩ rfl (fun K' hK => ?_)
                go_simp
                refine hK.out _ _ ⟨_, hF.pure hok hla hpre rfl (Below.refl _ _), ?fr⟩
                case fr => simp only [putO, layL]
              · replace hge : 4 ≤ i := hgt
                clear hgt
                obtain rfl := eqi hi hge
                have p3 := hpre 3 (by kernel_rfl)
                have e3 : s3 = .bool false := hF.get 3 _ rfl (.inr p3)
                subst e3
                have hcc := (nine_at (keep_block H5.out (below_none hF.low))).1
                have cH50 := hcc.1
                have cH51 := hcc.2.1
                have cH52 := hcc.2.2.1
                have cH53 := hcc.2.2.2.1
                have cH54 := hcc.2.2.2.2.1
                have cH55 := hcc.2.2.2.2.2.1
                have cH56 := hcc.2.2.2.2.2.2.1
                have cH57 := hcc.2.2.2.2.2.2.2.1
                have cH58 := hcc.2.2.2.2.2.2.2.2
                clear hcc
                refine step_of ⟨some 58, _, _, _, _, _⟩ rfl (fun K' hK => ?_)
                rw [if_pos (by rfl)]
                go_simp
                refine hK.out _ _ ⟨_, hF.pure hok hla hpre rfl (Below.refl _ _), ?fr⟩
                case fr => simp only [putO, layL]
            · replace hge : 5 ≤ i := hgt
              clear hgt
              rcases Nat.lt_or_ge i 6 with hlt | hgt
              · replace hi := hlt
                clear hlt
                obtain rfl := eqi hi hge
                have p3 := hpre 3 (by kernel_rfl)
                have e3 : s3 = .bool false := hF.get 3 _ rfl (.inr p3)
                subst e3
                refine step_of ⟨some 59, _, _, _, _, _⟩ rfl (fun K' hK => ?_)
                rw [if_pos (by rfl)]
                go_simp
                refine hK.out _ _ ⟨_, hF.pure hok hla hpre rfl (Below.refl _ _), ?fr⟩
                case fr => simp only [putO, layL]
              · replace hge : 6 ≤ i := hgt
                clear hgt
                obtain rfl := eqi hi hge
                have p5 := hpre 5 (by kernel_rfl)
                have e5 : s5 = .pointer (some ⟨B, 8, none⟩) := hF.get 5 _ rfl (.inr p5)
                subst e5
                have p3 := hpre 3 (by kernel_rfl)
                have e3 : s3 = .bool false := hF.get 3 _ rfl (.inr p3)
                subst e3
                have hcc := (nine_at (keep_block H5.out (below_none hF.low))).1
                have cH50 := hcc.1
                have cH51 := hcc.2.1
                have cH52 := hcc.2.2.1
                have cH53 := hcc.2.2.2.1
                have cH54 := hcc.2.2.2.2.1
                have cH55 := hcc.2.2.2.2.2.1
                have cH56 := hcc.2.2.2.2.2.2.1
                have cH57 := hcc.2.2.2.2.2.2.2.1
                have cH58 := hcc.2.2.2.2.2.2.2.2
                clear hcc
                refine step_of ⟨some 60, _, _, _, _, _⟩ rfl (fun K' hK => ?_)
                rw [if_pos (by rfl)]
                go_simp
                refine hK.out _ _ ⟨_, hF.pure hok hla hpre rfl (Below.refl _ _), ?fr⟩
                case fr => simp only [putO, layL]
        · replace hge : 7 ≤ i := hgt
          clear hgt
          rcases Nat.lt_or_ge i 10 with hlt | hgt
          · replace hi := hlt
            clear hlt
            rcases Nat.lt_or_ge i 8 with hlt | hgt
            · replace hi := hlt
              clear hlt
              obtain rfl := eqi hi hge
              have p6 := hpre 6 (by kernel_rfl)
              have e6 : s6 = .slice (some ⟨g, 0, none⟩) ln cap := hF.get 6 _ rfl (.inr p6)
              subst e6
              have p3 := hpre 3 (by kernel_rfl)
              have e3 : s3 = .bool false := hF.get 3 _ rfl (.inr p3)
              subst e3
              refine step_of ⟨some 61, _, _, _, _, _⟩ rfl (fun K' hK => ?_)
              rw [if_pos (by rfl)]
              go_simp
              refine hK.out _ _ ⟨_, hF.pure hok hla hpre rfl (Below.refl _ _), ?fr⟩
              case fr => simp only [putO, layL]
            · replace hge : 8 ≤ i := hgt
              clear hgt
              rcases Nat.lt_or_ge i 9 with hlt | hgt
              · replace hi := hlt
                clear hlt
                obtain rfl := eqi hi hge
                have p7 := hpre 7 (by kernel_rfl)
                have e7 : s7 = .pointer (some ⟨g, 0, none⟩) := hF.get 7 _ rfl (.inr p7)
                subst e7
                have p3 := hpre 3 (by kernel_rfl)
                have e3 : s3 = .bool false := hF.get 3 _ rfl (.inr p3)
                subst e3
                have hx0 := HV.out.below (below_none hF.low)
                rw [HXV.out] at hx0
                obtain ⟨j0, j1, j2, j3, j4, j5, j6, j7, j8⟩ := item_at hx0 0 (by simp) x rfl
                simp only [Nat.zero_mul, Nat.zero_add] at j0 j1 j2 j3 j4 j5 j6 j7 j8
                refine step_of ⟨some 62, _, _, _, _, _⟩ rfl (fun K' hK => ?_)
                rw [if_pos (by rfl)]
                go_simp
                refine hK.out _ _ ⟨_, hF.pure hok hla hpre rfl (Below.refl _ _), ?fr⟩
                case fr => simp only [putO, layL]
              · replace hge : 9 ≤ i := hgt
                clear hgt
                obtain rfl := eqi hi hge
                have p4 := hpre 4 (by kernel_rfl)
                have e4 : s4 = .agg #[.int .i64 5, .string { data := #[] }, .string { data := #[] }, .string { data := #[] }, .bool false, .int .i64 0, .int .i64 1, .int .i64 (ln : Int), .slice (some ⟨g, 0, none⟩) ln cap] := hF.get 4 _ rfl (.inr p4)
                subst e4
                have p8 := hpre 8 (by kernel_rfl)
                have e8 : s8 = .agg #[.int .i64 1, .string (numS x), .string (denS x), .string { data := #[] }, .bool false, .int .i64 0, .int .i64 0, .int .i64 0, .slice none 0 0] := hF.get 8 _ rfl (.inr p8)
                subst e8
                have p3 := hpre 3 (by kernel_rfl)
                have e3 : s3 = .bool false := hF.get 3 _ rfl (.inr p3)
                subst e3
                refine step_of ⟨some 63, _, _, _, _, _⟩ rfl (fun K' hK => ?_)
                rw [if_pos (by rfl)]
                go_simp
                refine hK.out _ _ ⟨_, hF.row hok hla hpre rfl, ?fr⟩
                case fr => simp only [putO, layL]
          · replace hge : 10 ≤ i := hgt
            clear hgt
            rcases Nat.lt_or_ge i 12 with hlt | hgt
            · replace hi := hlt
              clear hlt
              rcases Nat.lt_or_ge i 11 with hlt | hgt
              · replace hi := hlt
                clear hlt
                obtain rfl := eqi hi hge
                have p9 := hpre 9 (by kernel_rfl)
                obtain ⟨G, eG, _, hGB⟩ : ∃ G, s9 = .slice (some ⟨G, 0, none⟩) 2 2 ∧ _ ≤ G ∧ Wr.heap[G]? = some (.cells #[.int .i64 5, .string { data := #[] }, .string { data := #[] }, .string { data := #[] }, .bool false, .int .i64 0, .int .i64 1, .int .i64 (ln : Int), .slice (some ⟨g, 0, none⟩) ln cap, .int .i64 1, .string (numS x), .string (denS x), .string { data := #[] }, .bool false, .int .i64 0, .int .i64 0, .int .i64 0, .slice none 0 0] 27 (0, 0)) := hF.get 9 _ rfl (.inr p9)
                subst eG
                have p3 := hpre 3 (by kernel_rfl)
                have e3 : s3 = .bool false := hF.get 3 _ rfl (.inr p3)
                subst e3
                refine step_of ⟨some 64, _, _, _, _, _⟩ rfl (fun K' hK => ?_)
                rw [if_pos (by rfl)]
                go_simp
                go_at_call 11
                (with_reducible refine (Row2.on QrQ.out _ _ _ _ hGB (HV.out.below (below_none hF.low)) (HE.out.below (below_none hF.low))).mono ?_)
                rintro e Wq ⟨rfl, hq⟩
                refine hK.out _ _ ⟨_, hF.pure hok hla hpre rfl hq, ?fr⟩
                case fr => simp only [putO, layL]
              · replace hge : 11 ≤ i := hgt
                clear hgt
                obtain rfl := eqi hi hge
                have p10 := hpre 10 (by kernel_rfl)
                have e10 : s10 = .agg #[.int .i64 1, .string (numS sq), .string (denS sq), .string { data := #[] }, .bool false, .int .i64 0, .int .i64 0, .int .i64 0, .slice none 0 0] := hF.get 10 _ rfl (.inr p10)
                subst e10
                have p3 := hpre 3 (by kernel_rfl)
                have e3 : s3 = .bool false := hF.get 3 _ rfl (.inr p3)
                subst e3
                refine step_of ⟨some 65, _, _, _, _, _⟩ rfl (fun K' hK => ?_)
                rw [if_pos (by rfl)]
                go_simp
                refine hK.out _ _ ⟨_, hF.pure hok hla hpre rfl (Below.refl _ _), ?fr⟩
                case fr => simp only [putO, layL]
            · replace hge : 12 ≤ i := hgt
              clear hgt
              rcases Nat.lt_or_ge i 13 with hlt | hgt
              · replace hi := hlt
                clear hlt
                obtain rfl := eqi hi hge
                have p11 := hpre 11 (by kernel_rfl)
                have e11 : s11 = .int .i64 1 := hF.get 11 _ rfl (.inr p11)
                subst e11
                have p3 := hpre 3 (by kernel_rfl)
                have e3 : s3 = .bool false := hF.get 3 _ rfl (.inr p3)
                subst e3
                refine step_of ⟨some 66, _, _, _, _, _⟩ rfl (fun K' hK => ?_)
                rw [if_pos (by rfl)]
                go_simp
                refine hK.out _ _ ⟨_, hF.pure hok hla hpre rfl (Below.refl _ _), ?fr⟩
                case fr => simp only [putO, layL]
              · replace hge : 13 ≤ i := hgt
                clear hgt
                obtain rfl := eqi hi hge
                have p3 := hpre 3 (by kernel_rfl)
                have e3 : s3 = .bool false := hF.get 3 _ rfl (.inr p3)
                subst e3
                have p12 := hpre 12 (by kernel_rfl)
                have e12 : s12 = .bool false := hF.get 12 _ rfl (.inr p12)
                subst e12
                refine step_of ⟨some 67, _, _, _, _, _⟩ rfl (fun K' hK => ?_)
                go_simp
                refine hK.out _ _ ⟨_, hF.pure hok hla hpre rfl (Below.refl _ _), ?fr⟩
                case fr => simp only [putO, layL]
      case hd =>
        rintro listed vs WB hF hall
        obtain ⟨s0, s1, s2, s3, s4, s5, s6, s7, s8, s9, s10, s11, s12, s13, hvs⟩ := exl_of 14 vs (fun l => vs = l) hF.len rfl
        subst hvs
        have e13 : s13 = .bool false := hF.get 13 _ rfl (.inr (hall 13 (by decide)))
        subst e13
        have hq := below_none hF.low
        replace HE := Lib.hid (HE.out.below hq)
        replace HL := Lib.hid (HL.out.trans (hq.mono HL.out.size))
        replace H5 := Lib.hid (keep_block H5.out hq)
        replace H8 := Lib.hid (keep_block H8.out hq)
        replace H9 := Lib.hid (keep_block H9.out hq)
        replace HV := Lib.hid (HV.out.below hq)
        clear hq
        clear hF hall hok hna hla
        simp only [putO, layL]
        obtain ⟨⟨p0, p1, p2, p3, p4, p5, p6, p7, p8⟩, _⟩ := nine_at H8.out
        go_wp2_with fail
        have hok : okB 8 (RetnKs13 ln g cap B v c x tt sq zz w1 w2) = true := by kernel_rfl
        have hna := noAny_of (ks := (RetnKs13 ln g cap B v c x tt sq zz w1 w2)) (by kernel_rfl)
        have hla := lasts_of hna
        refine wp_region_facts (row := none) (w := WB) 8 (RetnKs13 ln g cap B v c x tt sq zz w1 w2) [some 75, some 76, some 77, some 74, some 78, some 79, some 10, some 11] (by kernel_rfl) (by kernel_rfl) rfl [undef, undef, undef, undef, undef, undef, undef, undef] ?h00 (Fs.start rfl rfl) ?hs ?hd
        case h00 => simp only [putO, layL]
        case hs =>
          rintro listed vs Wr hF i hi hun hpre
          obtain ⟨s0, s1, s2, s3, s4, s5, s6, s7, hvs⟩ := exl_of 8 vs (fun l => vs = l) hF.len rfl
          subst hvs
          have hge := Nat.zero_le i
          simp only [putO, layL]
          rcases Nat.lt_or_ge i 4 with hlt | hgt
          · replace hi := hlt
            clear hlt
            rcases Nat.lt_or_ge i 2 with hlt | hgt
            · replace hi := hlt
              clear hlt
              rcases Nat.lt_or_ge i 1 with hlt | hgt
              · replace hi := hlt
                clear hlt
                obtain rfl := eqi hi hge
                have hcc := (nine_at (keep_block H9.out (below_none hF.low))).1
                have cH90 := hcc.1
                have cH91 := hcc.2.1
                have cH92 := hcc.2.2.1
                have cH93 := hcc.2.2.2.1
                have cH94 := hcc.2.2.2.2.1
                have cH95 := hcc.2.2.2.2.2.1
                have cH96 := hcc.2.2.2.2.2.2.1
                have cH97 := hcc.2.2.2.2.2.2.2.1
                have cH98 := hcc.2.2.2.2.2.2.2.2
                clear hcc
                refine step_of ⟨some 75, _, _, _, _, _⟩ rfl (fun K' hK => ?_)
                go_simp
                refine hK.out _ _ ⟨_, hF.pure hok hla hpre rfl (Below.refl _ _), ?fr⟩
                case fr => simp only [putO, layL]
              · replace hge : 1 ≤ i := hgt
                clear hgt
                obtain rfl := eqi hi hge
                refine step_of ⟨some 76, _, _, _, _, _⟩ rfl (fun K' hK => ?_)
                go_simp
                go_at_call 10
                (with_reducible refine (QtZ.out _ (HE.out.below (below_none hF.low))).mono ?_)
                rintro e Wq ⟨rfl, hq⟩
                refine hK.out _ _ ⟨_, hF.pure hok hla hpre rfl hq, ?fr⟩
                case fr => simp only [putO, layL]
            · replace hge : 2 ≤ i := hgt
              clear hgt
              rcases Nat.lt_or_ge i 3 with hlt | hgt
              · replace hi := hlt
                clear hlt
                obtain rfl := eqi hi hge
                have p0 := hpre 0 (by kernel_rfl)
                have e0 : s0 = .agg #[.int .i64 1, .string (numS tt), .string (denS tt), .string { data := #[] }, .bool false, .int .i64 0, .int .i64 0, .int .i64 0, .slice none 0 0] := hF.get 0 _ rfl (.inr p0)
                subst e0
                have p1 := hpre 1 (by kernel_rfl)
                have e1 : s1 = .agg #[.int .i64 1, .string (numS zz), .string (denS zz), .string { data := #[] }, .bool false, .int .i64 0, .int .i64 0, .int .i64 0, .slice none 0 0] := hF.get 1 _ rfl (.inr p1)
                subst e1
                refine step_of ⟨some 77, _, _, _, _, _⟩ rfl (fun K' hK => ?_)
                go_simp
                go_at_call 14
                (with_reducible refine (QtC.out _ (HE.out.below (below_none hF.low))).mono ?_)
                rintro e Wq ⟨rfl, hq⟩
                refine hK.out _ _ ⟨_, hF.pure hok hla hpre rfl hq, ?fr⟩
                case fr => simp only [putO, layL]
              · replace hge : 3 ≤ i := hgt
                clear hgt
                obtain rfl := eqi hi hge
                have p2 := hpre 2 (by kernel_rfl)
                have e2 : s2 = .tuple #[.int .i64 c, .int .i64 0] := hF.get 2 _ rfl (.inr p2)
                subst e2
                refine step_of ⟨some 74, _, _, _, _, _⟩ rfl (fun K' hK => ?_)
                go_simp
                refine hK.out _ _ ⟨_, hF.pure hok hla hpre rfl (Below.refl _ _), ?fr⟩
                case fr => simp only [putO, layL]
          · replace hge : 4 ≤ i := hgt
            clear hgt
            rcases Nat.lt_or_ge i 6 with hlt | hgt
            · replace hi := hlt
              clear hlt
              rcases Nat.lt_or_ge i 5 with hlt | hgt
              · replace hi := hlt
                clear hlt
                obtain rfl := eqi hi hge
                have p3 := hpre 3 (by kernel_rfl)
                have e3 : s3 = .tuple #[.int .i64 c, .int .i64 0] := hF.get 3 _ rfl (.inr p3)
                subst e3
                refine step_of ⟨some 78, _, _, _, _, _⟩ rfl (fun K' hK => ?_)
                go_simp
                refine hK.out _ _ ⟨_, hF.pure hok hla hpre rfl (Below.refl _ _), ?fr⟩
                case fr => simp only [putO, layL]
              · replace hge : 5 ≤ i := hgt
                clear hgt
                obtain rfl := eqi hi hge
                have p3 := hpre 3 (by kernel_rfl)
                have e3 : s3 = .tuple #[.int .i64 c, .int .i64 0] := hF.get 3 _ rfl (.inr p3)
                subst e3
                refine step_of ⟨some 79, _, _, _, _, _⟩ rfl (fun K' hK => ?_)
                go_simp
                refine hK.out _ _ ⟨_, hF.pure hok hla hpre rfl (Below.refl _ _), ?fr⟩
                case fr => simp only [putO, layL]
            · replace hge : 6 ≤ i := hgt
              clear hgt
              rcases Nat.lt_or_ge i 7 with hlt | hgt
              · replace hi := hlt
                clear hlt
                obtain rfl := eqi hi hge
                have p4 := hpre 4 (by kernel_rfl)
                have e4 : s4 = .int .i64 c := hF.get 4 _ rfl (.inr p4)
                subst e4
                refine step_of ⟨some 10, _, _, _, _, _⟩ rfl (fun K' hK => ?_)
                go_simp
                refine hK.out _ _ ⟨_, hF.pure hok hla hpre rfl (Below.refl _ _), ?fr⟩
                case fr => simp only [putO, layL]
              · replace hge : 7 ≤ i := hgt
                clear hgt
                obtain rfl := eqi hi hge
                have p5 := hpre 5 (by kernel_rfl)
                have e5 : s5 = .int .i64 0 := hF.get 5 _ rfl (.inr p5)
                subst e5
                refine step_of ⟨some 11, _, _, _, _, _⟩ rfl (fun K' hK => ?_)
                go_simp
                refine hK.out _ _ ⟨_, hF.pure hok hla hpre rfl (Below.refl _ _), ?fr⟩
                case fr => simp only [putO, layL]
        case hd =>
          rintro listed vs WC hF hall
          obtain ⟨s0, s1, s2, s3, s4, s5, s6, s7, hvs⟩ := exl_of 8 vs (fun l => vs = l) hF.len rfl
          subst hvs
          have e6 : s6 = .int .i64 c := hF.get 6 _ rfl (.inr (hall 6 (by decide)))
          subst e6
          have hq := below_none hF.low
          replace HE := Lib.hid (HE.out.below hq)
          replace HL := Lib.hid (HL.out.trans (hq.mono HL.out.size))
          replace H5 := Lib.hid (keep_block H5.out hq)
          replace H8 := Lib.hid (keep_block H8.out hq)
          replace H9 := Lib.hid (keep_block H9.out hq)
          replace HV := Lib.hid (HV.out.below hq)
          clear hq
          clear hF hall hok hna hla
          simp only [putO, layL]
          obtain ⟨⟨p0, p1, p2, p3, p4, p5, p6, p7, p8⟩, _⟩ := nine_at H8.out
          go_wp2
          go_ret
          exact ⟨rfl, HL.out⟩

end Go.Proofs.YtcbolipiaflfbaaGreatDoor.Num.Fy
