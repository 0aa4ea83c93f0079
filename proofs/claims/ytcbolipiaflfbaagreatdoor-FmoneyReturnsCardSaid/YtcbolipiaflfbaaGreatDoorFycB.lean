/- Numbers as texts of digits, fractions, values and the functions of fmath: contracts of the program's functions, joined from smaller texts. Conditions stand at each theorem. -/
import Derived.Test.YtcbolipiaflfbaaGreatDoorFycA

/- What the law FmoneyReturns' calls give. No conditions. -/
namespace Go.Proofs.YtcbolipiaflfbaaGreatDoor.Num.Fy
open Go.RowKit Go.Lib Num

/-- what a function gives at the whole row -/
def Row1 (f : FuncId) (nm : ByteArray) (ms : List Int) (ln : Nat) (v : Value) : Prop := ∀ (W : World) (G g cap : Nat), W.heap[G]? = some (.cells #[.int .i64 5, .string { data := #[] }, .string { data := #[] }, .string { data := #[] }, .bool false, .int .i64 0, .int .i64 1, .int .i64 (ln : Int), .slice (some ⟨g, 0, none⟩) ln cap] 27 (0, 0)) → ValsAt W g 0 (numVals (rats ms)) → EnvY W → Calls Tryz.prog f #[.string nm, .slice (some ⟨G, 0, none⟩) 1 1] W fun e w' => e = .returned v ∧ Below W.heap.size W w'
theorem Row1.at {f : FuncId} {nm : ByteArray} {ms : List Int} {ln : Nat} {v : Value} (T : Row1 f nm ms ln v) (W : World) (g cap : Nat) (hv : ValsAt W g 0 (numVals (rats ms))) (hE : EnvY W) :
    Calls Tryz.prog f #[.string nm, .slice (some ⟨W.heap.size, 0, none⟩) 1 1] (W.alloc (.cells #[.int .i64 5, .string { data := #[] }, .string { data := #[] }, .string { data := #[] }, .bool false, .int .i64 0, .int .i64 1, .int .i64 (ln : Int), .slice (some ⟨g, 0, none⟩) ln cap] 27)) fun e w' => e = .returned v ∧ Below W.heap.size W w' := by
  have hb : Below W.heap.size W (W.alloc (.cells #[.int .i64 5, .string { data := #[] }, .string { data := #[] }, .string { data := #[] }, .bool false, .int .i64 0, .int .i64 1, .int .i64 (ln : Int), .slice (some ⟨g, 0, none⟩) ln cap] 27)) := (Below.refl _ _).alloc (Nat.le_refl _) _
  exact (T _ _ g cap (heap_alloc_new W _) (hv.below hb) (hE.below hb)).mono fun e w' h => ⟨h.1, hb.trans (h.2.mono hb.size)⟩
/-- what a function gives at the whole row and a number -/
def Row2 (f : FuncId) (nm : ByteArray) (ms : List Int) (ln : Nat) (x : Rat) (v : Value) : Prop := ∀ (W : World) (G g cap : Nat), W.heap[G]? = some (.cells #[.int .i64 5, .string { data := #[] }, .string { data := #[] }, .string { data := #[] }, .bool false, .int .i64 0, .int .i64 1, .int .i64 (ln : Int), .slice (some ⟨g, 0, none⟩) ln cap, .int .i64 1, .string (numS x), .string (denS x), .string { data := #[] }, .bool false, .int .i64 0, .int .i64 0, .int .i64 0, .slice none 0 0] 27 (0, 0)) → ValsAt W g 0 (numVals (rats ms)) → EnvY W → Calls Tryz.prog f #[.string nm, .slice (some ⟨G, 0, none⟩) 2 2] W fun e w' => e = .returned v ∧ Below W.heap.size W w'
/-- what the closure gives at a step -/
def Clo (ms : List Int) (ln : Nat) (f : Rat) (n : Int) : Prop := ∀ (W : World) (B g cap : Nat), W.heap[B]? = some (.cells #[.int .i64 5, .string { data := #[] }, .string { data := #[] }, .string { data := #[] }, .bool false, .int .i64 0, .int .i64 1, .int .i64 (ln : Int), .slice (some ⟨g, 0, none⟩) ln cap] 27 (0, 0)) → ValsAt W g 0 (numVals (rats ms)) → ln ≤ cap → EnvY W → Calls Tryz.prog 15 #[.agg #[.string (numS f), .string (denS f)], .pointer (some ⟨B, 0, none⟩)] W fun e w' => e = .returned (.int .i64 n) ∧ Below W.heap.size W w'

theorem Row2.on {f : FuncId} {nm : ByteArray} {ms : List Int} {ln : Nat} {x : Rat} {v : Value} (T : Row2 f nm ms ln x v) (W : World) (G g cap : Nat) (h : W.heap[G]? = some (.cells #[.int .i64 5, .string { data := #[] }, .string { data := #[] }, .string { data := #[] }, .bool false, .int .i64 0, .int .i64 1, .int .i64 (ln : Int), .slice (some ⟨g, 0, none⟩) ln cap, .int .i64 1, .string (numS x), .string (denS x), .string { data := #[] }, .bool false, .int .i64 0, .int .i64 0, .int .i64 0, .slice none 0 0] 27 (0, 0))) (hv : ValsAt W g 0 (numVals (rats ms))) (hE : EnvY W) :
    Calls Tryz.prog f #[.string nm, .slice (some ⟨G, 0, none⟩) 2 2] W fun e w' => e = .returned v ∧ Below W.heap.size W w' := T W G g cap h hv hE
theorem Clo.on {ms : List Int} {ln : Nat} {f : Rat} {n : Int} (T : Clo ms ln f n) (W : World) (B g cap : Nat) (h : W.heap[B]? = some (.cells #[.int .i64 5, .string { data := #[] }, .string { data := #[] }, .string { data := #[] }, .bool false, .int .i64 0, .int .i64 1, .int .i64 (ln : Int), .slice (some ⟨g, 0, none⟩) ln cap] 27 (0, 0))) (hv : ValsAt W g 0 (numVals (rats ms))) (hc : ln ≤ cap) (hE : EnvY W) :
    Calls Tryz.prog 15 #[.agg #[.string (numS f), .string (denS f)], .pointer (some ⟨B, 0, none⟩)] W fun e w' => e = .returned (.int .i64 n) ∧ Below W.heap.size W w' := T W B g cap h hv hc hE

end Go.Proofs.YtcbolipiaflfbaaGreatDoor.Num.Fy

/- The law FmoneyReturns' own walk: nothing comes in. Conditions: what the functions give; the tables lie as they are laid. -/
namespace Go.Proofs.YtcbolipiaflfbaaGreatDoor.Num.Fy
open Go.RowKit Go.Lib Num
attribute [local irreducible] wpOp
set_option linter.unusedVariables false in
/-- what the operations of region 10 yield -/
def ReteKs10 (ln g cap B : Nat) (v : Int) (x tt : Rat) (w1 w2 : World) : List RK :=
  [.pure (.pointer (some ⟨B, 7, none⟩)),
   .pure (.int .i64 (ln : Int)),
   .pure (.bool true),
   .pure (.bool true),
   .pure (undef),
   .pure (undef),
   .pure (undef),
   .pure (undef),
   .pure (undef),
   .pure (undef),
   .pure (undef),
   .pure (undef),
   .pure (undef),
   .pure (.bool true)]
set_option linter.unusedSimpArgs false in
set_option linter.unusedVariables false in
set_option maxHeartbeats 16000000 in
set_option maxRecDepth 100000 in
theorem ret_empty (A : Option Addr) (L C : Nat) (zs : List Int) (first m v : Int) (x tt : Rat) (w : World) (hi : IntsIn w A L C zs) (hf0 : -9223372036854775808 ≤ first) (hf1 : first ≤ 9223372036854775807) (hm : first % 1000 = m) (hv : -1 - m = v) (hx : ((v : Int) : Rat) = x) (h0 : zs.length = 0) (hE : EnvY w)
    (rI : Row1 13 { data := #[73, 82, 82] } (v :: flowL zs) (v :: flowL zs).length (.agg #[.int .i64 4, .string { data := #[] }, .string { data := #[] }, .string { data := #[] }, .bool false, .int .i64 5, .int .i64 0, .int .i64 0, .slice none 0 0]))
    (rT : Row1 11 { data := #[83, 85, 77] } (v :: flowL zs) (v :: flowL zs).length (.agg #[.int .i64 1, .string (numS tt), .string (denS tt), .string { data := #[] }, .bool false, .int .i64 0, .int .i64 0, .int .i64 0, .slice none 0 0])) :
    Calls Tryz.prog 4 #[.slice A L C, .int .i64 first] w fun e w' => e = .returned (.bool true) ∧ Below w.heap.size w w' := by
  have TM := Lib.hid (fun W => kmod_any first 1000 hf0 hf1 (by decide) (by decide) W)
  rw [hm] at TM
  have hm0 : 0 ≤ m ∧ m ≤ 999 := by omega
  have hv0 : -1000 ≤ v ∧ v ≤ -1 := by omega
  have hwv : IntKind.i64.wrap (-1 - m) = v := by rw [hv]; exact IntWalk.i64_in _ (by omega)
  have TN0 := Lib.hid (fun W (ge : EnvY W) => kwhole_any v W (by omega) (by omega) ge.e)
  rw [hx] at TN0
  rw [numVal_is x] at TN0
  have hL := hi.len
  have hLC := hi.cap
  have hLm := hi.max
  obtain ⟨cn, hcv⟩ : ∃ cn, (zs.take 8).length = cn := ⟨_, rfl⟩
  have hc8 : cn ≤ 8 := by rw [← hcv]; simp; omega
  have hcL : cn ≤ L := by rw [← hcv]; simp; omega
  have hmin : min (L : Int) 8 = (cn : Int) := by rw [← hcv]; simp; omega
  have HQ := Lib.hid (show ∀ (k : Nat) (hk : k < cn), ∃ h : k < zs.length, ∀ q, ((zs[k] % 500 : Int) : Rat) = q → flat (numVals (rats ((v :: flowL zs).take (1 + k + 1)))) = flat (numVals (rats ((v :: flowL zs).take (1 + k)))) ++ [.int .i64 1, .string (numS q), .string (denS q), .string { data := #[] }, .bool false, .int .i64 0, .int .i64 0, .int .i64 0, .slice none 0 0] from by
    intro k hk
    exact ⟨by omega, fun q hq => flow_flat v zs k (by omega) (by omega) q hq⟩)
  have HQL := Lib.hid (show (v :: flowL zs).length = 1 + cn by rw [List.length_cons, flowL_len, hcv]; omega)
  have HQ1 := Lib.hid (show rats ((v :: flowL zs).take (1 + 0)) = [x] by simp [rats, hx])
  have HFL := Lib.hid (fun k => flat_first (qs := rats ((v :: flowL zs).take (1 + k))) (by rw [rats_len, List.length_take, List.length_cons]; omega))
  have HI1 := Lib.hid hi.src
  have HZ := Lib.hid hi.rng
  have HXV := Lib.hid (show rats (v :: flowL zs) = x :: rats (flowL zs) by rw [← hx]; rfl)
  have hmf : ∀ (fn : Fn) (first cap : Array Value) (w : World), (Instr.makeFunc fn first cap).run Tryz.prog w = .ok (.func fn first cap) w := fun _ _ _ _ => rfl
  have hcn0 : cn = 0 := by rw [← hcv, List.length_take, h0]; rfl
  have QrI := Lib.hid rI
  have QrT := Lib.hid rT
  have HE := Lib.hid hE
  have HEW := Lib.hid hE
  have HL := Lib.hid (Below.refl w.heap.size w)
  obtain ⟨i0, hi0', hz0, hz1, hz2⟩ := info_val
  clear hE hi hf0 hf1 hm hv hx hcv hL h0 rI rT
  go_enter Tryz.func4, Tryz.ntmps4
  go_wp2_with fail
  refine (TM.out _).mono ?_
  rintro e w1 ⟨rfl, hws⟩
  replace hws := hws.symm
  subst hws
  go_wp2_with fail
  (with_reducible refine (TN0.out _ HE.out).mono ?_)
  rintro e w3 ⟨rfl, hq⟩
  have HI := Lib.hid (RowX.start (w := w) (q := x) hq)
  obtain ⟨B, hB⟩ : ∃ B, w3.heap.size + 1 = B := ⟨_, rfl⟩
  obtain ⟨W4, hW4⟩ : ∃ W4, (w3.alloc (.cells #[.int .i64 1, .string (numS x), .string (denS x), .string { data := #[] }, .bool false, .int .i64 0, .int .i64 0, .int .i64 0, .slice none 0 0] 27)).alloc (.cells #[.int .i64 5, .string { data := #[] }, .string { data := #[] }, .string { data := #[] }, .bool false, .int .i64 0, .int .i64 1, .int .i64 1, .slice (some ⟨w3.heap.size, 0, none⟩) 1 1] 27) = W4 := ⟨_, rfl⟩
  rw [hW4, hB] at HI
  have EB := Lib.hid hB
  have EW := Lib.hid hW4
  clear hq hB hW4
  go_wp2_with fail
  rw [EW.out, EB.out]
  skip
  go_loopg [29] cn (fun gh v29 wx => ∃ (k : Nat) (cc : Int) (v' : Value), v29 = .int .i64 ((k : Nat) : Int) ∧ k ≤ cn ∧ gh = cn - k ∧ cc = 1 + (k : Int) ∧ RowX w B 1 cc v' v' (1 + k) (flat (numVals (rats ((v :: flowL zs).take (1 + k))))) wx)
  case atStart => exact ⟨0, 1, _, rfl, Nat.zero_le _, rfl, rfl, by rw [HQ1.out]; exact HI.out⟩
  case round =>
    clear HI EB EW HE HL
    obtain ⟨k, cc, v', rfl, hk, rfl, hcc, hti⟩ := hrel
    have HTI := Lib.hid hti
    by_cases hlt : k < cn
    · exact absurd hlt (by omega)
    · have hd : decide ((k : Int) < (cn : Int)) = false := decide_eq_false (by omega)
      have hd2 : decide (k < cn) = false := decide_eq_false hlt
      have hkL : k = cn := by omega
      have hall : (v :: flowL zs).take (1 + k) = v :: flowL zs := by rw [hkL, ← HQL.out, List.take_length]
      rw [hall] at hti
      obtain ⟨g, cap, hv, hg, hcap, hva⟩ := hti.vals (by rw [rats_len, HQL.out]; omega) (by omega)
      subst hv
      obtain ⟨ln, hln⟩ : ∃ ln, (v :: flowL zs).length = ln := ⟨_, rfl⟩
      have hcl : cc = (ln : Int) := by rw [← hln, HQL.out, hcc, hkL]; omega
      have hnl : 1 + k = ln := by rw [← hln, HQL.out, hkL]
      subst hcl
      rw [hnl] at hti hcap
      have hl1 : ((ln : Int) == 1) = true := by rw [show ((ln : Nat) : Int) = 1 by omega]; rfl
      have hl2 : (ln == 1) = true := by rw [show ln = 1 by omega]; rfl
      have hg0 : (0 : Int) < (ln : Int) := by omega
      have hgN : 0 < ln := by omega
      have HV := Lib.hid hva
      have H5 := Lib.hid hti.box
      have HL := Lib.hid hti.low
      have HE := Lib.hid (HEW.out.below hti.low)
      rw [hln] at QrI QrT
      clear hti HTI hall hkL hlt hva hcc hk HQL HQ HQ1 HI1 HZ HEW HFL
      obtain ⟨⟨lH50, lH51, lH52, lH53, lH54, lH55, lH56, lH57, lH58⟩, _⟩ := nine_at H5.out
      go_wp2_with fail
      (with_reducible refine (Row1.at QrI.out _ _ _ HV.out HE.out).mono ?_)
      rintro e w1 ⟨rfl, hq⟩
      replace HE := Lib.hid (HE.out.below hq)
      replace HL := Lib.hid (HL.out.trans (hq.mono HL.out.size))
      replace H5 := Lib.hid (keep_block H5.out hq)
      replace HV := Lib.hid (HV.out.below hq)
      clear hq
      clear lH50 lH51 lH52 lH53 lH54 lH55 lH56 lH57 lH58
      have hq : Below w1.heap.size w1 (w1.alloc (.cells #[.int .i64 4, .string { data := #[] }, .string { data := #[] }, .string { data := #[] }, .bool false, .int .i64 5, .int .i64 0, .int .i64 0, .slice none 0 0] 27)) := ((Below.refl _ _).alloc (Nat.le_refl _) _)
      replace HE := Lib.hid (HE.out.below hq)
      replace HL := Lib.hid (HL.out.trans (hq.mono HL.out.size))
      replace H5 := Lib.hid (keep_block H5.out hq)
      replace HV := Lib.hid (HV.out.below hq)
      have H8 : Hid ((w1.alloc (.cells #[.int .i64 4, .string { data := #[] }, .string { data := #[] }, .string { data := #[] }, .bool false, .int .i64 5, .int .i64 0, .int .i64 0, .slice none 0 0] 27)).heap[w1.heap.size]? = some (.cells #[.int .i64 4, .string { data := #[] }, .string { data := #[] }, .string { data := #[] }, .bool false, .int .i64 5, .int .i64 0, .int .i64 0, .slice none 0 0] 27 (0, 0))) := Lib.hid (by
        have h := heap_alloc_new w1 (.cells #[.int .i64 4, .string { data := #[] }, .string { data := #[] }, .string { data := #[] }, .bool false, .int .i64 5, .int .i64 0, .int .i64 0, .slice none 0 0] 27)
        exact h)
      clear hq
      obtain ⟨WL2, hWL2⟩ : ∃ Z, (w1.alloc (.cells #[.int .i64 4, .string { data := #[] }, .string { data := #[] }, .string { data := #[] }, .bool false, .int .i64 5, .int .i64 0, .int .i64 0, .slice none 0 0] 27)) = Z := ⟨_, rfl⟩
      rw [hWL2] at HE HL H5 H8 HV
      have EWL2 := Lib.hid hWL2
      clear hWL2
      have SWL2 : Hid (w1.heap.size + 1 = WL2.heap.size) := Lib.hid (by rw [← EWL2.out]; simp only [World.size_alloc])
      have hld := H5.out
      rw [← EWL2.out] at hld
      obtain ⟨⟨lH50, lH51, lH52, lH53, lH54, lH55, lH56, lH57, lH58⟩, _⟩ := nine_at hld
      clear hld
      go_wp2_with fail
      rw [EWL2.out]
      rw [SWL2.out]
      (with_reducible refine (Row1.at QrT.out _ _ _ HV.out HE.out).mono ?_)
      rintro e w2 ⟨rfl, hq⟩
      replace HE := Lib.hid (HE.out.below hq)
      replace HL := Lib.hid (HL.out.trans (hq.mono HL.out.size))
      replace H5 := Lib.hid (keep_block H5.out hq)
      replace H8 := Lib.hid (keep_block H8.out hq)
      replace HV := Lib.hid (HV.out.below hq)
      clear hq
      clear lH50 lH51 lH52 lH53 lH54 lH55 lH56 lH57 lH58
      have hq : Below w2.heap.size w2 (w2.alloc (.cells #[.int .i64 1, .string (numS tt), .string (denS tt), .string { data := #[] }, .bool false, .int .i64 0, .int .i64 0, .int .i64 0, .slice none 0 0] 27)) := ((Below.refl _ _).alloc (Nat.le_refl _) _)
      replace HE := Lib.hid (HE.out.below hq)
      replace HL := Lib.hid (HL.out.trans (hq.mono HL.out.size))
      replace H5 := Lib.hid (keep_block H5.out hq)
      replace H8 := Lib.hid (keep_block H8.out hq)
      replace HV := Lib.hid (HV.out.below hq)
      have H9 : Hid ((w2.alloc (.cells #[.int .i64 1, .string (numS tt), .string (denS tt), .string { data := #[] }, .bool false, .int .i64 0, .int .i64 0, .int .i64 0, .slice none 0 0] 27)).heap[w2.heap.size]? = some (.cells #[.int .i64 1, .string (numS tt), .string (denS tt), .string { data := #[] }, .bool false, .int .i64 0, .int .i64 0, .int .i64 0, .slice none 0 0] 27 (0, 0))) := Lib.hid (by
        have h := heap_alloc_new w2 (.cells #[.int .i64 1, .string (numS tt), .string (denS tt), .string { data := #[] }, .bool false, .int .i64 0, .int .i64 0, .int .i64 0, .slice none 0 0] 27)
        exact h)
      clear hq
      obtain ⟨WL3, hWL3⟩ : ∃ Z, (w2.alloc (.cells #[.int .i64 1, .string (numS tt), .string (denS tt), .string { data := #[] }, .bool false, .int .i64 0, .int .i64 0, .int .i64 0, .slice none 0 0] 27)) = Z := ⟨_, rfl⟩
      rw [hWL3] at HE HL H5 H8 H9 HV
      have EWL3 := Lib.hid hWL3
      clear hWL3
      have SWL3 : Hid (w2.heap.size + 1 = WL3.heap.size) := Lib.hid (by rw [← EWL3.out]; simp only [World.size_alloc])
      go_wp2_with fail
      rw [EWL3.out]
      have hok : okB 14 (ReteKs10 ln g cap B v x tt w1 w2) = true := by kernel_rfl
      have hna := noAny_of (ks := (ReteKs10 ln g cap B v x tt w1 w2)) (by kernel_rfl)
      have hla := lasts_of hna
      refine wp_region_facts (row := none) (w := WL3) 14 (ReteKs10 ln g cap B v x tt w1 w2) [some 54, some 55, some 56, some 57, some 58, some 59, some 60, some 61, some 62, some 63, some 64, some 65, some 66, some 67] (by kernel_rfl) (by kernel_rfl) rfl [undef, undef, undef, undef, undef, undef, undef, undef, undef, undef, undef, undef, undef, undef] ?h00 (Fs.start rfl rfl) ?hs ?hd
      case h00 => simp only [putO, layL]
      case hs =>
        rintro listed vs Wr hF i hi hun hpre
        obtain ⟨s0, s1, s2, s3, s4, s5, s6, s7, s8, s9, s10, s11, s12, s13, hvs⟩ := exl_of 14 vs (fun l => vs = l) hF.len rfl
        subst hvs
        have hge := Nat.zero_le i
        simp only [putO, layL]
        rcases Nat.lt_or_ge i 7 with hlt | hgt
        · replace hi := hlt
          clear hlt
          rcases Nat.lt_or_ge i 3 with hlt | hgt
          · replace hi := hlt
            clear hlt
            rcases Nat.lt_or_ge i 1 with hlt | hgt
            · replace hi := hlt
              clear hlt
              obtain rfl := eqi hi hge
              refine step_of ⟨some 54, _, _, _, _, _⟩ rfl (fun K' hK => ?_)
              go_simp
              refine hK.out _ _ ⟨_, hF.pure hok hla hpre rfl (Below.refl _ _), ?fr⟩
              case fr => simp only [putO, layL]
            · replace hge : 1 ≤ i := hgt
              clear hgt
              rcases Nat.lt_or_ge i 2 with hlt | hgt
              · replace hi := hlt
                clear hlt
                obtain rfl := eqi hi hge
                have p0 := hpre 0 (by kernel_rfl)
                have e0 : s0 = .pointer (some ⟨B, 7, none⟩) := hF.get 0 _ rfl (.inr p0)
                subst e0
                have hcc := (nine_at (keep_block H5.out (below_none hF.low))).1
                have cH50 := hcc.1
                have cH51 := hcc.2.1
                have cH52 := hcc.2.2.1
                have cH53 := hcc.2.2.2.1
                have cH54 := hcc.2.2.2.2.1
                have cH55 := hcc.2.2.2.2.2.1
                have cH56 := hcc.2.2.2.2.2.2.1
                have cH57 := hcc.2.2.2.2.2.2.2.1
                have cH58 := hcc.2.2.2.2.2.2.2.2
                clear hcc
                refine step_of ⟨some 55, _, _, _, _, _⟩ rfl (fun K' hK => ?_)
                go_simp
                refine hK.out _ _ ⟨_, hF.pure hok hla hpre rfl (Below.refl _ _), ?fr⟩
                case fr => simp only [putO, layL]
              · replace hge : 2 ≤ i := hgt
                clear hgt
                obtain rfl := eqi hi hge
                have p1 := hpre 1 (by kernel_rfl)
                have e1 : s1 = .int .i64 (ln : Int) := hF.get 1 _ rfl (.inr p1)
                subst e1
                refine step_of ⟨some 56, _, _, _, _, _⟩ rfl (fun K' hK => ?_)
                go_simp
                refine hK.out _ _ ⟨_, hF.pure hok hla hpre rfl (Below.refl _ _), ?fr⟩
                case fr => simp only [putO, layL]
          · replace hge : 3 ≤ i := hgt
            clear hgt
            rcases Nat.lt_or_ge i 5 with hlt | hgt
            · replace hi := hlt
              clear hlt
              rcases Nat.lt_or_ge i 4 with hlt | hgt
              · replace hi := hlt
                clear hlt
                obtain rfl := eqi hi hge
                have p2 := hpre 2 (by kernel_rfl)
                have e2 : s2 = .bool true := hF.get 2 _ rfl (.inr p2)
                subst e2
                refine step_of ⟨some 57, _, _, _, _, _⟩ rfl (fun K' hK => ?_)
                go_simp
                refine hK.out _ _ ⟨_, hF.pure hok hla hpre rfl (Below.refl _ _), ?fr⟩
                case fr => simp only [putO, layL]
              · replace hge : 4 ≤ i := hgt
                clear hgt
                obtain rfl := eqi hi hge
                have p3 := hpre 3 (by kernel_rfl)
                have e3 : s3 = .bool true := hF.get 3 _ rfl (.inr p3)
                subst e3
                refine step_of ⟨some 58, _, _, _, _, _⟩ rfl (fun K' hK => ?_)
                first
                  | rw [if_neg (by decide)]
                  | rw [if_neg (Bool.eq_false_iff.1 (by kernel_rfl))]
                go_simp
                refine hK.out _ _ ⟨_, hF.pure hok hla hpre rfl (Below.refl _ _), ?fr⟩
                case fr => simp only [putO, layL]
            · replace hge : 5 ≤ i := hgt
              clear hgt
              rcases Nat.lt_or_ge i 6 with hlt | hgt
              · replace hi := hlt
                clear hlt
                obtain rfl := eqi hi hge
                have p3 := hpre 3 (by kernel_rfl)
                have e3 : s3 = .bool true := hF.get 3 _ rfl (.inr p3)
                subst e3
                refine step_of ⟨some 59, _, _, _, _, _⟩ rfl (fun K' hK => ?_)
                first
                  | rw [if_neg (by decide)]
                  | rw [if_neg (Bool.eq_false_iff.1 (by kernel_rfl))]
                go_simp
                refine hK.out _ _ ⟨_, hF.pure hok hla hpre rfl (Below.refl _ _), ?fr⟩
                case fr => simp only [putO, layL]
              · replace hge : 6 ≤ i := hgt
                clear hgt
                obtain rfl := eqi hi hge
                have p3 := hpre 3 (by kernel_rfl)
                have e3 : s3 = .bool true := hF.get 3 _ rfl (.inr p3)
                subst e3
                refine step_of ⟨some 60, _, _, _, _, _⟩ rfl (fun K' hK => ?_)
                first
                  | rw [if_neg (by decide)]
                  | rw [if_neg (Bool.eq_false_iff.1 (by kernel_rfl))]
                go_simp
                refine hK.out _ _ ⟨_, hF.pure hok hla hpre rfl (Below.refl _ _), ?fr⟩
                case fr => simp only [putO, layL]
        · replace hge : 7 ≤ i := hgt
          clear hgt
          rcases Nat.lt_or_ge i 10 with hlt | hgt
          · replace hi := hlt
            clear hlt
            rcases Nat.lt_or_ge i 8 with hlt | hgt
            · replace hi := hlt
              clear hlt
              obtain rfl := eqi hi hge
              have p3 := hpre 3 (by kernel_rfl)
              have e3 : s3 = .bool true := hF.get 3 _ rfl (.inr p3)
              subst e3
              refine step_of ⟨some 61, _, _, _, _, _⟩ rfl (fun K' hK => ?_)
              first
                | rw [if_neg (by decide)]
                | rw [if_neg (Bool.eq_false_iff.1 (by kernel_rfl))]
              go_simp
              refine hK.out _ _ ⟨_, hF.pure hok hla hpre rfl (Below.refl _ _), ?fr⟩
              case fr => simp only [putO, layL]
            · replace hge : 8 ≤ i := hgt
              clear hgt
              rcases Nat.lt_or_ge i 9 with hlt | hgt
              · replace hi := hlt
                clear hlt
                obtain rfl := eqi hi hge
                have p3 := hpre 3 (by kernel_rfl)
                have e3 : s3 = .bool true := hF.get 3 _ rfl (.inr p3)
                subst e3
                refine step_of ⟨some 62, _, _, _, _, _⟩ rfl (fun K' hK => ?_)
                first
                  | rw [if_neg (by decide)]
                  | rw [if_neg (Bool.eq_false_iff.1 (by kernel_rfl))]
                go_simp
                refine hK.out _ _ ⟨_, hF.pure hok hla hpre rfl (Below.refl _ _), ?fr⟩
                case fr => simp only [putO, layL]
              · replace hge : 9 ≤ i := hgt
                clear hgt
                obtain rfl := eqi hi hge
                have p3 := hpre 3 (by kernel_rfl)
                have e3 : s3 = .bool true := hF.get 3 _ rfl (.inr p3)
                subst e3
                refine step_of ⟨some 63, _, _, _, _, _⟩ rfl (fun K' hK => ?_)
                first
                  | rw [if_neg (by decide)]
                  | rw [if_neg (Bool.eq_false_iff.1 (by kernel_rfl))]
                go_simp
                refine hK.out _ _ ⟨_, hF.pure hok hla hpre rfl (Below.refl _ _), ?fr⟩
                case fr => simp only [putO, layL]
          · replace hge : 10 ≤ i := hgt
            clear hgt
            rcases Nat.lt_or_ge i 12 with hlt | hgt
            · replace hi := hlt
              clear hlt
              rcases Nat.lt_or_ge i 11 with hlt | hgt
              · replace hi := hlt
                clear hlt
                obtain rfl := eqi hi hge
                have p3 := hpre 3 (by kernel_rfl)
                have e3 : s3 = .bool true := hF.get 3 _ rfl (.inr p3)
                subst e3
                refine step_of ⟨some 64, _, _, _, _, _⟩ rfl (fun K' hK => ?_)
                first
                  | rw [if_neg (by decide)]
                  | rw [if_neg (Bool.eq_false_iff.1 (by kernel_rfl))]
                go_simp
                refine hK.out _ _ ⟨_, hF.pure hok hla hpre rfl (Below.refl _ _), ?fr⟩
                case fr => simp only [putO, layL]
              · replace hge : 11 ≤ i := hgt
                clear hgt
                obtain rfl := eqi hi hge
                have p3 := hpre 3 (by kernel_rfl)
                have e3 : s3 = .bool true := hF.get 3 _ rfl (.inr p3)
                subst e3
                refine step_of ⟨some 65, _, _, _, _, _⟩ rfl (fun K' hK => ?_)
                first
                  | rw [if_neg (by decide)]
                  | rw [if_neg (Bool.eq_false_iff.1 (by kernel_rfl))]
                go_simp
                refine hK.out _ _ ⟨_, hF.pure hok hla hpre rfl (Below.refl _ _), ?fr⟩
                case fr => simp only [putO, layL]
            · replace hge : 12 ≤ i := hgt
              clear hgt
              rcases Nat.lt_or_ge i 13 with hlt | hgt
              · replace hi := hlt
                clear hlt
                obtain rfl := eqi hi hge
                have p3 := hpre 3 (by kernel_rfl)
                have e3 : s3 = .bool true := hF.get 3 _ rfl (.inr p3)
                subst e3
                refine step_of ⟨some 66, _, _, _, _, _⟩ rfl (fun K' hK => ?_)
                first
                  | rw [if_neg (by decide)]
                  | rw [if_neg (Bool.eq_false_iff.1 (by kernel_rfl))]
                go_simp
                refine hK.out _ _ ⟨_, hF.pure hok hla hpre rfl (Below.refl _ _), ?fr⟩
                case fr => simp only [putO, layL]
              · replace hge : 13 ≤ i := hgt
                clear hgt
                obtain rfl := eqi hi hge
                have p3 := hpre 3 (by kernel_rfl)
                have e3 : s3 = .bool true := hF.get 3 _ rfl (.inr p3)
                subst e3
                have p12 := hpre 12 (by kernel_rfl)
                have e12 : s12 = undef := hF.get 12 _ rfl (.inr p12)
                subst e12
                refine step_of ⟨some 67, _, _, _, _, _⟩ rfl (fun K' hK => ?_)
                go_simp
                refine hK.out _ _ ⟨_, hF.pure hok hla hpre rfl (Below.refl _ _), ?fr⟩
                case fr => simp only [putO, layL]
      case hd =>
        rintro listed vs WB hF hall
        obtain ⟨s0, s1, s2, s3, s4, s5, s6, s7, s8, s9, s10, s11, s12, s13, hvs⟩ := exl_of 14 vs (fun l => vs = l) hF.len rfl
        subst hvs
        have e13 : s13 = .bool true := hF.get 13 _ rfl (.inr (hall 13 (by decide)))
        subst e13
        have hq := below_none hF.low
        replace HE := Lib.hid (HE.out.below hq)
        replace HL := Lib.hid (HL.out.trans (hq.mono HL.out.size))
        replace H5 := Lib.hid (keep_block H5.out hq)
        replace H8 := Lib.hid (keep_block H8.out hq)
        replace H9 := Lib.hid (keep_block H9.out hq)
        replace HV := Lib.hid (HV.out.below hq)
        clear hq
        clear hF hall hok hna hla
        simp only [putO, layL]
        obtain ⟨⟨p0, p1, p2, p3, p4, p5, p6, p7, p8⟩, _⟩ := nine_at H8.out
        go_wp2
        go_ret
        exact ⟨rfl, HL.out⟩

end Go.Proofs.YtcbolipiaflfbaaGreatDoor.Num.Fy
