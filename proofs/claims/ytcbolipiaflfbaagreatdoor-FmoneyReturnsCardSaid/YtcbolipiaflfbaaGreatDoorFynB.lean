/- Numbers as texts of digits, fractions, values and the functions of fmath: contracts of the program's functions, joined from smaller texts. Conditions stand at each theorem. -/
import Derived.Test.YtcbolipiaflfbaaGreatDoorFynA
import Derived.Test.YtcbolipiaflfbaaGreatDoorNumH

/- package fmoney: IRR over its argument, where no sign changes: it stops. Conditions: what the small functions give. -/
namespace Go.Proofs.YtcbolipiaflfbaaGreatDoor.Num.Fy
open Go.RowKit Go.Lib Num

set_option maxHeartbeats 2000000 in
set_option maxRecDepth 100000 in
theorem y_within_out (n lo hi : Int) (w : World) (h1 : n < lo ∨ hi < n) : Calls Tryz.prog 138 #[.int .i64 n, .int .i64 lo, .int .i64 hi] w fun e w' => e = stopped 5 ∧ w' = w := by
  by_cases h : n < lo
  · have d1 : decide (n < lo) = true := decide_eq_true h
    go_enter Tryz.func138, Tryz.ntmps138
    go_wp2_with fail
    refine (stop_code 5 _ (by decide)).mono ?_
    rintro e w2 ⟨rfl, rfl⟩
    exact ⟨rfl, rfl, rfl⟩
  · have d1 : decide (n < lo) = false := decide_eq_false h
    have d2 : decide (hi < n) = true := decide_eq_true (by omega)
    go_enter Tryz.func138, Tryz.ntmps138
    go_wp2_with fail
    refine (stop_code 5 _ (by decide)).mono ?_
    rintro e w2 ⟨rfl, rfl⟩
    exact ⟨rfl, rfl, rfl⟩

set_option linter.unusedSimpArgs false in
set_option linter.unusedVariables false in
set_option maxHeartbeats 8000000 in
set_option maxRecDepth 100000 in
theorem fy_irr_stop (qs : List Rat) (sgn ch sd : Nat → Int) (b g C gi Ci : Nat) (r : Int) (W : World) (ha : ArgsAt W b (some ⟨g, 0, none⟩) 1 C 0) (hne : g ≠ b) (hgi : gi ≠ b)
    (hc : CellsAt W g (0 + 0 * 9) (.int .i64 5) (.string { data := #[] }) (.string { data := #[] }) (.string { data := #[] }) (.bool false) (.int .i64 0) (.int .i64 1) (.int .i64 r) (.slice (some ⟨gi, 0, none⟩) qs.length Ci)) (h0 : 0 < qs.length) (h9 : qs.length ≤ 30)
    (hv : ValsAt W gi 0 (numVals qs)) (hE : EnvY W) (hP : Past b)
    (hsg : ∀ (k : Nat) (h : k < qs.length), Fun1 256 (fracV qs[k]) (.int .i64 (sgn k)))
    (hst : ∀ k : Nat, k < qs.length → (sgn k = 0 ∧ ch (k + 1) = ch k ∧ sd (k + 1) = sd k) ∨ (sgn k ≠ 0 ∧ sd (k + 1) = sgn k ∧ ((sd k = -sgn k ∧ ch (k + 1) = ch k + 1) ∨ (sd k ≠ -sgn k ∧ ch (k + 1) = ch k))))
    (hbd : ∀ k : Nat, -1 ≤ sgn k ∧ sgn k ≤ 1 ∧ 0 ≤ ch k ∧ ch k ≤ 1000) (hc0 : ch 0 = 0) (hs0 : sd 0 = 0) (hcl : ch qs.length = 0) :
    Calls Tryz.prog 127 #[.pointer (some ⟨b, 0, none⟩)] W fun e w' => e = stopped 5 ∧ W.grownBy w' (some b) := by
  obtain ⟨M, hM⟩ : ∃ M, qs.length = M := ⟨_, rfl⟩
  have TV := Lib.hid (fun W' a c => value_any b g 0 1 C 0 5 { data := #[] } { data := #[] } { data := #[] } false 0 1 r (some ⟨gi, 0, none⟩) qs.length Ci W' a (by decide) (by decide) hne c)
  have TI := Lib.hid (fun W' hv hE => inside_arr qs 1 r gi Ci W' (by omega) h0 hv hE)
  have HSG := Lib.hid hsg
  have HST := Lib.hid hst
  have HBD := Lib.hid hbd
  have HC0 := Lib.hid hc0
  have HS0 := Lib.hid hs0
  rw [hM] at TV TI hcl h0 h9 hc HST
  have HCL := Lib.hid hcl
  have HM := Lib.hid hM
  have hgl : gi < W.heap.size := cell_lt (hv.at 0 (by rw [numVals_len]; omega)).1
  have hb : Below W.heap.size W (W.alloc (.cells #[.string { data := #[] }, .string { data := #[] }] 24)) := (Below.refl _ _).alloc (Nat.le_refl _) _
  have HA := Lib.hid (show ArgsAt (W.alloc (.cells #[.string { data := #[] }, .string { data := #[] }] 24)) b (some ⟨g, 0, none⟩) 1 C 0 from keep_block ha hb)
  have HCE := Lib.hid (CellsAt.below hc hb)
  have HV := Lib.hid (hv.below hb)
  have H2 := Lib.hid (heap_alloc_new W (.cells #[.string { data := #[] }, .string { data := #[] }] 24))
  have HE := Lib.hid (hE.below hb)
  have HE0 := Lib.hid hE
  have HP := Lib.hid hP
  have HG := Lib.hid (kept_below (b := b) hb)
  have NE := Lib.hid (show W.heap.size ≠ b from Nat.ne_of_gt (heap_lt ha))
  have HGI := Lib.hid hgi
  have HGL := Lib.hid (show gi < (W.alloc (.cells #[.string { data := #[] }, .string { data := #[] }] 24)).heap.size by rw [World.size_alloc]; omega)
  clear hsg hst hbd hc0 hs0 hcl hM ha hc hv hE hP hgi hgl hb
  go_enter Tryz.func127, Tryz.ntmps127
  go_wp2_with fail
  refine (TV.out _ HA.out HCE.out).mono ?_
  rintro e W1 ⟨rfl, ha, hg⟩
  replace HV := Lib.hid (vals_other HV.out (hg.block gi HGL.out (fun e => HGI.out (Option.some.inj e))))
  replace H2 := Lib.hid (kept_block H2.out hg NE.out)
  replace HE := Lib.hid (HE.out.kept hg HP.out)
  replace HG := Lib.hid (kept_trans HG.out hg)
  clear ha hg HA HCE
  go_wp2_with fail
  refine (TI.out _ HV.out HE.out.e).mono ?_
  rintro e W2 ⟨fv, rfl, hown, hE2, hb⟩
  obtain ⟨gF, cap, rfl, hgF, hcap, hfr⟩ := hown.at (by rw [HM.out]; exact h0)
  rw [HM.out]
  replace H2 := Lib.hid (keep_block H2.out hb)
  replace HG := Lib.hid (kept_trans HG.out (kept_below hb))
  have hlt2 := heap_lt H2.out
  have hltF : gF < W2.heap.size := cell_lt (hfr 0 (by rw [HM.out]; exact h0)).1
  have hb3 : Below W2.heap.size W2 ((W2.alloc (.cells #[.slice (some ⟨gF, 0, none⟩) M cap] 141)).alloc (.cells #[.int .i64 0] 3)) := ((Below.refl _ _).alloc (Nat.le_refl _) _).alloc (by simp) _
  have HI := Lib.hid (show IrrI W b gF M cap W2.heap.size (W2.heap.size + 1) qs 0 ((W2.alloc (.cells #[.slice (some ⟨gF, 0, none⟩) M cap] 141)).alloc (.cells #[.int .i64 0] 3)) from
    ⟨keep_block H2.out hb3, new_keep (heap_alloc_new W2 _), by have h := heap_alloc_new (W2.alloc (.cells #[.slice (some ⟨gF, 0, none⟩) M cap] 141)) (.cells #[.int .i64 0] 3); rw [World.size_alloc] at h; exact h, hfr.below hb3, kept_trans HG.out (kept_below hb3)⟩)
  obtain ⟨B3, hB3⟩ : ∃ B, W2.heap.size = B := ⟨_, rfl⟩
  have h3f : gF < B3 := by omega
  have h23 : W.heap.size < B3 := by omega
  obtain ⟨B5, hB5⟩ : ∃ B, B3 + 1 = B := ⟨_, rfl⟩
  have h35 : B3 < B5 := by omega
  obtain ⟨W3, hW3⟩ : ∃ Z, (W2.alloc (.cells #[.slice (some ⟨gF, 0, none⟩) M cap] 141)).alloc (.cells #[.int .i64 0] 3) = Z := ⟨_, rfl⟩
  rw [hB3, hB5, hW3] at HI
  have x0 := Lib.cell_of_heap (heap_alloc_new W2 (.cells #[.slice (some ⟨gF, 0, none⟩) M cap] 141)) 0
  have EW := Lib.hid hW3
  have E3 := Lib.hid hB3
  have E5 := Lib.hid hB5
  have TW := Lib.hid (fun W => y_within (M : Int) 0 30 W (by omega) (by omega))
  have HN := Lib.hid (And.intro h3f (And.intro h23 h35))
  clear hown hfr hb hb3 hE2 hgF hcap H2 HG HE HV hlt2 hltF hB3 hB5 hW3 h3f h23 h35
  go_wp2_with fail
  refine (TW.out _).mono ?_
  rintro e W4 ⟨rfl, hws⟩
  replace hws := hws.symm
  subst hws
  go_wp2_with fail
  clear x0
  rw [EW.out, E3.out, E5.out]
  go_loopg [4, 21] M (fun gh v4 v21 wx => ∃ k : Nat, v4 = .int .i64 (ch k) ∧ v21 = .int .i64 ((k : Nat) : Int) ∧ k ≤ M ∧ gh = M - k ∧ IrrI W b gF M cap B3 B5 qs (sd k) wx)
  case atStart => exact ⟨0, by rw [HC0.out], rfl, Nat.zero_le _, rfl, by rw [HS0.out]; exact HI.out⟩
  case round =>
    clear HI EW E3 E5
    obtain ⟨k, rfl, rfl, hk, rfl, hti⟩ := hrel
    have HTI := Lib.hid hti
    clear hti
    by_cases hlt : k < M
    · have hd : decide ((k : Int) < (M : Int)) = true := decide_eq_true (by omega)
      have hd2 : decide (k < M) = true := decide_eq_true hlt
      have hkq : k < qs.length := by rw [HM.out]; exact hlt
      obtain ⟨x, hx⟩ : ∃ x, qs[k] = x := ⟨_, rfl⟩
      have hcell := HTI.out.row k hkq
      have TS := Lib.hid (HSG.out k hkq)
      rw [hx] at hcell TS
      rw [fracV_is x] at TS
      unfold Fun1 at TS
      obtain ⟨hb0, hb1, hb2, hb3⟩ := HBD.out k
      have hst := HST.out k hlt
      obtain ⟨n, hn⟩ : ∃ n, sgn k = n := ⟨_, rfl⟩
      rw [hn] at TS hst hb0 hb1
      obtain ⟨ck, hck⟩ : ∃ n, ch k = n := ⟨_, rfl⟩
      obtain ⟨sk, hsk⟩ : ∃ n, sd k = n := ⟨_, rfl⟩
      rw [hck] at hst hb2 hb3
      rw [hsk] at hst HTI
      have HCK := Lib.hid hck
      rw [HCK.out]
      have hwn : IntKind.i64.wrap (-n) = -n := IntWalk.i64_in _ (by omega)
      have hwc : IntKind.i64.wrap (ck + 1) = ck + 1 := IntWalk.i64_in _ (by omega)
      have hi0 : (0 : Int) ≤ (k : Int) := by omega
      have hi1 : (k : Int) < (M : Int) := by omega
      have HSTK := Lib.hid hst
      obtain ⟨c0, c1⟩ := hcell
      clear hx hn hck hsk hst hkq hb2 hb3
      go_wp2_with fail
      have hbx : Below wr.heap.size wr (wr.alloc (.cells #[.string (numS x), .string (denS x)] 24)) := (Below.refl _ _).alloc (Nat.le_refl _) _
      replace HTI := Lib.hid (HTI.out.step hbx)
      refine (TS.out _ (HE0.out.kept HTI.out.g HP.out)).mono ?_
      rintro e W5 ⟨rfl, hb⟩
      replace HTI := Lib.hid (HTI.out.step hb)
      clear hb hbx c0 c1
      by_cases hz : n = 0
      · subst hz
        have hst := HSTK.out
        have hs : ch (k + 1) = ck ∧ sd (k + 1) = sk := by
          rcases hst with ⟨_, h2, h3⟩ | ⟨h1, _⟩
          · exact ⟨h2, h3⟩
          · exact absurd rfl h1
        clear hst
        have HS1 := Lib.hid hs
        clear hs
        go_wp2
        go_roundg (M - (k + 1))
        case measure => omega
        case rel => exact ⟨k + 1, by rw [HS1.out.1], by go_num, by omega, rfl, by rw [HS1.out.2]; exact HTI.out⟩
      · have hnz : (n != 0) = true := by simpa using hz
        have x5 := Lib.cell_of_heap HTI.out.h5 0
        have f5 := Lib.frozen_of_heap HTI.out.h5 0
        have hst := HSTK.out
        have HTS := Lib.hid (HTI.out.store (sd' := n) HN.out.2.1 HN.out.2.2 HN.out.1)
        by_cases he : sk = -n
        · have hs : ch (k + 1) = ck + 1 ∧ sd (k + 1) = n := by
            rcases hst with ⟨h1, _⟩ | ⟨_, h2, ⟨_, h3⟩ | ⟨h3, _⟩⟩
            · exact absurd h1 hz
            · exact ⟨h3, h2⟩
            · exact absurd he h3
          have HS1 := Lib.hid hs
          have heq : ((sk : Int) == -n) = true := by simpa using he
          clear hs hst
          go_wp2
          go_roundg (M - (k + 1))
          case measure => omega
          case rel => exact ⟨k + 1, by rw [HS1.out.1], by go_num, by omega, rfl, by rw [HS1.out.2]; exact HTS.out⟩
        · have hs : ch (k + 1) = ck ∧ sd (k + 1) = n := by
            rcases hst with ⟨h1, _⟩ | ⟨_, h2, ⟨h3, _⟩ | ⟨_, h3⟩⟩
            · exact absurd h1 hz
            · exact absurd h3 he
            · exact ⟨h3, h2⟩
          have HS1 := Lib.hid hs
          have heq : ((sk : Int) == -n) = false := beq_eq_false_iff_ne.2 he
          clear hs hst
          go_wp2
          go_roundg (M - (k + 1))
          case measure => omega
          case rel => exact ⟨k + 1, by rw [HS1.out.1], by go_num, by omega, rfl, by rw [HS1.out.2]; exact HTS.out⟩
    · have hd : decide ((k : Int) < (M : Int)) = false := decide_eq_false (by omega)
      have hd2 : decide (k < M) = false := decide_eq_false hlt
      have hkM : k = M := by omega
      subst hkM
      have TW1 := Lib.hid (fun W => y_within_out 0 1 1 W (.inl (by decide)))
      rw [HCL.out]
      clear hlt hk
      go_wp2_with fail
      refine (TW1.out _).mono ?_
      rintro e W6 ⟨rfl, hws⟩
      replace hws := hws.symm
      subst hws
      unfold stopped
      go_wp2
      exact ⟨rfl, rfl, HTI.out.g⟩
end Go.Proofs.YtcbolipiaflfbaaGreatDoor.Num.Fy

/- package value: Numbers, where each argument is a number or an array of numbers. Conditions: all numbers fit; the tables lie as they are laid. -/
namespace Go.Proofs.YtcbolipiaflfbaaGreatDoor.Num
open Go.RowKit Go.Lib

/-- an argument that is a number or an array of numbers -/
def NArg (W : World) (b B : Nat) (v : Val) (qs : List Rat) : Prop :=
  (∃ q, v = numVal' q ∧ qs = [q]) ∨ ∃ r s g C, v = arrVal' r s g qs.length C ∧ 0 < qs.length ∧ qs.length ≤ 1000 ∧ g < B ∧ g ≠ b ∧ ValsAt W g 0 (numVals qs)
theorem NArg.other {W W' : World} {b B : Nat} {v : Val} {qs : List Rat} (h : NArg W b B v qs) (ho : ∀ k, k < B → k ≠ b → W'.heap[k]? = W.heap[k]?) : NArg W' b B v qs := by
  rcases h with h | ⟨r, s, g, C, h1, h2, h3, h4, h5, h6⟩
  · exact .inl h
  · exact .inr ⟨r, s, g, C, h1, h2, h3, h4, h5, vals_other h6 (ho g h4 h5)⟩
theorem NArg.below {W W' : World} {b B : Nat} {v : Val} {qs : List Rat} (h : NArg W b B v qs) (hb : Below W.heap.size W W') (hB : B ≤ W.heap.size) : NArg W' b B v qs :=
  h.other (fun k hk _ => hb.block k (Nat.lt_of_lt_of_le hk hB))
theorem NArg.kept {W W' : World} {b B : Nat} {v : Val} {qs : List Rat} (h : NArg W b B v qs) (hg : W.grownBy W' (some b)) (hB : B ≤ W.heap.size) : NArg W' b B v qs :=
  h.other (fun k hk hne => hg.block k (Nat.lt_of_lt_of_le hk hB) (fun e => hne (Option.some.inj e)))

structure MixI (W0 : World) (b g L C : Nat) (vs : List Val) (qss : List (List Rat)) (i : Nat) (v : Value) (done : List Rat) (W : World) : Prop where
  args : ArgsAt W b (some ⟨g, 0, none⟩) L C i
  vals : ValsAt W g 0 vs
  parts : ∀ j (h : j < vs.length) (h' : j < qss.length), NArg W b W0.heap.size vs[j] qss[j]
  env : Env W
  grown : W0.grownBy W (some b)
  own : OwnF W0.heap.size v done W
theorem vals_kept {W W' : World} {g b : Nat} {vs : List Val} (h : ValsAt W g 0 vs) (hg : W.grownBy W' (some b)) (hne : g ≠ b) (hlt : g < W.heap.size) : ValsAt W' g 0 vs :=
  vals_other h (hg.block g hlt (fun e => hne (Option.some.inj e)))
theorem MixI.below {W0 W W' : World} {b g L C i : Nat} {vs : List Val} {qss : List (List Rat)} {done : List Rat} {v : Value} (h : MixI W0 b g L C vs qss i v done W) (hb : Below W.heap.size W W') : MixI W0 b g L C vs qss i v done W' :=
  ⟨keep_block h.args hb, h.vals.below hb, fun j hj hj' => (h.parts j hj hj').below hb h.grown.size, h.env.below hb, kept_trans h.grown (kept_below hb), h.own.kept (only_of_below hb none) (by cases v.ownBlock <;> simp)⟩
theorem MixI.next {W0 W W' : World} {b g L C i n : Nat} {vs : List Val} {qss : List (List Rat)} {done : List Rat} {v : Value} (h : MixI W0 b g L C vs qss i v done W) (ha : ArgsAt W' b (some ⟨g, 0, none⟩) L C n) (hg : W.grownBy W' (some b)) (hP : Past b) (hgb : g ≠ b) (hb0 : b < W0.heap.size) (hg0 : g < W0.heap.size) : MixI W0 b g L C vs qss n v done W' :=
  ⟨ha, vals_kept h.vals hg hgb (Nat.lt_of_lt_of_le hg0 h.grown.size), fun j hj hj' => (h.parts j hj hj').kept hg h.grown.size, h.env.kept hg hP, kept_trans h.grown hg, h.own.kept hg (by
    cases hv : v.ownBlock with
    | none => exact .inl rfl
    | some r => right; intro e; have := own_ge h.own r hv; injection e; omega)⟩
theorem MixI.push {W0 W W' : World} {b g L C i : Nat} {vs : List Val} {qss : List (List Rat)} {done qs : List Rat} {v v' : Value} (h : MixI W0 b g L C vs qss i v done W) (ho : W'.ownsRow W0.heap.size 24 2 v' (done.length + qs.length) (fracCells done ++ fracCells qs)) (hg : W.grownBy W' v.ownBlock) (hb0 : b < W0.heap.size) (hg0 : g < W0.heap.size) (hE0 : Past W0.heap.size) : MixI W0 b g L C vs qss i v' (done ++ qs) W' := by
  have hother : ∀ k, k < W0.heap.size → W'.heap[k]? = W.heap[k]? := fun k hk => hg.block k (Nat.lt_of_lt_of_le hk h.grown.size) (fun e => by have := own_ge h.own k e.symm; omega)
  exact ⟨(hother b hb0).trans h.args, vals_other h.vals (hother g hg0), fun j hj hj' => (h.parts j hj hj').other (fun k hk _ => hother k hk), h.env.low hother hE0 hg.size, only_then h.grown hg (fun r hr => .inr (own_ge h.own r hr)), by unfold OwnF; rw [fracCells_append, List.length_append]; exact ho⟩
theorem flat_take (qss : List (List Rat)) (i : Nat) (h : i < qss.length) : (qss.take (i + 1)).flatten = (qss.take i).flatten ++ qss[i] := by
  rw [List.take_succ_eq_append_getElem h, List.flatten_append]; simp
theorem flat_le : ∀ (qss : List (List Rat)), (∀ qs ∈ qss, qs.length ≤ 1000) → qss.flatten.length ≤ qss.length * 1000
  | [], _ => by simp
  | q :: r, h => by
    have h1 := flat_le r (fun x hx => h x (by simp [hx]))
    have h2 := h q (by simp)
    rw [List.flatten_cons, List.length_append, List.length_cons]; omega

set_option maxHeartbeats 8000000 in
set_option maxRecDepth 100000 in
theorem numbers_mix (vs : List Val) (qss : List (List Rat)) (b g C : Nat) (w : World) (h9 : vs.length ≤ 300) (hl : qss.length = vs.length) (hq9 : ∀ qs ∈ qss, qs.length ≤ 1000) (hq : ∀ qs ∈ qss, ∀ q ∈ qs, fits q = true) (ha : ArgsAt w b (some ⟨g, 0, none⟩) vs.length C 0) (hv : ValsAt w g 0 vs) (hp : ∀ j (h : j < vs.length) (h' : j < qss.length), NArg w b w.heap.size vs[j] qss[j]) (hgb : g ≠ b) (hg0 : g < w.heap.size) (hE : Env w) (hP : Past b) :
    Calls Tryz.prog 163 #[.pointer (some ⟨b, 0, none⟩)] w fun e w' => ∃ v, e = .returned v ∧ OwnF w.heap.size v qss.flatten w' ∧ Env w' ∧ w.grownBy w' (some b) := by
  have hb0 : b < w.heap.size := heap_lt ha
  have HI0 := Lib.hid (show MixI w b g vs.length C vs qss 0 (.slice none 0 0) [] w from ⟨ha, hv, hp, hE, only_refl _ _, World.ownsRow_nil _ _ _ _⟩)
  have HE0 := Lib.hid (show Past w.heap.size from hE.room)
  have HP := Lib.hid hP
  have HGB := Lib.hid hgb
  have HQ := Lib.hid hq
  have HQ9 := Lib.hid hq9
  have HQL := Lib.hid hl
  obtain ⟨L, hL⟩ : ∃ L, vs.length = L := ⟨_, rfl⟩
  have HLL := Lib.hid hL
  rw [hL] at HI0 h9
  obtain ⟨i0, hi0', hz0, hz1, hz2⟩ := info_frac
  have TM := Lib.hid (fun W i ga => more_any b (some ⟨g, 0, none⟩) L C i W ga (by omega))
  clear ha hv hp hgb hE hP hq hq9 hl hL
  go_enter Tryz.func163, Tryz.ntmps163
  go_wp2_with fail
  go_loopg [3] L (fun gh v3 wx => ∃ i : Nat, i ≤ L ∧ gh = L - i ∧ MixI w b g L C vs qss i v3 (qss.take i).flatten wx)
  case atStart => exact ⟨0, Nat.zero_le _, rfl, HI0.out⟩
  case round =>
    clear HI0
    obtain ⟨i, hi, rfl, hni⟩ := hrel
    have HNI := Lib.hid hni
    clear hni
    go_wp2_with fail
    refine (TM.out _ i HNI.out.args).mono ?_
    rintro e w1 ⟨rfl, hb⟩
    replace HNI := Lib.hid (HNI.out.below hb)
    clear hb
    by_cases hlt : i < L
    · have hd : decide (i < L) = true := decide_eq_true hlt
      rw [hd]
      have hiq : i < vs.length := by rw [HLL.out]; exact hlt
      have hiq' : i < qss.length := by rw [HQL.out]; exact hiq
      have hpart := HNI.out.parts i hiq hiq'
      have hcell := HNI.out.vals.at i hiq
      have hdl : (qss.take i).flatten.length ≤ 300000 := by
        refine Nat.le_trans (flat_le _ (fun x hx => HQ9.out x (List.mem_of_mem_take hx))) ?_
        rw [List.length_take]; omega
      have htk := flat_take qss i hiq'
      have hfit := HQ.out qss[i] (List.getElem_mem hiq')
      obtain ⟨vi, hvi⟩ : ∃ v, vs[i] = v := ⟨_, rfl⟩
      obtain ⟨qi, hqi⟩ : ∃ q, qss[i] = q := ⟨_, rfl⟩
      rw [hvi, hqi] at hpart
      rw [hvi] at hcell
      rw [hqi] at htk hfit
      have HTK := Lib.hid htk
      have HFIT := Lib.hid hfit
      obtain ⟨D, hD⟩ : ∃ D, (qss.take i).flatten = D := ⟨_, rfl⟩
      rw [hD] at HTK HNI hdl
      obtain ⟨DL, hDL⟩ : ∃ n, D.length = n := ⟨_, rfl⟩
      rw [hDL] at hdl
      have HDL := Lib.hid hDL
      clear hvi hqi htk hiq hiq' hd hfit hD hDL
      rcases hpart with ⟨q, rfl, rfl⟩ | ⟨r, s, gi, Ci, rfl, hp1, hp2, hp3, hp4, hp5⟩
      · have HNC := Lib.hid (show NumCells w1 g (0 + i * 9) q from hcell)
        have TV := Lib.hid (fun W ga gc => value_any b g 0 L C i 1 (numS q) (denS q) { data := #[] } false 0 0 0 none 0 0 W ga hlt (by omega) HGB.out gc)
        have TN := Lib.hid (fun W ge => toNumber_num q W (HFIT.out q (by simp)) ge)
        rw [fracV_is q] at TN
        clear hcell
        go_wp2_with fail
        refine (TV.out _ HNI.out.args HNC.out).mono ?_
        rintro e w2 ⟨rfl, ha, hg⟩
        replace HNI := Lib.hid (HNI.out.next ha hg HP.out HGB.out hb0 hg0)
        clear ha hg
        replace HNI := Lib.hid (HNI.out.below ((Below.refl w2.heap.size w2).alloc (Nat.le_refl _) (.cells #[.int .i64 1, .string (numS q), .string (denS q), .string { data := #[] }, .bool false, .int .i64 0, .int .i64 0, .int .i64 0, .slice none 0 0] 27)))
        go_wp2_with fail
        refine (TN.out _ HNI.out.env).mono ?_
        rintro e w3 ⟨rfl, hb⟩
        replace HNI := Lib.hid (HNI.out.below hb)
        clear hb
        replace HNI := Lib.hid (HNI.out.below ((Below.refl w3.heap.size w3).alloc (Nat.le_refl _) (.cells #[.string (numS q), .string (denS q)] 24)))
        go_wp2_with fail
        refine (stop_zero _).mono ?_
        rintro e w4 ⟨rfl, rfl⟩
        replace HNI := Lib.hid (HNI.out.below ((Below.refl (w3.alloc (.cells #[.string (numS q), .string (denS q)] 24)).heap.size (w3.alloc (.cells #[.string (numS q), .string (denS q)] 24))).alloc (Nat.le_refl _) (.cells #[.string (numS q), .string (denS q)] 24)))
        have hown := HNI.out.own
        unfold OwnF at hown
        rw [HDL.out] at hown
        obtain ⟨av, cv, hu⟩ := owns_form hown
        subst hu
        have HOW := Lib.hid hown
        clear hown
        have hml : DL + 1 ≤ maxLen := by unfold maxLen; omega
        have hpos : (w3.alloc (.cells #[.string (numS q), .string (denS q)] 24)).heap.size = w3.heap.size + 1 := by simp
        have hnews := World.news_of_block (cs := #[.string (numS q), .string (denS q)]) (t := 24) (fr := (0, 0)) (heap_alloc_new (w3.alloc (.cells #[.string (numS q), .string (denS q)] 24)) (.cells #[.string (numS q), .string (denS q)] 24))
        rw [hpos] at hnews
        have HNW := Lib.hid hnews
        have HBS := Lib.hid (show w.heap.size ≤ ((w3.alloc (.cells #[.string (numS q), .string (denS q)] 24)).alloc (.cells #[.string (numS q), .string (denS q)] 24)).heap.size from HNI.out.grown.size)
        clear hnews hpos
        go_wp2_with (at_builtin; refine wpList_append_own _ rfl _ _ 141 rfl w.heap.size 24 i0 _ 2 32 Tryz.underlying141 hi0' hz0 hz1 hz2 rfl (by decide) (.slice av DL cv) DL (fracCells D) rfl HOW.out ⟨w3.heap.size + 1, 0, none⟩ 1 1 [.string (numS q), .string (denS q)] rfl rfl HNW.out (by simp [Value.oneCell']) hml (by omega) HBS.out ?_)
        intro v5 w5 hown5 hgrow5 _
        have HNI5 := Lib.hid (HNI.out.push (qs := [q]) (by rw [HDL.out]; exact hown5) hgrow5 hb0 hg0 HE0.out)
        rw [← HTK.out] at HNI5
        clear hown5 hgrow5
        go_wp2
        go_roundg (L - (i + 1))
        case measure => omega
        case rel => exact ⟨i + 1, by omega, rfl, HNI5.out⟩
      · have HNC := Lib.hid hcell
        have TV := Lib.hid (fun W ga gc => value_any b g 0 L C i 5 { data := #[] } { data := #[] } { data := #[] } false 0 r s (some ⟨gi, 0, none⟩) qi.length Ci W ga hlt (by omega) HGB.out gc)
        have TI := Lib.hid (fun W gv ge => inside_arr qi r s gi Ci W hp2 hp1 gv ge)
        have HPV := Lib.hid hp5
        have HQI := Lib.hid hp1
        obtain ⟨M, hM⟩ : ∃ M, qi.length = M := ⟨_, rfl⟩
        have HM := Lib.hid hM
        have hM9 : M ≤ 1000 := by omega
        unfold arrVal' at HNC
        simp only [] at HNC
        rw [hM] at TV TI HNC
        have hpi := HP.out
        clear hcell hp1 hp2 hp5 hpi hM
        go_wp2_with fail
        refine (TV.out _ HNI.out.args HNC.out).mono ?_
        rintro e w2 ⟨rfl, ha, hg⟩
        replace HPV := Lib.hid (vals_kept HPV.out hg hp4 (Nat.lt_of_lt_of_le hp3 HNI.out.grown.size))
        replace HNI := Lib.hid (HNI.out.next ha hg HP.out HGB.out hb0 hg0)
        clear ha hg
        have hq := (Below.refl w2.heap.size w2).alloc (Nat.le_refl _) (.cells #[.int .i64 5, .string { data := #[] }, .string { data := #[] }, .string { data := #[] }, .bool false, .int .i64 0, .int .i64 r, .int .i64 s, .slice (some ⟨gi, 0, none⟩) M Ci] 27)
        replace HPV := Lib.hid (HPV.out.below hq)
        replace HNI := Lib.hid (HNI.out.below hq)
        clear hq
        go_wp2_with fail
        refine (TI.out _ HPV.out HNI.out.env).mono ?_
        rintro e w3 ⟨vI, rfl, hownI, henvI, hb⟩
        have hsz := HNI.out.grown.size
        replace HNI := Lib.hid (HNI.out.below hb)
        clear hb
        obtain ⟨gI, cI, rfl, hgI, hcI⟩ := hownI.cells HQI.out
        rw [HM.out]
        have hown := HNI.out.own
        unfold OwnF at hown
        rw [HDL.out] at hown
        obtain ⟨av, cv, hu⟩ := owns_form hown
        subst hu
        have HOW := Lib.hid hown
        clear hown
        have hml : DL + M ≤ maxLen := by unfold maxLen; omega
        have hnl : (fracCells qi).length = M * 2 := by rw [frac_len, HM.out]
        have HNW := Lib.hid hcI
        have HBS := Lib.hid (show w.heap.size ≤ w3.heap.size from HNI.out.grown.size)
        clear hownI henvI hgI hsz hcI
        go_wp2_with (at_builtin; refine wpList_append_own _ rfl _ _ 141 rfl w.heap.size 24 i0 _ 2 32 Tryz.underlying141 hi0' hz0 hz1 hz2 rfl (by decide) (.slice av DL cv) DL (fracCells D) rfl HOW.out ⟨gI, 0, none⟩ M cI (fracCells qi) rfl hnl HNW.out (frac_one qi) hml (by omega) HBS.out ?_)
        intro v5 w5 hown5 hgrow5 _
        have HNI5 := Lib.hid (HNI.out.push (qs := qi) (by rw [HDL.out, HM.out]; exact hown5) hgrow5 hb0 hg0 HE0.out)
        rw [← HTK.out] at HNI5
        clear hown5 hgrow5 hnl
        go_wp2
        go_roundg (L - (i + 1))
        case measure => omega
        case rel => exact ⟨i + 1, by omega, rfl, HNI5.out⟩
    · have hd : decide (i < L) = false := decide_eq_false hlt
      rw [hd]
      have hiL : i = L := by omega
      have HTK := Lib.hid (show qss.take i = qss by rw [hiL, ← HLL.out, ← HQL.out, List.take_length])
      rw [HTK.out] at HNI
      clear hiL hlt
      go_wp2
      go_ret
      exact ⟨_, rfl, HNI.out.own, HNI.out.env, HNI.out.grown⟩
end Go.Proofs.YtcbolipiaflfbaaGreatDoor.Num

/- the law's math at arguments that are numbers or arrays of numbers: SUM, SUMSQ. Conditions: all numbers fit; the tables lie as they are laid. -/
namespace Go.Proofs.YtcbolipiaflfbaaGreatDoor.Num
open Go.RowKit Go.Lib

/-- an argument that is a number or an array of numbers -/
def AArg (W : World) (v : Val) (qs : List Rat) : Prop :=
  (∃ q, v = numVal' q ∧ qs = [q]) ∨ ∃ r s g C, v = arrVal' r s g qs.length C ∧ 1 ≤ r ∧ r ≤ 1000 ∧ 1 ≤ s ∧ s ≤ 1000 ∧ r * s = (qs.length : Int) ∧ 0 < qs.length ∧ qs.length ≤ 1000 ∧ ValsAt W g 0 (numVals qs)
theorem AArg.below {W W' : World} {v : Val} {qs : List Rat} (h : AArg W v qs) (hb : Below W.heap.size W W') : AArg W' v qs := by
  rcases h with h | ⟨r, s, g, C, h1, h2, h3, h4, h5, h6, h7, h8, h9⟩
  · exact .inl h
  · exact .inr ⟨r, s, g, C, h1, h2, h3, h4, h5, h6, h7, h8, h9.below hb⟩
theorem items_lt {W : World} {g : Nat} {qs : List Rat} (h : ValsAt W g 0 (numVals qs)) (h0 : 0 < qs.length) : g < W.heap.size :=
  cell_lt (h.at 0 (by rw [numVals_len]; exact h0)).1
theorem items_ne {W : World} {g b L C n : Nat} {A : Option Addr} {qs : List Rat} (h : ValsAt W g 0 (numVals qs)) (h0 : 0 < qs.length) (ha : ArgsAt W b A L C n) : g ≠ b := by
  rintro rfl
  have h1 := (item_at h 0 h0 _ rfl).1
  rw [Nat.zero_mul] at h1
  have h2 := Lib.cell_of_heap ha 0
  rw [h1] at h2
  simp at h2
theorem AArg.narg {W : World} {v : Val} {qs : List Rat} {b L C n : Nat} {A : Option Addr} (h : AArg W v qs) (ha : ArgsAt W b A L C n) : NArg W b W.heap.size v qs := by
  rcases h with h | ⟨r, s, g, C, h1, h2, h3, h4, h5, h6, h7, h8, h9⟩
  · exact .inl h
  · exact .inr ⟨r, s, g, C, h1, h7, h8, items_lt h9 h7, items_ne h9 h7 ha, h9⟩
theorem AArg.check {W : World} {v : Val} {qs : List Rat} (h : AArg W v qs) (hq : ∀ q ∈ qs, fits q = true) (hE : Env W) : Calls Tryz.prog 47 #[v.agg] W fun e w' => e = .returned (.int .i64 0) ∧ Below W.heap.size W w' := by
  rcases h with ⟨q, rfl, rfl⟩ | ⟨r, s, g, C, rfl, h2, h3, h4, h5, h6, h7, h8, h9⟩
  · exact check_num q W (hq q (by simp)) hE
  · exact check_arr qs r s g C W h2 h3 h4 h5 h6 hq h8 h9 hE

/-- arguments in a row, each a number or an array -/
def Args2 (W : World) (vs : List Val) (qss : List (List Rat)) : Prop := qss.length = vs.length ∧ ∀ j (h : j < vs.length) (h' : j < qss.length), AArg W vs[j] qss[j]
theorem Args2.below {W W' : World} {vs : List Val} {qss : List (List Rat)} (h : Args2 W vs qss) (hb : Below W.heap.size W W') : Args2 W' vs qss := ⟨h.1, fun j hj hj' => (h.2 j hj hj').below hb⟩
theorem Args2.short {W : World} {vs : List Val} {qss : List (List Rat)} (h : Args2 W vs qss) : ∀ qs ∈ qss, qs.length ≤ 1000 := by
  intro qs hq
  obtain ⟨j, hj, rfl⟩ := List.mem_iff_getElem.1 hq
  rcases h.2 j (by rw [← h.1]; exact hj) hj with ⟨q, _, e⟩ | ⟨r, s, g, C, h1, h2, h3, h4, h5, h6, h7, h8, h9⟩
  · rw [e]; simp
  · exact h8

theorem math_mix_val (i : Nat) (r : Row) (hi : i < allRows.length) (hr : allRows[i] = r) (hkd : r.kinds = { data := #[97] }) (hfr : ∀ j (hj : j < i), (allRows[i].name == (allRows[j]'(by omega)).name) = false) (hnum : r.num = true) (eF : ∀ args w, (callFunc r.fn args).run Tryz.prog w = .ok (.enter r.fn args) w) (vs : List Val) (qss : List (List Rat)) (ab ao C : Nat) (q : Rat) (w : World) (h0 : 0 < vs.length) (h9 : vs.length ≤ 300) (hc1 : r.least ≤ vs.length) (hc2 : (vs.length : Int) ≤ r.most) (hv : ValsAt w ab ao vs) (hA : Args2 w vs qss) (hE : Env w) (hqs : ∀ qs ∈ qss, ∀ q ∈ qs, fits q = true) (hq : fits q = true)
    (hF : ∀ W b g cap, Env W → Past b → b < W.heap.size → g < W.heap.size → ArgsAt W b (some ⟨g, 0, none⟩) vs.length cap 0 → ValsAt W g 0 vs → Args2 W vs qss → g ≠ b → Calls Tryz.prog r.fn #[.pointer (some ⟨b, 0, none⟩)] W fun e w' => e = .returned (fracV q) ∧ W.grownBy w' (some b)) :
    Calls Tryz.prog 11 #[.string r.name, .slice (some ⟨ab, ao, none⟩) vs.length C] w fun e w' => e = .returned (numVal q) ∧ Below w.heap.size w w' :=
  math_of r.name (.slice (some ⟨ab, ao, none⟩) vs.length C) (numVal' q) w ⟨_, _, _, rfl⟩ (fun W b hb hT =>
    run_a_val i r hi hr hkd hfr vs b ab ao C (numVal' q) W h0 h9 hc1 hc2 (hv.below hb) (hE.below hb) hT ⟨rfl, rfl, rfl, rfl, rfl⟩ (fun W g => check_num q W hq g)
      (fun v hv' W' h => by
        obtain ⟨j, hj, rfl⟩ := List.mem_iff_getElem.1 hv'
        have hj' : j < qss.length := by rw [hA.1]; exact hj
        exact ((hA.below (hb.trans (h.mono hb.size))).2 j hj hj').check (hqs _ (List.getElem_mem hj')) ((hE.below hb).below h))
      (fun W' e g cap hb' hE' hfn hva => entry1_val r g cap e vs q W' hnum hfn eF hE' hva hq (fun W'' b' hb'' hE'' hP hlt ha hva' hne => hF W'' b' g cap hE'' hP hlt (cell_lt (hva'.at 0 h0).1) ha hva' (((hA.below hb).below hb').below hb'') hne) h0))

set_option maxHeartbeats 4000000 in
set_option maxRecDepth 100000 in
theorem fn_sum_mix (vs : List Val) (qss : List (List Rat)) (b g C : Nat) (w : World) (h9 : vs.length ≤ 300) (hA : Args2 w vs qss) (hq : ∀ qs ∈ qss, ∀ q ∈ qs, fits q = true) (h0 : 0 < qss.flatten.length) (h99 : qss.flatten.length ≤ 300000) (hf : ∀ k, k ≤ qss.flatten.length → fits (sumL (qss.flatten.take k)) = true) (ha : ArgsAt w b (some ⟨g, 0, none⟩) vs.length C 0) (hv : ValsAt w g 0 vs) (hgb : g ≠ b) (hg0 : g < w.heap.size) (hE : Env w) (hP : Past b) :
    Calls Tryz.prog 213 #[.pointer (some ⟨b, 0, none⟩)] w fun e w' => e = .returned (fracV (sumL qss.flatten)) ∧ w.grownBy w' (some b) := by
  have hb : Below w.heap.size w (w.alloc (.cells #[.string { data := #[] }, .string { data := #[] }] 24)) := (Below.refl _ _).alloc (Nat.le_refl _) _
  have HR := Lib.hid (heap_alloc_new w (.cells #[.string { data := #[] }, .string { data := #[] }] 24))
  have HL := Lib.hid hb
  have TN := Lib.hid (numbers_mix vs qss b g C (w.alloc (.cells #[.string { data := #[] }, .string { data := #[] }] 24)) h9 hA.1 hA.short hq (keep_block ha hb) (hv.below hb) (fun j hj hj' => ((hA.below hb).2 j hj hj').narg (show ArgsAt (w.alloc (.cells #[.string { data := #[] }, .string { data := #[] }] 24)) b (some ⟨g, 0, none⟩) vs.length C 0 from keep_block ha hb)) hgb (by simp; omega) (hE.below hb) hP)
  have NRB := Lib.hid (show w.heap.size ≠ b from Nat.ne_of_gt (heap_lt ha))
  have HQ := Lib.hid (show ∀ q ∈ qss.flatten, fits q = true from fun q hqm => by obtain ⟨qs, h1, h2⟩ := List.mem_flatten.1 hqm; exact hq qs h1 q h2)
  have HF := Lib.hid hf
  obtain ⟨qs, hqs⟩ : ∃ qs, qss.flatten = qs := ⟨_, rfl⟩
  rw [hqs] at TN HQ HF h0 h99 ⊢
  obtain ⟨L, hL⟩ : ∃ L, qs.length = L := ⟨_, rfl⟩
  have HLL := Lib.hid hL
  rw [hL] at h0 h99
  clear hb ha hv hgb hg0 hE hq hf hP hL hA hqs
  rw [fracV_is (sumL qs)]
  go_enter Tryz.func213, Tryz.ntmps213
  go_wp2_with fail
  refine TN.out.mono ?_
  rintro e w1 ⟨v, rfl, hown, henv, hg⟩
  obtain ⟨gg, cap, rfl, _, _, hfr⟩ := hown.at (by rw [HLL.out]; exact h0)
  have TT := Lib.hid (total_any qs gg cap w1 (by rw [HLL.out]; exact h0) (by rw [HLL.out]; omega) hfr HQ.out HF.out henv)
  rw [fracV_is (sumL qs)] at TT
  replace HR := Lib.hid (kept_block HR.out hg NRB.out)
  have HG := Lib.hid (kept_trans (kept_below (b := b) HL.out) hg)
  clear hown henv hg hfr
  go_wp2_with fail
  refine TT.out.mono ?_
  rintro e w2 ⟨rfl, hb⟩
  replace HR := Lib.hid (keep_block HR.out hb)
  replace HG := Lib.hid (kept_trans HG.out (kept_below hb))
  clear hb
  obtain ⟨⟨r0, r1⟩, rf0, rf1⟩ := two_at HR.out
  have hF := set2_at HR.out (.string (numS (sumL qs))) (.string (denS (sumL qs)))
  obtain ⟨⟨e0, e1⟩, _⟩ := two_at hF
  have HG2 := Lib.hid (kept2 HG.out (Nat.le_refl _) (.string (numS (sumL qs))) (.string (denS (sumL qs))))
  clear hF
  go_wp2
  refine bodyPost_ret (v := .agg #[.string (numS (sumL qs)), .string (denS (sumL qs))]) (by simp [results, Tryz.results213, go_sem, e0, e1]) rfl ⟨rfl, HG2.out⟩
end Go.Proofs.YtcbolipiaflfbaaGreatDoor.Num

/- package fmath: SUMSQ at numbers and arrays of numbers. Conditions: all numbers fit; the tables lie as they are laid. -/
namespace Go.Proofs.YtcbolipiaflfbaaGreatDoor.Num
open Go.RowKit Go.Lib

/-- a row of fractions in a block that may be written -/
def RowB (W : World) (g : Nat) (xs : List Rat) : Prop := ∃ cur, W.heap[g]? = some (.cells cur 24 (0, 0)) ∧ ∀ i (h : i < xs.length), cur[i * 2]? = some (.string (numS xs[i])) ∧ cur[i * 2 + 1]? = some (.string (denS xs[i]))
theorem RowB.fracs {W : World} {g : Nat} {xs : List Rat} (h : RowB W g xs) : FracsAt W g xs := by
  obtain ⟨cur, hg, hc⟩ := h
  intro i hi
  obtain ⟨h1, h2⟩ := hc i hi
  exact ⟨(Lib.cell_of_heap hg _).trans h1, (Lib.cell_of_heap hg _).trans h2⟩
theorem RowB.below {W W' : World} {g : Nat} {xs : List Rat} (h : RowB W g xs) (hb : Below W.heap.size W W') : RowB W' g xs := by
  obtain ⟨cur, hg, hc⟩ := h
  exact ⟨cur, keep_block hg hb, hc⟩
theorem RowB.free {W : World} {g : Nat} {xs : List Rat} (h : RowB W g xs) (j : Nat) : W.frozen? ⟨g, j, none⟩ = false := by
  obtain ⟨cur, hg, hc⟩ := h
  rw [Lib.frozen_of_heap hg j]
theorem RowB.set {W : World} {g : Nat} {xs : List Rat} (h : RowB W g xs) (i : Nat) (q : Rat) (hi : i < xs.length) : RowB ((W.setCell ⟨g, i * 2, none⟩ (.string (numS q))).setCell ⟨g, i * 2 + 1, none⟩ (.string (denS q))) g (xs.set i q) := by
  obtain ⟨cur, hg, hc⟩ := h
  refine ⟨_, heap_setCell_at (heap_setCell_at hg (i * 2) (.string (numS q))) (i * 2 + 1) (.string (denS q)), ?_⟩
  intro j hj
  rw [List.length_set] at hj
  obtain ⟨h1, h2⟩ := hc j hj
  have hl1 : i * 2 + 1 < cur.size := (Array.getElem?_eq_some_iff.1 (hc i hi).2).1
  by_cases e : i = j
  · subst e
    rw [List.getElem_set_self]
    constructor
    · rw [Array.getElem?_setIfInBounds_ne (by omega), Array.getElem?_setIfInBounds_self_of_lt (by omega)]
    · rw [Array.getElem?_setIfInBounds_self_of_lt (by simp; omega)]
  · rw [List.getElem_set_ne e]
    constructor
    · rw [Array.getElem?_setIfInBounds_ne (by omega), Array.getElem?_setIfInBounds_ne (by omega)]; exact h1
    · rw [Array.getElem?_setIfInBounds_ne (by omega), Array.getElem?_setIfInBounds_ne (by omega)]; exact h2
theorem OwnF.rowB {B : Nat} {v : Value} {qs : List Rat} {W : World} (h : OwnF B v qs W) (h0 : 0 < qs.length) : ∃ g cap, v = .slice (some ⟨g, 0, none⟩) qs.length cap ∧ B ≤ g ∧ RowB W g qs := by
  rcases h.2 with ⟨_, h0'⟩ | ⟨g, cap, cur, rfl, hb, hg, hc1, hc2, hcs, htk⟩
  · omega
  · refine ⟨g, cap, rfl, hb, cur, hg, fun i hi => ?_⟩
    obtain ⟨h1, h2⟩ := fracCells_get qs i hi
    rw [← htk] at h1 h2
    rw [List.getElem?_take_of_lt (by omega)] at h1 h2
    exact ⟨by simpa using h1, by simpa using h2⟩

/-- what stays while the numbers are squared: the row, in part squared; the result's block -/
structure SqI (w1 : World) (gg R : Nat) (qs : List Rat) (k : Nat) (W : World) : Prop where
  row : ∃ xs : List Rat, xs.length = qs.length ∧ (∀ j (h : j < xs.length) (h' : j < qs.length), xs[j] = if j < k then qs[j] * qs[j] else qs[j]) ∧ RowB W gg xs
  res : W.heap[R]? = some (.cells #[.string { data := #[] }, .string { data := #[] }] 24 (0, 0))
  env : Env W
  low : w1.grownBy W (some gg)
theorem SqI.step {w1 W W' : World} {gg R k : Nat} {qs : List Rat} (h : SqI w1 gg R qs k W) (hb : Below W.heap.size W W') : SqI w1 gg R qs k W' := by
  obtain ⟨⟨xs, h1, h2, h3⟩, h4, h5, h6⟩ := h
  exact ⟨⟨xs, h1, h2, h3.below hb⟩, keep_block h4 hb, h5.below hb, kept_trans h6 (kept_below hb)⟩
theorem SqI.set {w1 W : World} {gg R k : Nat} {qs : List Rat} (h : SqI w1 gg R qs k W) (hk : k < qs.length) (hR : R ≠ gg) (hP : Past gg) : SqI w1 gg R qs (k + 1) ((W.setCell ⟨gg, k * 2, none⟩ (.string (numS (qs[k] * qs[k])))).setCell ⟨gg, k * 2 + 1, none⟩ (.string (denS (qs[k] * qs[k])))) := by
  obtain ⟨⟨xs, h1, h2, h3⟩, h4, h5, h6⟩ := h
  have hoth : ∀ j, j ≠ gg → ((W.setCell ⟨gg, k * 2, none⟩ (.string (numS (qs[k] * qs[k])))).setCell ⟨gg, k * 2 + 1, none⟩ (.string (denS (qs[k] * qs[k])))).heap[j]? = W.heap[j]? := fun j hj =>
    (Below.heap_setCell _ ⟨gg, k * 2 + 1, none⟩ _ j hj).trans (Below.heap_setCell W ⟨gg, k * 2, none⟩ _ j hj)
  refine ⟨⟨xs.set k (qs[k] * qs[k]), by simpa using h1, ?_, h3.set k _ (by omega)⟩, (hoth R hR).trans h4, h5.but hoth (by simp [size_setCell]) hP, only_setCell (p := ⟨gg, k * 2 + 1, none⟩) (only_setCell (p := ⟨gg, k * 2, none⟩) h6 (.inl rfl) _) (.inl rfl) _⟩
  intro j hj hj'
  by_cases e : k = j
  · subst e
    rw [List.getElem_set_self, if_pos (by omega)]
  · rw [List.getElem_set_ne e, h2 j (by simpa using hj) hj']
    by_cases hlt : j < k
    · rw [if_pos hlt, if_pos (by omega)]
    · rw [if_neg hlt, if_neg (by omega)]
theorem sq_all {qs xs : List Rat} (h : xs.length = qs.length) (h2 : ∀ j (h : j < xs.length) (h' : j < qs.length), xs[j] = if j < qs.length then qs[j] * qs[j] else qs[j]) : xs = qs.map fun q => q * q := by
  apply List.ext_getElem (by simpa using h)
  intro j hj hj'
  rw [List.getElem_map, h2 j hj (by omega), if_pos (by omega)]

set_option maxHeartbeats 4000000 in
set_option maxRecDepth 100000 in
theorem fn_sumsq (vs : List Val) (qss : List (List Rat)) (b g C : Nat) (w : World) (h9 : vs.length ≤ 300) (hA : Args2 w vs qss) (hq : ∀ qs ∈ qss, ∀ q ∈ qs, fits q = true) (hqq : ∀ qs ∈ qss, ∀ q ∈ qs, fits (q * q) = true) (h0 : 0 < qss.flatten.length) (h99 : qss.flatten.length ≤ 300000) (hf : ∀ k, k ≤ qss.flatten.length → fits (sumL ((qss.flatten.map fun q => q * q).take k)) = true) (ha : ArgsAt w b (some ⟨g, 0, none⟩) vs.length C 0) (hv : ValsAt w g 0 vs) (hgb : g ≠ b) (hg0 : g < w.heap.size) (hE : Env w) (hP : Past b) :
    Calls Tryz.prog 216 #[.pointer (some ⟨b, 0, none⟩)] w fun e w' => e = .returned (fracV (sumL (qss.flatten.map fun q => q * q))) ∧ w.grownBy w' (some b) := by
  have hb : Below w.heap.size w (w.alloc (.cells #[.string { data := #[] }, .string { data := #[] }] 24)) := (Below.refl _ _).alloc (Nat.le_refl _) _
  have HR := Lib.hid (heap_alloc_new w (.cells #[.string { data := #[] }, .string { data := #[] }] 24))
  have HL := Lib.hid hb
  have TN := Lib.hid (numbers_mix vs qss b g C (w.alloc (.cells #[.string { data := #[] }, .string { data := #[] }] 24)) h9 hA.1 hA.short hq (keep_block ha hb) (hv.below hb) (fun j hj hj' => ((hA.below hb).2 j hj hj').narg (show ArgsAt (w.alloc (.cells #[.string { data := #[] }, .string { data := #[] }] 24)) b (some ⟨g, 0, none⟩) vs.length C 0 from keep_block ha hb)) hgb (by simp; omega) (hE.below hb) hP)
  have NRB := Lib.hid (show w.heap.size ≠ b from Nat.ne_of_gt (heap_lt ha))
  have NRL := Lib.hid (show (w.alloc (.cells #[.string { data := #[] }, .string { data := #[] }] 24)).heap.size = w.heap.size + 1 by simp)
  have HPW := Lib.hid hE.room
  have HQ := Lib.hid (show ∀ q ∈ qss.flatten, fits q = true from fun q hqm => by obtain ⟨qs, h1, h2⟩ := List.mem_flatten.1 hqm; exact hq qs h1 q h2)
  have HQQ := Lib.hid (show ∀ q ∈ qss.flatten, fits (q * q) = true from fun q hqm => by obtain ⟨qs, h1, h2⟩ := List.mem_flatten.1 hqm; exact hqq qs h1 q h2)
  have HF := Lib.hid hf
  obtain ⟨qs, hqs⟩ : ∃ qs, qss.flatten = qs := ⟨_, rfl⟩
  rw [hqs] at TN HQ HQQ HF h0 h99 ⊢
  obtain ⟨L, hL⟩ : ∃ L, qs.length = L := ⟨_, rfl⟩
  have HLL := Lib.hid hL
  rw [hL] at h0 h99
  clear hb ha hv hgb hg0 hE hq hqq hf hP hL hA hqs
  obtain ⟨SQ, hSQ⟩ : ∃ xs, (qs.map fun q => q * q) = xs := ⟨_, rfl⟩
  have HSQ := Lib.hid hSQ
  rw [hSQ] at HF ⊢
  clear hSQ
  rw [fracV_is (sumL SQ)]
  go_enter Tryz.func216, Tryz.ntmps216
  go_wp2_with fail
  refine TN.out.mono ?_
  rintro e w1 ⟨v, rfl, hown, henv, hg⟩
  obtain ⟨gg, cap, rfl, hgg, hrow⟩ := hown.rowB (by rw [HLL.out]; exact h0)
  rw [HLL.out]
  replace HR := Lib.hid (kept_block HR.out hg NRB.out)
  have HG := Lib.hid (kept_trans (kept_below (b := b) HL.out) hg)
  have hge : w.heap.size + 1 ≤ gg := by rw [← NRL.out]; exact hgg
  have HGG := Lib.hid hge
  have HPG := Lib.hid (show Past gg from ⟨by have := HPW.out.1; omega, by have := HPW.out.2; omega⟩)
  have HI0 := Lib.hid (show SqI w1 gg w.heap.size qs 0 w1 from ⟨⟨qs, rfl, fun j h h' => by rw [if_neg (by omega)], hrow⟩, HR.out, henv, only_refl _ _⟩)
  clear hown henv hg hrow hgg hge HR
  go_wp2_with fail
  go_loopg [10] L (fun gh v10 wx => ∃ k : Nat, v10 = .int .i64 (k : Int) ∧ k ≤ L ∧ gh = L - k ∧ SqI w1 gg w.heap.size qs k wx)
  case atStart => exact ⟨0, rfl, Nat.zero_le _, rfl, HI0.out⟩
  case round =>
    clear HI0
    obtain ⟨k, rfl, hk, rfl, hti⟩ := hrel
    have HTI := Lib.hid hti
    clear hti
    by_cases hlt : k < L
    · have hd : decide ((k : Int) < (L : Int)) = true := decide_eq_true (by omega)
      have hd2 : decide (k < L) = true := decide_eq_true hlt
      have hkq : k < qs.length := by rw [HLL.out]; exact hlt
      obtain ⟨q, hqq⟩ : ∃ q, qs[k] = q := ⟨_, rfl⟩
      have hfq : fits q = true := by rw [← hqq]; exact HQ.out _ (List.getElem_mem hkq)
      have hfqq : fits (q * q) = true := by rw [← hqq]; exact HQQ.out _ (List.getElem_mem hkq)
      have HKQ := Lib.hid hkq
      have HQE := Lib.hid hqq
      have TM := Lib.hid (fun W gg => fm_mul q q W hfq hfq hfqq gg)
      obtain ⟨q2, hq2⟩ : ∃ x, q * q = x := ⟨_, rfl⟩
      have HQ2 := Lib.hid hq2
      rw [hq2] at TM
      rw [fracV_is q, fracV_is q2] at TM
      have hcell : wr.cell? ⟨gg, k * 2, none⟩ = some (.string (numS q)) ∧ wr.cell? ⟨gg, k * 2 + 1, none⟩ = some (.string (denS q)) := by
        obtain ⟨xs, e1, e2, e3⟩ := HTI.out.row
        have hx : k < xs.length := by omega
        have := e3.fracs k hx
        rw [e2 k hx hkq, if_neg (by omega), hqq] at this
        exact this
      obtain ⟨c0, c1⟩ := hcell
      have hi0 : (0 : Int) ≤ (k : Int) := by omega
      have hi1 : (k : Int) < (L : Int) := by omega
      clear hfq hfqq hqq hq2
      have HTA := Lib.hid (HTI.out.step ((Below.refl wr.heap.size wr).alloc (Nat.le_refl _) (.cells #[.string (numS q), .string (denS q)] 24)))
      go_wp2_with fail
      refine (TM.out _ HTA.out.env).mono ?_
      rintro e w2 ⟨rfl, hb⟩
      have HT2 := Lib.hid (HTA.out.step hb)
      clear hb c0 c1
      have hfree : ∀ j, w2.frozen? ⟨gg, j, none⟩ = false := by
        obtain ⟨xs, e1, e2, e3⟩ := HT2.out.row
        exact e3.free
      have hcell2 : (∃ u, w2.cell? ⟨gg, k * 2, none⟩ = some u) ∧ ∃ u, w2.cell? ⟨gg, k * 2 + 1, none⟩ = some u := by
        obtain ⟨xs, e1, e2, e3⟩ := HT2.out.row
        have hx : k < xs.length := by have := HKQ.out; omega
        exact ⟨⟨_, (e3.fracs k hx).1⟩, ⟨_, (e3.fracs k hx).2⟩⟩
      obtain ⟨⟨u0, d0⟩, ⟨u1, d1⟩⟩ := hcell2
      have f0 := hfree (k * 2)
      have f1 := hfree (k * 2 + 1)
      have HT3 := Lib.hid (HT2.out.set HKQ.out (by have := HGG.out; omega) HPG.out)
      rw [HQE.out, HQ2.out] at HT3
      clear hfree
      go_wp2
      go_roundg (L - (k + 1))
      case measure => omega
      case rel => exact ⟨k + 1, by go_num, by omega, by omega, HT3.out⟩
    · have hd : decide ((k : Int) < (L : Int)) = false := decide_eq_false (by omega)
      have hd2 : decide (k < L) = false := decide_eq_false hlt
      have hkL : k = L := by omega
      obtain ⟨xs, e1, e2, e3⟩ := HTI.out.row
      have hxs : xs = SQ := by
        rw [← HSQ.out]
        refine sq_all e1 (fun j h h' => ?_)
        rw [e2 j h h', if_pos (by rw [hkL, ← HLL.out]; exact h'), if_pos h']
      subst hxs
      have hxl : xs.length = L := by rw [e1, HLL.out]
      have TT := Lib.hid (total_any xs gg cap wr (by rw [hxl]; exact h0) (by rw [hxl]; omega) e3.fracs (by
        intro q hqm
        rw [← HSQ.out] at hqm
        obtain ⟨z, hz, rfl⟩ := List.mem_map.1 hqm
        exact HQQ.out z hz) (by rw [hxl, ← HLL.out]; exact HF.out) HTI.out.env)
      rw [hxl, fracV_is (sumL xs)] at TT
      have HR := Lib.hid HTI.out.res
      have hgr := HTI.out.low
      have HG3 := Lib.hid (show w.grownBy wr (some b) from only_then HG.out hgr (fun r hr => by injection hr with hr; right; have := HGG.out; omega))
      clear hkL hlt e1 e2 e3 hxl hgr
      go_wp2_with fail
      refine TT.out.mono ?_
      rintro e w2 ⟨rfl, hb⟩
      replace HR := Lib.hid (keep_block HR.out hb)
      replace HG3 := Lib.hid (kept_trans HG3.out (kept_below hb))
      clear hb
      obtain ⟨⟨r0, r1⟩, rf0, rf1⟩ := two_at HR.out
      have hF := set2_at HR.out (.string (numS (sumL xs))) (.string (denS (sumL xs)))
      obtain ⟨⟨e0, e1⟩, _⟩ := two_at hF
      have HG2 := Lib.hid (kept2 HG3.out (Nat.le_refl _) (.string (numS (sumL xs))) (.string (denS (sumL xs))))
      clear hF
      go_wp2
      refine bodyPost_ret (v := .agg #[.string (numS (sumL xs)), .string (denS (sumL xs))]) (by simp [results, Tryz.results216, go_sem, e0, e1]) rfl ⟨rfl, HG2.out⟩
end Go.Proofs.YtcbolipiaflfbaaGreatDoor.Num

/- the law's math at SUM, SUMSQ, SUMPRODUCT, SUMXMY2 of numbers and arrays. Conditions: all numbers fit; the tables lie as they are laid. -/
namespace Go.Proofs.YtcbolipiaflfbaaGreatDoor.Num
open Go.RowKit Go.Lib

/-- what else is known of the arguments is carried as Cc -/
theorem math_c_val (i : Nat) (r : Row) (hi : i < allRows.length) (hr : allRows[i] = r) (hkd : r.kinds = { data := #[97] }) (hfr : ∀ j (hj : j < i), (allRows[i].name == (allRows[j]'(by omega)).name) = false) (hnum : r.num = true) (eF : ∀ args w, (callFunc r.fn args).run Tryz.prog w = .ok (.enter r.fn args) w) (vs : List Val) (qss : List (List Rat)) (ab ao C : Nat) (q : Rat) (w : World) (h0 : 0 < vs.length) (h9 : vs.length ≤ 300) (hc1 : r.least ≤ vs.length) (hc2 : (vs.length : Int) ≤ r.most) (hv : ValsAt w ab ao vs) (hA : Args2 w vs qss) (hE : Env w) (hqs : ∀ qs ∈ qss, ∀ q ∈ qs, fits q = true) (hq : fits q = true)
    (Cc : World → Prop) (hC : Cc w) (hCb : ∀ W W', Cc W → Below W.heap.size W W' → Cc W')
    (hF : ∀ W b g cap, Env W → Past b → b < W.heap.size → g < W.heap.size → ArgsAt W b (some ⟨g, 0, none⟩) vs.length cap 0 → ValsAt W g 0 vs → Cc W → g ≠ b → Calls Tryz.prog r.fn #[.pointer (some ⟨b, 0, none⟩)] W fun e w' => e = .returned (fracV q) ∧ W.grownBy w' (some b)) :
    Calls Tryz.prog 11 #[.string r.name, .slice (some ⟨ab, ao, none⟩) vs.length C] w fun e w' => e = .returned (numVal q) ∧ Below w.heap.size w w' :=
  math_of r.name (.slice (some ⟨ab, ao, none⟩) vs.length C) (numVal' q) w ⟨_, _, _, rfl⟩ (fun W b hb hT =>
    run_a_val i r hi hr hkd hfr vs b ab ao C (numVal' q) W h0 h9 hc1 hc2 (hv.below hb) (hE.below hb) hT ⟨rfl, rfl, rfl, rfl, rfl⟩ (fun W g => check_num q W hq g)
      (fun v hv' W' h => by
        obtain ⟨j, hj, rfl⟩ := List.mem_iff_getElem.1 hv'
        have hj' : j < qss.length := by rw [hA.1]; exact hj
        exact ((hA.below (hb.trans (h.mono hb.size))).2 j hj hj').check (hqs _ (List.getElem_mem hj')) ((hE.below hb).below h))
      (fun W' e g cap hb' hE' hfn hva => entry1_val r g cap e vs q W' hnum hfn eF hE' hva hq (fun W'' b' hb'' hE'' hP hlt ha hva' hne => hF W'' b' g cap hE'' hP hlt (cell_lt (hva'.at 0 h0).1) ha hva' (hCb _ _ (hCb _ _ (hCb _ _ hC hb) hb') hb'') hne) h0))

theorem take_all {xs : List Rat} {f : List Rat → Rat} (h : ∀ k, k ≤ xs.length → fits (f (xs.take k)) = true) : fits (f xs) = true := by
  have := h xs.length (Nat.le_refl _)
  rwa [List.take_length] at this

theorem args2_two {W : World} {va vb : Val} {qa qb : List Rat} (ha : AArg W va qa) (hb : AArg W vb qb) : Args2 W [va, vb] [qa, qb] := by
  refine ⟨rfl, fun j h h' => ?_⟩
  match j, h with
  | 0, _ => exact ha
  | 1, _ => exact hb
theorem args2_one {W : World} {va : Val} {qa : List Rat} (ha : AArg W va qa) : Args2 W [va] [qa] := by
  refine ⟨rfl, fun j h h' => ?_⟩
  match j, h with
  | 0, _ => exact ha

theorem m_SUM2 (vs : List Val) (qss : List (List Rat)) (ab ao C : Nat) (w : World) (h0 : 0 < vs.length) (h9 : vs.length ≤ 255) (hA : Args2 w vs qss) (hq : ∀ qs ∈ qss, ∀ q ∈ qs, fits q = true) (h00 : 0 < qss.flatten.length) (h99 : qss.flatten.length ≤ 300000) (hf : ∀ k, k ≤ qss.flatten.length → fits (sumL (qss.flatten.take k)) = true) (hv : ValsAt w ab ao vs) (hE : Env w) :
    Calls Tryz.prog 11 #[.string { data := #[83, 85, 77] }, .slice (some ⟨ab, ao, none⟩) vs.length C] w fun e w' => e = .returned (numVal (sumL qss.flatten)) ∧ Below w.heap.size w w' :=
  math_c_val 17 ⟨{ data := #[83, 85, 77] }, 1, 255, { data := #[97] }, true, 213⟩ (by decide) rfl rfl (fr_of 17 (by decide) (by kernel_rfl)) rfl (enters_of Tryz.func213 (by kernel_rfl) rfl) vs qss ab ao C (sumL qss.flatten) w h0 (by omega) (by show (1 : Int) ≤ _; omega) (by show _ ≤ (255 : Int); omega) hv hA hE hq (take_all (f := sumL) hf)
    (fun W => Args2 W vs qss) (hA) (fun W W' h hb => h.below hb)
    (fun W b g cap hE' hP hlt hgl ha hn hcc hne => fn_sum_mix vs qss b g cap W (by omega) hcc hq h00 h99 hf ha hn hne hgl hE' hP)

theorem m_SUMSQ (vs : List Val) (qss : List (List Rat)) (ab ao C : Nat) (w : World) (h0 : 0 < vs.length) (h9 : vs.length ≤ 255) (hA : Args2 w vs qss) (hq : ∀ qs ∈ qss, ∀ q ∈ qs, fits q = true) (hqq : ∀ qs ∈ qss, ∀ q ∈ qs, fits (q * q) = true) (h00 : 0 < qss.flatten.length) (h99 : qss.flatten.length ≤ 300000) (hf : ∀ k, k ≤ qss.flatten.length → fits (sumL ((qss.flatten.map fun q => q * q).take k)) = true) (hv : ValsAt w ab ao vs) (hE : Env w) :
    Calls Tryz.prog 11 #[.string { data := #[83, 85, 77, 83, 81] }, .slice (some ⟨ab, ao, none⟩) vs.length C] w fun e w' => e = .returned (numVal (sumL (qss.flatten.map fun q => q * q))) ∧ Below w.heap.size w w' :=
  math_c_val 19 ⟨{ data := #[83, 85, 77, 83, 81] }, 1, 255, { data := #[97] }, true, 216⟩ (by decide) rfl rfl (fr_of 19 (by decide) (by kernel_rfl)) rfl (enters_of Tryz.func216 (by kernel_rfl) rfl) vs qss ab ao C (sumL (qss.flatten.map fun q => q * q)) w h0 (by omega) (by show (1 : Int) ≤ _; omega) (by show _ ≤ (255 : Int); omega) hv hA hE hq (take_all (f := sumL) (fun k hk => hf k (by rwa [List.length_map] at hk)))
    (fun W => Args2 W vs qss) (hA) (fun W W' h hb => h.below hb)
    (fun W b g cap hE' hP hlt hgl ha hn hcc hne => fn_sumsq vs qss b g cap W (by omega) hcc hq hqq h00 h99 hf ha hn hne hgl hE' hP)

end Go.Proofs.YtcbolipiaflfbaaGreatDoor.Num
