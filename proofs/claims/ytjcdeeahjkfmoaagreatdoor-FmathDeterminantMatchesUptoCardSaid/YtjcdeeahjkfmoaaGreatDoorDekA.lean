/- Contracts of the program's functions, joined from smaller texts. Conditions stand at each theorem. -/
import Derived.Test.YtjcdeeahjkfmoaaGreatDoorDejA
import Derived.Test.YtjcdeeahjkfmoaaGreatDoorDebB
set_option linter.unusedVariables false
set_option linter.unusedSimpArgs false
set_option maxRecDepth 100000
set_option maxHeartbeats 8000000
namespace Go.Proofs.YtjcdeeahjkfmoaaGreatDoor
namespace Num
open Go.RowKit Go.Lib
structure Prepped (kinds : ByteArray) (args : List Arg) (N : Nat) (W : World) (g : Nat) (outs : List Arg) : Prop where
 len : outs.length = N
 ok : ∀ i (h : i < outs.length), PrepOk (kindS kinds i) (argAt args i) outs[i]
 arg : ∀ a ∈ outs, ArgOk W a
 row : ValsAt W g 0 (outs.map Arg.v)
theorem Prepped.below {kinds : ByteArray} {args : List Arg} {N : Nat} {W W' : World} {g : Nat} {outs : List Arg} (h : Prepped kinds args N W g outs) (hb : Below W.heap.size W W') : Prepped kinds args N W' g outs :=
 ⟨h.len, h.ok, fun a ha => (h.arg a ha).below hb, h.row.below hb⟩
def SameOr (outs : List Arg) (rv wv : Val) : Prop :=
 (∃ k n d t on c r s A A' C C', rv = ⟨k, n, d, t, on, c, r, s, A, 0, C⟩ ∧ wv = ⟨k, n, d, t, on, c, r, s, A', 0, C'⟩) ∨
 (rv = faultVal' 5 ∧ wv.k ≠ 4 ∧ (∀ a ∈ outs, NumArg a) ∧ 40 < lenOf (outs.flatMap Arg.items))
set_option linter.unusedVariables false in
def faMatKs9 (k' c' r' s' : Int) (n' d' t' name : ByteArray) (on' : Bool) (rA wA : Option Addr) (rC wL wC g N cap bv : Nat) : List RK :=
 [.pure (.int .i64 0),
  .pure (.bool true),
  .pure (.bool true),
  .pure (.agg #[.int .i64 k', .string n', .string d', .string t', .bool on', .int .i64 c', .int .i64 r', .int .i64 s', .slice rA 0 rC]),
  .pure (.func (.func 21) #[] #[]),
  .pure (.string name),
  .pure (.slice (some ⟨g, 0, none⟩) N cap),
  .pure (.agg #[.slice (some ⟨g, 0, none⟩) N cap, .int .i64 0, .int .i64 0]),
  .box none #[.slice (some ⟨g, 0, none⟩) N cap, .int .i64 0, .int .i64 0] #[.slice (some ⟨g, 0, none⟩) N cap, .int .i64 0, .int .i64 0] 50 28,
  .pure (.agg #[.int .i64 k', .string n', .string d', .string t', .bool on', .int .i64 c', .int .i64 r', .int .i64 s', .slice wA 0 wC]),
  .pure (.bool true),
  .pure (.bool true),
  .pure (undef),
  .pure (undef),
  .pure (undef),
  .pure (undef),
  .pure (undef),
  .pure (undef),
  .pure (undef),
  .pure (undef),
  .pure (undef),
  .pure (undef),
  .pure (undef),
  .pure (undef),
  .pure (.bool true),
  .pure (.bool true),
  .pure (.bool true)]
set_option linter.unusedVariables false in
def fbMatKs9 (k' c' r' s' : Int) (n' d' t' name : ByteArray) (on' : Bool) (rA wA : Option Addr) (rC wL wC g N cap bv : Nat) : List RK :=
 [.pure (.int .i64 0),
  .pure (.bool true),
  .pure (.bool true),
  .pure (.agg #[.int .i64 4, .string ⟨#[]⟩, .string ⟨#[]⟩, .string ⟨#[]⟩, .bool false, .int .i64 5, .int .i64 0, .int .i64 0, .slice none 0 0]),
  .pure (.func (.func 21) #[] #[]),
  .pure (.string name),
  .pure (.slice (some ⟨g, 0, none⟩) N cap),
  .pure (.agg #[.slice (some ⟨g, 0, none⟩) N cap, .int .i64 0, .int .i64 0]),
  .box none #[.slice (some ⟨g, 0, none⟩) N cap, .int .i64 0, .int .i64 0] #[.slice (some ⟨g, 0, none⟩) N cap, .int .i64 0, .int .i64 0] 50 28,
  .pure (.agg #[.int .i64 k', .string n', .string d', .string t', .bool on', .int .i64 c', .int .i64 r', .int .i64 s', .slice wA wL wC]),
  .pure (.bool false),
  .pure (.bool false),
  .pure (.pointer (some ⟨bv, 0, none⟩)),
  .pure (.int .i64 4),
  .pure (.bool true),
  .pure (.bool true),
  .pure (.pointer (some ⟨bv, 5, none⟩)),
  .pure (.int .i64 5),
  .pure (.bool true),
  .pure (.bool true),
  .pure (.bool true),
  .pure (.slice (some ⟨g, 0, none⟩) N cap),
  .pure (.bool true),
  .pure (.bool true),
  .pure (.bool true),
  .pure (.bool true),
  .pure (.bool true)]
attribute [local irreducible] wpOp
set_option linter.unusedVariables false in
theorem family_any (names : List ByteArray) (nA : Nat) (nC : Nat) (k least most : Int) (kinds name : ByteArray) (args : List Arg) (A : Option Addr) (n C N : Nat) (w : World)
  (hnl : 1 ≤ names.length) (hnl9 : names.length ≤ 1000000) (hnm : ∀ i (h : i < names.length), w.cell? ⟨nA, i, none⟩ = some (.string names[i])) (hname : names[(k % (names.length : Int)).toNat]? = some name)
  (hn : args.length = n) (hn9 : n ≤ 1000000000) (hA : 0 < n → ∃ g o, A = some ⟨g, o, none⟩ ∧ ValsAt w g o (args.map Arg.v)) (hok : ∀ a ∈ args, ArgOk w a) (hE : EnvR w)
  (hk : 0 < kinds.size) (hk9 : kinds.size ≤ 1000) (hl0 : 0 ≤ least) (hl9 : least ≤ 900) (hm0 : least ≤ most) (hm9 : most ≤ 1000000) (hN : (N : Int) = max least (min (min (n : Int) most) 6)) (hN1 : 1 ≤ N)
  (hp : ∀ W, Below w.heap.size w W → Calls Tryz.prog 11 #[.string name] W fun e w' => e = .returned (.tuple #[.agg #[.int .i64 least, .int .i64 most, .string kinds], .bool true]) ∧ Below W.heap.size W w')
  (hcw : ∀ W g C' outs, Below w.heap.size w W → Prepped kinds args N W g outs → ∃ wv,
   (∀ W, Below w.heap.size w W → Prepped kinds args N W g outs → Calls Tryz.prog 12 #[.string name, .slice (some ⟨g, 0, none⟩) N C'] W fun e w' => ∃ rv, SameOr outs rv wv ∧ e = .returned (.tuple #[rv.agg, .int .i64 0]) ∧ Below W.heap.size W w') ∧
   (∀ W ab, Below w.heap.size w W → Prepped kinds args N W g outs → w.heap.size ≤ ab → W.heap[ab]? = some (.cells #[.slice (some ⟨g, 0, none⟩) N C', .int .i64 0, .int .i64 0] 50 (0, 0)) → Calls Tryz.prog 21 #[.string name, .pointer (some ⟨ab, 0, none⟩)] W fun e w' => e = .returned wv.agg ∧ Below W.heap.size W w')) :
  Calls Tryz.prog 10 #[.slice (some ⟨nA, 0, none⟩) names.length nC, .int .i64 k, .slice A n C, .func (.func 11) #[] #[], .func (.func 12) #[] #[], .func (.func 21) #[] #[]] w fun e w' => e = .returned (.bool true) ∧ Below w.heap.size w w' := by
 have T1 := hid (fun W => lmod_any k (names.length : Int) W (by omega) (by omega))
 obtain ⟨nl, hnl'⟩ : ∃ z, names.length = z := ⟨_, rfl⟩
 rw [hnl'] at T1 hname hnl hnl9 ⊢
 obtain ⟨ix, hix⟩ : ∃ z : Nat, k % (nl : Int) = z := ⟨(k % (nl : Int)).toNat, by have := Int.emod_nonneg k (show (nl : Int) ≠ 0 by omega); omega⟩
 have hixl : ix < nl := by have := Int.emod_lt_of_pos k (show 0 < (nl : Int) by omega); omega
 rw [hix] at T1 hname
 have hcell : w.cell? ⟨nA, ix, none⟩ = some (.string name) := by
  have h1 : names[ix]? = some name := hname
  obtain ⟨h2, h3⟩ := List.getElem?_eq_some_iff.1 h1
  rw [hnm ix h2, h3]
 have hi0 : (0 : Int) ≤ (ix : Int) := by omega
 have hi1 : (ix : Int) < (nl : Int) := by omega
 have HP := hid hp; have HCW := hid hcw; have HOK := hid hok; have HE := hid hE
 have T2 := hid (fun W (hb : Below w.heap.size w W) => prepared_any least most kinds args A n C N W hn hn9 (fun h0 => by
  obtain ⟨g, o, h1, h2⟩ := hA h0
  exact ⟨g, o, h1, h2.below hb⟩) (fun a ha => (HOK.out a ha).below hb) (HE.out.below hb) hk hk9 hl0 hl9 (by omega) hm9 hN)
 have q1 : decide (least < 0) = false := decide_eq_false (by omega)
 have q2 : decide (most < least) = false := decide_eq_false (by omega)
 have hks : (kinds.toList == []) = false := by
  rw [ByteArray.toList_eq, beq_eq_false_iff_ne]
  intro e
  have : kinds.data.toList.length = kinds.size := by rw [Array.length_toList]; rfl
  rw [e] at this
  have h0 : 0 = kinds.size := this
  omega
 have hks2 : kinds.toList.isEmpty = false := by
  rw [List.isEmpty_eq_false_iff]
  intro e
  rw [e] at hks
  exact Bool.noConfusion hks
 have HN9 : Hid (N ≤ 900) := by show _ ≤ _; omega
 clear hp hcw hok hE hname hnm hnl' hix hA hN hm0
 go_enter Tryz.func10, Tryz.ntmps10
 go_wp2_with fail
 refine (T1.out _).mono ?_
 rintro e wr ⟨rfl, hwr⟩
 have hwr2 := hwr.symm
 subst hwr2
 clear hwr
 go_wp2_with fail
 refine (HP.out _ (Below.refl _ _)).mono ?_
 rintro e w1 ⟨rfl, hb⟩
 have HL1 := hid hb
 have HBP := hid (heap_alloc_new w1 (.cells #[.int .i64 least, .int .i64 most, .string kinds] 44))
 have HL2 := hid (HL1.out.trans (((Below.refl w1.heap.size w1).alloc (Nat.le_refl _) (.cells #[.int .i64 least, .int .i64 most, .string kinds] 44)).mono HL1.out.size))
 obtain ⟨bp, hbp⟩ : ∃ z, w1.heap.size = z := ⟨_, rfl⟩
 rw [hbp] at HBP
 obtain ⟨w2, hw2⟩ : ∃ z, w1.alloc (.cells #[.int .i64 least, .int .i64 most, .string kinds] 44) = z := ⟨_, rfl⟩
 rw [hw2] at HBP HL2
 have HW2 := hid hw2; have HBQ := hid hbp
 clear hb hw2 hbp hcell
 go_upto_region 3 with fail
 rw [HW2.out, HBQ.out]
 obtain ⟨⟨c0, c1, c2⟩, _⟩ := three_at HBP.out
 go_wp2_with fail
 refine (T2.out _ HL2.out).mono ?_
 rintro e w3 ⟨sl, pb, rfl, hb, hpo⟩
 have HL3 := hid (HL2.out.trans (hb.mono HL2.out.size))
 have HL23 := hid hb
 have HPO := hid hpo
 clear hb hpo c0 c1 c2
 cases pb with
 | false =>
  go_wp2
  go_ret
  exact ⟨rfl, HL3.out⟩
 | true =>
  obtain ⟨outs, hol, hoo, hown⟩ := HPO.out rfl
  obtain ⟨g, cap, rfl, hgb, _, hrow⟩ := vals_of_owns hown (by rw [List.length_map]; exact hol) hN1
  have HPR := hid (show Prepped kinds args N w3 g outs from ⟨hol, hoo, fun a ha => by
   obtain ⟨i, hi, rfl⟩ := List.getElem_of_mem ha
   have hpk := hoo i hi
   rw [hpk.is]
   exact prepOf_ok _ ((argAt_ok (fun a ha => HOK.out a ha) i (by have := HN9.out; omega)).below HL3.out) hpk.ok, hrow⟩)
  obtain ⟨wv, hcall, hwant⟩ := HCW.out w3 g cap outs HL3.out HPR.out
  have HCALL := hid hcall; have HWANT := hid hwant
  clear hol hoo hown hgb hrow hcall hwant HPO
  go_wp2_with fail
  refine (HCALL.out _ HL3.out HPR.out).mono ?_
  rintro e w4 ⟨rv, hso, rfl, hb⟩
  have HSO := hid hso
  have HL4 := hid (HL3.out.trans (hb.mono HL3.out.size))
  have HPR4 := hid (HPR.out.below hb)
  clear hb hso
  rcases HSO.out with ⟨k', n', d', t', on', c', r', s', rA, wA, rC, wC, rfl, rfl⟩ | ⟨rfl, hw1, hw2, hw3⟩
  ·have HBV := hid (heap_alloc_new w4 (.cells #[.int .i64 k', .string n', .string d', .string t', .bool on', .int .i64 c', .int .i64 r', .int .i64 s', .slice rA 0 rC] 32))
   have HL5 := hid (HL4.out.trans (((Below.refl w4.heap.size w4).alloc (Nat.le_refl _) (.cells #[.int .i64 k', .string n', .string d', .string t', .bool on', .int .i64 c', .int .i64 r', .int .i64 s', .slice rA 0 rC] 32)).mono HL4.out.size))
   have HPR5 := hid (HPR4.out.below ((Below.refl w4.heap.size w4).alloc (Nat.le_refl _) (.cells #[.int .i64 k', .string n', .string d', .string t', .bool on', .int .i64 c', .int .i64 r', .int .i64 s', .slice rA 0 rC] 32)))
   obtain ⟨bv, hbv⟩ : ∃ z, w4.heap.size = z := ⟨_, rfl⟩
   have HGE := hid (show w.heap.size ≤ bv from by rw [← hbv]; exact HL4.out.size)
   rw [hbv] at HBV
   obtain ⟨w5, hw5⟩ : ∃ z, w4.alloc (.cells #[.int .i64 k', .string n', .string d', .string t', .bool on', .int .i64 c', .int .i64 r', .int .i64 s', .slice rA 0 rC] 32) = z := ⟨_, rfl⟩
   rw [hw5] at HBV HL5 HPR5
   have HW5 := hid hw5; have HBV2 := hid hbv
   have eR : Val.agg ⟨k', n', d', t', on', c', r', s', rA, 0, rC⟩ = .agg #[.int .i64 k', .string n', .string d', .string t', .bool on', .int .i64 c', .int .i64 r', .int .i64 s', .slice rA 0 rC] := rfl
   rw [eR]
   have TS := hid (fun W => same_refl k' n' d' t' on' c' r' s' rA wA rC wC W)
   clear hw5 hbv eR
   go_upto_region 9 with fail
   rw [HW5.out, HBV2.out]
   have eW : Val.agg ⟨k', n', d', t', on', c', r', s', wA, 0, wC⟩ = .agg #[.int .i64 k', .string n', .string d', .string t', .bool on', .int .i64 c', .int .i64 r', .int .i64 s', .slice wA 0 wC] := rfl
   have TW := hid (fun W ab h1 h2 h3 h4 => HWANT.out W ab h1 h2 h3 h4)
   rw [eW] at TW
   clear eW
   go_wp2_with fail
   have hok : okB 27 (faMatKs9 k' c' r' s' n' d' t' name on' rA wA rC 0 wC g N cap bv) = true := by kernel_rfl
   have hna := noAny_of (ks := (faMatKs9 k' c' r' s' n' d' t' name on' rA wA rC 0 wC g N cap bv)) (by kernel_rfl)
   have hla := lasts_of hna
   refine wp_region_facts_abs (row := none) (w := w5) 27 0 27 [] (faMatKs9 k' c' r' s' n' d' t' name on' rA wA rC 0 wC g N cap bv) [some 67, some 68, some 69, some 70, some 71, some 72, some 73, some 74, some 75, some 76, some 77, some 78, some 79, some 80, some 81, some 82, some 83, some 84, some 85, some 86, some 87, some 88, some 89, some 90, some 91, some 92, some 12] [(19, .int .i64 0), (18, .pointer (some ⟨bv, 0, none⟩)), (5, .func (.func 21) #[] #[]), (13, .string name), (16, .slice (some ⟨g, 0, none⟩) N cap)] 93 (by kernel_rfl) (by kernel_rfl) (by kernel_rfl) rfl rfl (by decide) rfl (by kernel_rfl) rfl (Nat.le_of_eq rfl) rfl ?ho [undef, undef, undef, undef, undef, undef, undef, undef, undef, undef, undef, undef, undef, undef, undef, undef, undef, undef, undef, undef, undef, undef, undef, undef, undef, undef, .bool false] ?h00 (Fs.start rfl rfl) ?hs ?hd
   case ho =>
    intro k x hk
    match k, hk with
    | 0, hk => have hk := Option.some.inj hk; subst hk; rfl
    | 1, hk => have hk := Option.some.inj hk; subst hk; rfl
    | 2, hk => have hk := Option.some.inj hk; subst hk; rfl
    | 3, hk => have hk := Option.some.inj hk; subst hk; rfl
    | 4, hk => have hk := Option.some.inj hk; subst hk; rfl
    | _ + 5, hk => exact absurd hk (by simp)
   case h00 => simp only [putO, layL]
   case hs =>
    rintro A listed vs Wr hF hR i hi hun hpre
    obtain ⟨s0, s1, s2, s3, s4, s5, s6, s7, s8, s9, s10, s11, s12, s13, s14, s15, s16, s17, s18, s19, s20, s21, s22, s23, s24, s25, s26, hvs⟩ := exl_of 27 vs (fun l => vs = l) hF.len rfl
    subst hvs
    have hge := Nat.zero_le i
    rcases Nat.lt_or_ge i 13 with hi | hge
    ·rcases Nat.lt_or_ge i 6 with hi | hge
     ·rcases Nat.lt_or_ge i 3 with hi | hge
      ·rcases Nat.lt_or_ge i 1 with hi | hge
       ·obtain rfl := eqi hi hge
        have ro19 : A.tmps[19]? = some (.int .i64 0) := hR.out 0 _ rfl
        refine step_of ⟨some 67, _, _, _, _, _⟩ rfl (fun K' hK => ?_)
        go_simp
        exact hK.out _ _ ⟨_, hF.pure hok hla hpre rfl (Below.refl _ _), rfl⟩
       rcases Nat.lt_or_ge i 2 with hi | hge
       ·obtain rfl := eqi hi hge
        have p0 := hpre 0 (by kernel_rfl)
        have e0 : s0 = .int .i64 0 := hF.get 0 _ rfl (.inr p0)
        subst e0
        have r0 : A.tmps[67]? = some (.int .i64 0) := hR.own 0 _ _ rfl rfl
        refine step_of ⟨some 68, _, _, _, _, _⟩ rfl (fun K' hK => ?_)
        go_simp
        exact hK.out _ _ ⟨_, hF.pure hok hla hpre rfl (Below.refl _ _), rfl⟩
       obtain rfl := eqi hi hge
       have p1 := hpre 1 (by kernel_rfl)
       have e1 : s1 = .bool true := hF.get 1 _ rfl (.inr p1)
       subst e1
       have r1 : A.tmps[68]? = some (.bool true) := hR.own 1 _ _ rfl rfl
       refine step_of ⟨some 69, _, _, _, _, _⟩ rfl (fun K' hK => ?_)
       go_simp
       exact hK.out _ _ ⟨_, hF.pure hok hla hpre rfl (Below.refl _ _), rfl⟩
      rcases Nat.lt_or_ge i 4 with hi | hge
      ·obtain rfl := eqi hi hge
       have p2 := hpre 2 (by kernel_rfl)
       have e2 : s2 = .bool true := hF.get 2 _ rfl (.inr p2)
       subst e2
       have r2 : A.tmps[69]? = some (.bool true) := hR.own 2 _ _ rfl rfl
       have ro18 : A.tmps[18]? = some (.pointer (some ⟨bv, 0, none⟩)) := hR.out 1 _ rfl
       have hcc := (nine_at (keep_block HBV.out (below_none hF.low))).1
       have cHBV0 := hcc.1
       have cHBV1 := hcc.2.1
       have cHBV2 := hcc.2.2.1
       have cHBV3 := hcc.2.2.2.1
       have cHBV4 := hcc.2.2.2.2.1
       have cHBV5 := hcc.2.2.2.2.2.1
       have cHBV6 := hcc.2.2.2.2.2.2.1
       have cHBV7 := hcc.2.2.2.2.2.2.2.1
       have cHBV8 := hcc.2.2.2.2.2.2.2.2
       clear hcc
       refine step_of ⟨some 70, _, _, _, _, _⟩ rfl (fun K' hK => ?_)
       rw [if_pos (by simp [Region.wanted, yielded, r2])]
       go_simp
       exact hK.out _ _ ⟨_, hF.pure hok hla hpre rfl (Below.refl _ _), rfl⟩
      rcases Nat.lt_or_ge i 5 with hi | hge
      ·obtain rfl := eqi hi hge
       have p2 := hpre 2 (by kernel_rfl)
       have e2 : s2 = .bool true := hF.get 2 _ rfl (.inr p2)
       subst e2
       have r2 : A.tmps[69]? = some (.bool true) := hR.own 2 _ _ rfl rfl
       have ro5 : A.tmps[5]? = some (.func (.func 21) #[] #[]) := hR.out 2 _ rfl
       refine step_of ⟨some 71, _, _, _, _, _⟩ rfl (fun K' hK => ?_)
       rw [if_pos (by simp [Region.wanted, yielded, r2])]
       go_simp
       exact hK.out _ _ ⟨_, hF.pure hok hla hpre rfl (Below.refl _ _), rfl⟩
      obtain rfl := eqi hi hge
      have p2 := hpre 2 (by kernel_rfl)
      have e2 : s2 = .bool true := hF.get 2 _ rfl (.inr p2)
      subst e2
      have r2 : A.tmps[69]? = some (.bool true) := hR.own 2 _ _ rfl rfl
      have ro13 : A.tmps[13]? = some (.string name) := hR.out 3 _ rfl
      refine step_of ⟨some 72, _, _, _, _, _⟩ rfl (fun K' hK => ?_)
      rw [if_pos (by simp [Region.wanted, yielded, r2])]
      go_simp
      exact hK.out _ _ ⟨_, hF.pure hok hla hpre rfl (Below.refl _ _), rfl⟩
     rcases Nat.lt_or_ge i 9 with hi | hge
     ·rcases Nat.lt_or_ge i 7 with hi | hge
      ·obtain rfl := eqi hi hge
       have p2 := hpre 2 (by kernel_rfl)
       have e2 : s2 = .bool true := hF.get 2 _ rfl (.inr p2)
       subst e2
       have r2 : A.tmps[69]? = some (.bool true) := hR.own 2 _ _ rfl rfl
       have ro16 : A.tmps[16]? = some (.slice (some ⟨g, 0, none⟩) N cap) := hR.out 4 _ rfl
       refine step_of ⟨some 73, _, _, _, _, _⟩ rfl (fun K' hK => ?_)
       rw [if_pos (by simp [Region.wanted, yielded, r2])]
       go_simp
       exact hK.out _ _ ⟨_, hF.pure hok hla hpre rfl (Below.refl _ _), rfl⟩
      rcases Nat.lt_or_ge i 8 with hi | hge
      ·obtain rfl := eqi hi hge
       have p6 := hpre 6 (by kernel_rfl)
       have e6 : s6 = .slice (some ⟨g, 0, none⟩) N cap := hF.get 6 _ rfl (.inr p6)
       subst e6
       have r6 : A.tmps[73]? = some (.slice (some ⟨g, 0, none⟩) N cap) := hR.own 6 _ _ rfl rfl
       have p2 := hpre 2 (by kernel_rfl)
       have e2 : s2 = .bool true := hF.get 2 _ rfl (.inr p2)
       subst e2
       have r2 : A.tmps[69]? = some (.bool true) := hR.own 2 _ _ rfl rfl
       refine step_of ⟨some 74, _, _, _, _, _⟩ rfl (fun K' hK => ?_)
       rw [if_pos (by simp [Region.wanted, yielded, r2])]
       go_simp
       exact hK.out _ _ ⟨_, hF.pure hok hla hpre rfl (Below.refl _ _), rfl⟩
      obtain rfl := eqi hi hge
      have p7 := hpre 7 (by kernel_rfl)
      have e7 : s7 = .agg #[.slice (some ⟨g, 0, none⟩) N cap, .int .i64 0, .int .i64 0] := hF.get 7 _ rfl (.inr p7)
      subst e7
      have r7 : A.tmps[74]? = some (.agg #[.slice (some ⟨g, 0, none⟩) N cap, .int .i64 0, .int .i64 0]) := hR.own 7 _ _ rfl rfl
      have p2 := hpre 2 (by kernel_rfl)
      have e2 : s2 = .bool true := hF.get 2 _ rfl (.inr p2)
      subst e2
      have r2 : A.tmps[69]? = some (.bool true) := hR.own 2 _ _ rfl rfl
      refine step_of ⟨some 75, _, _, _, _, _⟩ rfl (fun K' hK => ?_)
      rw [if_pos (by simp [Region.wanted, yielded, r2])]
      go_simp
      exact hK.out _ _ ⟨_, hF.box hok hla hpre hun rfl, rfl⟩
     rcases Nat.lt_or_ge i 11 with hi | hge
     ·rcases Nat.lt_or_ge i 10 with hi | hge
      ·obtain rfl := eqi hi hge
       have p4 := hpre 4 (by kernel_rfl)
       have e4 : s4 = .func (.func 21) #[] #[] := hF.get 4 _ rfl (.inr p4)
       subst e4
       have r4 : A.tmps[71]? = some (.func (.func 21) #[] #[]) := hR.own 4 _ _ rfl rfl
       have p5 := hpre 5 (by kernel_rfl)
       have e5 : s5 = .string name := hF.get 5 _ rfl (.inr p5)
       subst e5
       have r5 : A.tmps[72]? = some (.string name) := hR.own 5 _ _ rfl rfl
       have p8 := hpre 8 (by kernel_rfl)
       obtain ⟨G8, eG8, _, hGl8, hGB8⟩ : ∃ G, s8 = .pointer (some ⟨G, 0, none⟩) ∧ (∀ k, none = some k → G = k) ∧ w5.heap.size ≤ G ∧ Wr.heap[G]? = some (.cells (if listed.getD 28 false = true then #[.slice (some ⟨g, 0, none⟩) N cap, .int .i64 0, .int .i64 0] else #[.slice (some ⟨g, 0, none⟩) N cap, .int .i64 0, .int .i64 0]) 50 (0, 0)) := hF.get 8 _ rfl (.inr p8)
       subst eG8
       rw [ite_self] at hGB8
       have r8 : A.tmps[75]? = some (.pointer (some ⟨G8, 0, none⟩)) := hR.own 8 _ _ rfl rfl
       have p2 := hpre 2 (by kernel_rfl)
       have e2 : s2 = .bool true := hF.get 2 _ rfl (.inr p2)
       subst e2
       have r2 : A.tmps[69]? = some (.bool true) := hR.own 2 _ _ rfl rfl
       refine step_of ⟨some 76, _, _, _, _, _⟩ rfl (fun K' hK => ?_)
       rw [if_pos (by simp [Region.wanted, yielded, r2])]
       go_simp
       go_at_call 21
       (with_reducible refine (TW.out _ _ (HL5.out.trans ((below_none hF.low).mono HL5.out.size)) (HPR5.out.below (below_none hF.low)) (Nat.le_trans HL5.out.size hGl8) hGB8).mono ?_)
       rintro e Wq ⟨rfl, hq⟩
       exact hK.out _ _ ⟨_, hF.pure hok hla hpre rfl hq, rfl⟩
      obtain rfl := eqi hi hge
      have p3 := hpre 3 (by kernel_rfl)
      have e3 : s3 = .agg #[.int .i64 k', .string n', .string d', .string t', .bool on', .int .i64 c', .int .i64 r', .int .i64 s', .slice rA 0 rC] := hF.get 3 _ rfl (.inr p3)
      subst e3
      have r3 : A.tmps[70]? = some (.agg #[.int .i64 k', .string n', .string d', .string t', .bool on', .int .i64 c', .int .i64 r', .int .i64 s', .slice rA 0 rC]) := hR.own 3 _ _ rfl rfl
      have p9 := hpre 9 (by kernel_rfl)
      have e9 : s9 = .agg #[.int .i64 k', .string n', .string d', .string t', .bool on', .int .i64 c', .int .i64 r', .int .i64 s', .slice wA 0 wC] := hF.get 9 _ rfl (.inr p9)
      subst e9
      have r9 : A.tmps[76]? = some (.agg #[.int .i64 k', .string n', .string d', .string t', .bool on', .int .i64 c', .int .i64 r', .int .i64 s', .slice wA 0 wC]) := hR.own 9 _ _ rfl rfl
      have p2 := hpre 2 (by kernel_rfl)
      have e2 : s2 = .bool true := hF.get 2 _ rfl (.inr p2)
      subst e2
      have r2 : A.tmps[69]? = some (.bool true) := hR.own 2 _ _ rfl rfl
      refine step_of ⟨some 77, _, _, _, _, _⟩ rfl (fun K' hK => ?_)
      rw [if_pos (by simp [Region.wanted, yielded, r2])]
      go_simp
      go_at_call 17
      (with_reducible refine (TS.out _).mono ?_)
      rintro e Wq ⟨rfl, hq⟩
      exact hK.out _ _ ⟨_, hF.pure hok hla hpre rfl hq, rfl⟩
     rcases Nat.lt_or_ge i 12 with hi | hge
     ·obtain rfl := eqi hi hge
      have p10 := hpre 10 (by kernel_rfl)
      have e10 : s10 = .bool true := hF.get 10 _ rfl (.inr p10)
      subst e10
      have r10 : A.tmps[77]? = some (.bool true) := hR.own 10 _ _ rfl rfl
      have p2 := hpre 2 (by kernel_rfl)
      have e2 : s2 = .bool true := hF.get 2 _ rfl (.inr p2)
      subst e2
      have r2 : A.tmps[69]? = some (.bool true) := hR.own 2 _ _ rfl rfl
      refine step_of ⟨some 78, _, _, _, _, _⟩ rfl (fun K' hK => ?_)
      rw [if_pos (by simp [Region.wanted, yielded, r2])]
      go_simp
      exact hK.out _ _ ⟨_, hF.pure hok hla hpre rfl (Below.refl _ _), rfl⟩
     obtain rfl := eqi hi hge
     have p11 := hpre 11 (by kernel_rfl)
     have e11 : s11 = .bool true := hF.get 11 _ rfl (.inr p11)
     subst e11
     have r11 : A.tmps[78]? = some (.bool true) := hR.own 11 _ _ rfl rfl
     refine step_of ⟨some 79, _, _, _, _, _⟩ rfl (fun K' hK => ?_)
     rw [if_neg (by simp [Region.wanted, yielded, r11])]
     go_simp
     exact hK.out _ _ ⟨_, hF.pure hok hla hpre rfl (Below.refl _ _), rfl⟩
    rcases Nat.lt_or_ge i 20 with hi | hge
    ·rcases Nat.lt_or_ge i 16 with hi | hge
     ·rcases Nat.lt_or_ge i 14 with hi | hge
      ·obtain rfl := eqi hi hge
       have p11 := hpre 11 (by kernel_rfl)
       have e11 : s11 = .bool true := hF.get 11 _ rfl (.inr p11)
       subst e11
       have r11 : A.tmps[78]? = some (.bool true) := hR.own 11 _ _ rfl rfl
       refine step_of ⟨some 80, _, _, _, _, _⟩ rfl (fun K' hK => ?_)
       rw [if_neg (by simp [Region.wanted, yielded, r11])]
       go_simp
       exact hK.out _ _ ⟨_, hF.pure hok hla hpre rfl (Below.refl _ _), rfl⟩
      rcases Nat.lt_or_ge i 15 with hi | hge
      ·obtain rfl := eqi hi hge
       have p11 := hpre 11 (by kernel_rfl)
       have e11 : s11 = .bool true := hF.get 11 _ rfl (.inr p11)
       subst e11
       have r11 : A.tmps[78]? = some (.bool true) := hR.own 11 _ _ rfl rfl
       refine step_of ⟨some 81, _, _, _, _, _⟩ rfl (fun K' hK => ?_)
       rw [if_neg (by simp [Region.wanted, yielded, r11])]
       go_simp
       exact hK.out _ _ ⟨_, hF.pure hok hla hpre rfl (Below.refl _ _), rfl⟩
      obtain rfl := eqi hi hge
      have p11 := hpre 11 (by kernel_rfl)
      have e11 : s11 = .bool true := hF.get 11 _ rfl (.inr p11)
      subst e11
      have r11 : A.tmps[78]? = some (.bool true) := hR.own 11 _ _ rfl rfl
      refine step_of ⟨some 82, _, _, _, _, _⟩ rfl (fun K' hK => ?_)
      rw [if_neg (by simp [Region.wanted, yielded, r11])]
      go_simp
      exact hK.out _ _ ⟨_, hF.pure hok hla hpre rfl (Below.refl _ _), rfl⟩
     rcases Nat.lt_or_ge i 18 with hi | hge
     ·rcases Nat.lt_or_ge i 17 with hi | hge
      ·obtain rfl := eqi hi hge
       have p15 := hpre 15 (by kernel_rfl)
       have e15 : s15 = undef := hF.get 15 _ rfl (.inr p15)
       subst e15
       have r15 : A.tmps[82]? = some (undef) := hR.own 15 _ _ rfl rfl
       refine step_of ⟨some 83, _, _, _, _, _⟩ rfl (fun K' hK => ?_)
       rw [if_neg (by simp [Region.wanted, yielded, r15, undef])]
       go_simp
       exact hK.out _ _ ⟨_, hF.pure hok hla hpre rfl (Below.refl _ _), rfl⟩
      obtain rfl := eqi hi hge
      have p15 := hpre 15 (by kernel_rfl)
      have e15 : s15 = undef := hF.get 15 _ rfl (.inr p15)
      subst e15
      have r15 : A.tmps[82]? = some (undef) := hR.own 15 _ _ rfl rfl
      refine step_of ⟨some 84, _, _, _, _, _⟩ rfl (fun K' hK => ?_)
      rw [if_neg (by simp [Region.wanted, yielded, r15, undef])]
      go_simp
      exact hK.out _ _ ⟨_, hF.pure hok hla hpre rfl (Below.refl _ _), rfl⟩
     rcases Nat.lt_or_ge i 19 with hi | hge
     ·obtain rfl := eqi hi hge
      have p15 := hpre 15 (by kernel_rfl)
      have e15 : s15 = undef := hF.get 15 _ rfl (.inr p15)
      subst e15
      have r15 : A.tmps[82]? = some (undef) := hR.own 15 _ _ rfl rfl
      refine step_of ⟨some 85, _, _, _, _, _⟩ rfl (fun K' hK => ?_)
      rw [if_neg (by simp [Region.wanted, yielded, r15, undef])]
      go_simp
      exact hK.out _ _ ⟨_, hF.pure hok hla hpre rfl (Below.refl _ _), rfl⟩
     obtain rfl := eqi hi hge
     have p11 := hpre 11 (by kernel_rfl)
     have e11 : s11 = .bool true := hF.get 11 _ rfl (.inr p11)
     subst e11
     have r11 : A.tmps[78]? = some (.bool true) := hR.own 11 _ _ rfl rfl
     refine step_of ⟨some 86, _, _, _, _, _⟩ rfl (fun K' hK => ?_)
     rw [if_neg (by simp [Region.wanted, yielded, r11])]
     go_simp
     exact hK.out _ _ ⟨_, hF.pure hok hla hpre rfl (Below.refl _ _), rfl⟩
    rcases Nat.lt_or_ge i 23 with hi | hge
    ·rcases Nat.lt_or_ge i 21 with hi | hge
     ·obtain rfl := eqi hi hge
      have p11 := hpre 11 (by kernel_rfl)
      have e11 : s11 = .bool true := hF.get 11 _ rfl (.inr p11)
      subst e11
      have r11 : A.tmps[78]? = some (.bool true) := hR.own 11 _ _ rfl rfl
      refine step_of ⟨some 87, _, _, _, _, _⟩ rfl (fun K' hK => ?_)
      rw [if_neg (by simp [Region.wanted, yielded, r11])]
      go_simp
      exact hK.out _ _ ⟨_, hF.pure hok hla hpre rfl (Below.refl _ _), rfl⟩
     rcases Nat.lt_or_ge i 22 with hi | hge
     ·obtain rfl := eqi hi hge
      have p20 := hpre 20 (by kernel_rfl)
      have e20 : s20 = undef := hF.get 20 _ rfl (.inr p20)
      subst e20
      have r20 : A.tmps[87]? = some (undef) := hR.own 20 _ _ rfl rfl
      refine step_of ⟨some 88, _, _, _, _, _⟩ rfl (fun K' hK => ?_)
      rw [if_neg (by simp [Region.wanted, yielded, r20, undef])]
      go_simp
      exact hK.out _ _ ⟨_, hF.pure hok hla hpre rfl (Below.refl _ _), rfl⟩
     obtain rfl := eqi hi hge
     have p20 := hpre 20 (by kernel_rfl)
     have e20 : s20 = undef := hF.get 20 _ rfl (.inr p20)
     subst e20
     have r20 : A.tmps[87]? = some (undef) := hR.own 20 _ _ rfl rfl
     refine step_of ⟨some 89, _, _, _, _, _⟩ rfl (fun K' hK => ?_)
     rw [if_neg (by simp [Region.wanted, yielded, r20, undef])]
     go_simp
     exact hK.out _ _ ⟨_, hF.pure hok hla hpre rfl (Below.refl _ _), rfl⟩
    rcases Nat.lt_or_ge i 25 with hi | hge
    ·rcases Nat.lt_or_ge i 24 with hi | hge
     ·obtain rfl := eqi hi hge
      have p11 := hpre 11 (by kernel_rfl)
      have e11 : s11 = .bool true := hF.get 11 _ rfl (.inr p11)
      subst e11
      have r11 : A.tmps[78]? = some (.bool true) := hR.own 11 _ _ rfl rfl
      refine step_of ⟨some 90, _, _, _, _, _⟩ rfl (fun K' hK => ?_)
      rw [if_neg (by simp [Region.wanted, yielded, r11])]
      go_simp
      exact hK.out _ _ ⟨_, hF.pure hok hla hpre rfl (Below.refl _ _), rfl⟩
     obtain rfl := eqi hi hge
     have p11 := hpre 11 (by kernel_rfl)
     have e11 : s11 = .bool true := hF.get 11 _ rfl (.inr p11)
     subst e11
     have r11 : A.tmps[78]? = some (.bool true) := hR.own 11 _ _ rfl rfl
     have p23 := hpre 23 (by kernel_rfl)
     have e23 : s23 = undef := hF.get 23 _ rfl (.inr p23)
     subst e23
     have r23 : A.tmps[90]? = some (undef) := hR.own 23 _ _ rfl rfl
     have p2 := hpre 2 (by kernel_rfl)
     have e2 : s2 = .bool true := hF.get 2 _ rfl (.inr p2)
     subst e2
     have r2 : A.tmps[69]? = some (.bool true) := hR.own 2 _ _ rfl rfl
     refine step_of ⟨some 91, _, _, _, _, _⟩ rfl (fun K' hK => ?_)
     rw [if_pos (by simp [Region.wanted, yielded, r2])]
     go_simp
     exact hK.out _ _ ⟨_, hF.pure hok hla hpre rfl (Below.refl _ _), rfl⟩
    rcases Nat.lt_or_ge i 26 with hi | hge
    ·obtain rfl := eqi hi hge
     have p2 := hpre 2 (by kernel_rfl)
     have e2 : s2 = .bool true := hF.get 2 _ rfl (.inr p2)
     subst e2
     have r2 : A.tmps[69]? = some (.bool true) := hR.own 2 _ _ rfl rfl
     have p24 := hpre 24 (by kernel_rfl)
     have e24 : s24 = .bool true := hF.get 24 _ rfl (.inr p24)
     subst e24
     have r24 : A.tmps[91]? = some (.bool true) := hR.own 24 _ _ rfl rfl
     refine step_of ⟨some 92, _, _, _, _, _⟩ rfl (fun K' hK => ?_)
     go_simp
     exact hK.out _ _ ⟨_, hF.pure hok hla hpre rfl (Below.refl _ _), rfl⟩
    obtain rfl := eqi hi hge
    have p25 := hpre 25 (by kernel_rfl)
    have e25 : s25 = .bool true := hF.get 25 _ rfl (.inr p25)
    subst e25
    have r25 : A.tmps[92]? = some (.bool true) := hR.own 25 _ _ rfl rfl
    refine step_of ⟨some 12, _, _, _, _, _⟩ rfl (fun K' hK => ?_)
    go_simp
    exact hK.out _ _ ⟨_, hF.pure hok hla hpre rfl (Below.refl _ _), rfl⟩
   case hd =>
    rintro listed vs w9 hF hall
    obtain ⟨s0, s1, s2, s3, s4, s5, s6, s7, s8, s9, s10, s11, s12, s13, s14, s15, s16, s17, s18, s19, s20, s21, s22, s23, s24, s25, s26, hvs⟩ := exl_of 27 vs (fun l => vs = l) hF.len rfl
    subst hvs
    have e26 : s26 = .bool true := hF.get 26 _ rfl (.inr (hall 26 (by decide)))
    subst e26
    have hq := below_none hF.low
    replace HBV := hid (keep_block HBV.out hq)
    replace HL5 := hid (HL5.out.trans (hq.mono HL5.out.size))
    replace HPR5 := hid (HPR5.out.below hq)
    clear hq
    clear hF hall hok hla hna
    refine rest_end ?_
    simp only [putO, layL]
    go_wp2
    go_ret
    exact ⟨rfl, HL5.out⟩
  ·obtain ⟨k', n', d', t', on', c', r', s', wA, wL, wC⟩ := wv
   have hw1 : k' ≠ 4 := hw1
   have TH := hid (fun W (hp : Prepped kinds args N W g outs) (hb : Below w.heap.size w W) => heavy_nums outs (some ⟨g, 0, none⟩) N cap W hp.len (by have := HN9.out; omega) (fun _ => ⟨g, 0, rfl, hp.row⟩) hp.arg hw2 (HE.out.below hb))
   have HBV := hid (heap_alloc_new w4 (.cells #[.int .i64 4, .string ⟨#[]⟩, .string ⟨#[]⟩, .string ⟨#[]⟩, .bool false, .int .i64 5, .int .i64 0, .int .i64 0, .slice none 0 0] 32))
   have HL5 := hid (HL4.out.trans (((Below.refl w4.heap.size w4).alloc (Nat.le_refl _) (.cells #[.int .i64 4, .string ⟨#[]⟩, .string ⟨#[]⟩, .string ⟨#[]⟩, .bool false, .int .i64 5, .int .i64 0, .int .i64 0, .slice none 0 0] 32)).mono HL4.out.size))
   have HPR5 := hid (HPR4.out.below ((Below.refl w4.heap.size w4).alloc (Nat.le_refl _) (.cells #[.int .i64 4, .string ⟨#[]⟩, .string ⟨#[]⟩, .string ⟨#[]⟩, .bool false, .int .i64 5, .int .i64 0, .int .i64 0, .slice none 0 0] 32)))
   obtain ⟨bv, hbv⟩ : ∃ z, w4.heap.size = z := ⟨_, rfl⟩
   rw [hbv] at HBV
   obtain ⟨w5, hw5⟩ : ∃ z, w4.alloc (.cells #[.int .i64 4, .string ⟨#[]⟩, .string ⟨#[]⟩, .string ⟨#[]⟩, .bool false, .int .i64 5, .int .i64 0, .int .i64 0, .slice none 0 0] 32) = z := ⟨_, rfl⟩
   rw [hw5] at HBV HL5 HPR5
   have HW5 := hid hw5; have HBV2 := hid hbv
   have eR : Val.agg (faultVal' 5) = .agg #[.int .i64 4, .string ⟨#[]⟩, .string ⟨#[]⟩, .string ⟨#[]⟩, .bool false, .int .i64 5, .int .i64 0, .int .i64 0, .slice none 0 0] := rfl
   rw [eR]
   have TS := hid (fun W => same_kind 4 k' ⟨#[]⟩ ⟨#[]⟩ ⟨#[]⟩ n' d' t' false on' 5 0 0 c' r' s' none wA 0 0 wL wC W (Ne.symm hw1))
   clear hw5 hbv eR
   go_upto_region 9 with fail
   rw [HW5.out, HBV2.out]
   have eW : Val.agg ⟨k', n', d', t', on', c', r', s', wA, wL, wC⟩ = .agg #[.int .i64 k', .string n', .string d', .string t', .bool on', .int .i64 c', .int .i64 r', .int .i64 s', .slice wA wL wC] := rfl
   have TW := hid (fun W ab h1 h2 h3 h4 => HWANT.out W ab h1 h2 h3 h4)
   rw [eW] at TW
   have H40 : decide (40 < lenOf (outs.flatMap Arg.items)) = true := decide_eq_true hw3
   rw [H40] at TH
   clear eW H40 hw1 hw2 hw3
   go_wp2_with fail
   have hok : okB 27 (fbMatKs9 k' c' r' s' n' d' t' name on' none wA 0 wL wC g N cap bv) = true := by kernel_rfl
   have hna := noAny_of (ks := (fbMatKs9 k' c' r' s' n' d' t' name on' none wA 0 wL wC g N cap bv)) (by kernel_rfl)
   have hla := lasts_of hna
   refine wp_region_facts_abs (row := none) (w := w5) 27 0 27 [] (fbMatKs9 k' c' r' s' n' d' t' name on' none wA 0 wL wC g N cap bv) [some 67, some 68, some 69, some 70, some 71, some 72, some 73, some 74, some 75, some 76, some 77, some 78, some 79, some 80, some 81, some 82, some 83, some 84, some 85, some 86, some 87, some 88, some 89, some 90, some 91, some 92, some 12] [(19, .int .i64 0), (18, .pointer (some ⟨bv, 0, none⟩)), (5, .func (.func 21) #[] #[]), (13, .string name), (16, .slice (some ⟨g, 0, none⟩) N cap)] 93 (by kernel_rfl) (by kernel_rfl) (by kernel_rfl) rfl rfl (by decide) rfl (by kernel_rfl) rfl (Nat.le_of_eq rfl) rfl ?ho [undef, undef, undef, undef, undef, undef, undef, undef, undef, undef, undef, undef, undef, undef, undef, undef, undef, undef, undef, undef, undef, undef, undef, undef, undef, undef, .bool false] ?h00 (Fs.start rfl rfl) ?hs ?hd
   case ho =>
    intro k x hk
    match k, hk with
    | 0, hk => have hk := Option.some.inj hk; subst hk; rfl
    | 1, hk => have hk := Option.some.inj hk; subst hk; rfl
    | 2, hk => have hk := Option.some.inj hk; subst hk; rfl
    | 3, hk => have hk := Option.some.inj hk; subst hk; rfl
    | 4, hk => have hk := Option.some.inj hk; subst hk; rfl
    | _ + 5, hk => exact absurd hk (by simp)
   case h00 => simp only [putO, layL]
   case hs =>
    rintro A listed vs Wr hF hR i hi hun hpre
    obtain ⟨s0, s1, s2, s3, s4, s5, s6, s7, s8, s9, s10, s11, s12, s13, s14, s15, s16, s17, s18, s19, s20, s21, s22, s23, s24, s25, s26, hvs⟩ := exl_of 27 vs (fun l => vs = l) hF.len rfl
    subst hvs
    have hge := Nat.zero_le i
    rcases Nat.lt_or_ge i 13 with hi | hge
    ·rcases Nat.lt_or_ge i 6 with hi | hge
     ·rcases Nat.lt_or_ge i 3 with hi | hge
      ·rcases Nat.lt_or_ge i 1 with hi | hge
       ·obtain rfl := eqi hi hge
        have ro19 : A.tmps[19]? = some (.int .i64 0) := hR.out 0 _ rfl
        refine step_of ⟨some 67, _, _, _, _, _⟩ rfl (fun K' hK => ?_)
        go_simp
        exact hK.out _ _ ⟨_, hF.pure hok hla hpre rfl (Below.refl _ _), rfl⟩
       rcases Nat.lt_or_ge i 2 with hi | hge
       ·obtain rfl := eqi hi hge
        have p0 := hpre 0 (by kernel_rfl)
        have e0 : s0 = .int .i64 0 := hF.get 0 _ rfl (.inr p0)
        subst e0
        have r0 : A.tmps[67]? = some (.int .i64 0) := hR.own 0 _ _ rfl rfl
        refine step_of ⟨some 68, _, _, _, _, _⟩ rfl (fun K' hK => ?_)
        go_simp
        exact hK.out _ _ ⟨_, hF.pure hok hla hpre rfl (Below.refl _ _), rfl⟩
       obtain rfl := eqi hi hge
       have p1 := hpre 1 (by kernel_rfl)
       have e1 : s1 = .bool true := hF.get 1 _ rfl (.inr p1)
       subst e1
       have r1 : A.tmps[68]? = some (.bool true) := hR.own 1 _ _ rfl rfl
       refine step_of ⟨some 69, _, _, _, _, _⟩ rfl (fun K' hK => ?_)
       go_simp
       exact hK.out _ _ ⟨_, hF.pure hok hla hpre rfl (Below.refl _ _), rfl⟩
      rcases Nat.lt_or_ge i 4 with hi | hge
      ·obtain rfl := eqi hi hge
       have p2 := hpre 2 (by kernel_rfl)
       have e2 : s2 = .bool true := hF.get 2 _ rfl (.inr p2)
       subst e2
       have r2 : A.tmps[69]? = some (.bool true) := hR.own 2 _ _ rfl rfl
       have ro18 : A.tmps[18]? = some (.pointer (some ⟨bv, 0, none⟩)) := hR.out 1 _ rfl
       have hcc := (nine_at (keep_block HBV.out (below_none hF.low))).1
       have cHBV0 := hcc.1
       have cHBV1 := hcc.2.1
       have cHBV2 := hcc.2.2.1
       have cHBV3 := hcc.2.2.2.1
       have cHBV4 := hcc.2.2.2.2.1
       have cHBV5 := hcc.2.2.2.2.2.1
       have cHBV6 := hcc.2.2.2.2.2.2.1
       have cHBV7 := hcc.2.2.2.2.2.2.2.1
       have cHBV8 := hcc.2.2.2.2.2.2.2.2
       clear hcc
       refine step_of ⟨some 70, _, _, _, _, _⟩ rfl (fun K' hK => ?_)
       rw [if_pos (by simp [Region.wanted, yielded, r2])]
       go_simp
       exact hK.out _ _ ⟨_, hF.pure hok hla hpre rfl (Below.refl _ _), rfl⟩
      rcases Nat.lt_or_ge i 5 with hi | hge
      ·obtain rfl := eqi hi hge
       have p2 := hpre 2 (by kernel_rfl)
       have e2 : s2 = .bool true := hF.get 2 _ rfl (.inr p2)
       subst e2
       have r2 : A.tmps[69]? = some (.bool true) := hR.own 2 _ _ rfl rfl
       have ro5 : A.tmps[5]? = some (.func (.func 21) #[] #[]) := hR.out 2 _ rfl
       refine step_of ⟨some 71, _, _, _, _, _⟩ rfl (fun K' hK => ?_)
       rw [if_pos (by simp [Region.wanted, yielded, r2])]
       go_simp
       exact hK.out _ _ ⟨_, hF.pure hok hla hpre rfl (Below.refl _ _), rfl⟩
      obtain rfl := eqi hi hge
      have p2 := hpre 2 (by kernel_rfl)
      have e2 : s2 = .bool true := hF.get 2 _ rfl (.inr p2)
      subst e2
      have r2 : A.tmps[69]? = some (.bool true) := hR.own 2 _ _ rfl rfl
      have ro13 : A.tmps[13]? = some (.string name) := hR.out 3 _ rfl
      refine step_of ⟨some 72, _, _, _, _, _⟩ rfl (fun K' hK => ?_)
      rw [if_pos (by simp [Region.wanted, yielded, r2])]
      go_simp
      exact hK.out _ _ ⟨_, hF.pure hok hla hpre rfl (Below.refl _ _), rfl⟩
     rcases Nat.lt_or_ge i 9 with hi | hge
     ·rcases Nat.lt_or_ge i 7 with hi | hge
      ·obtain rfl := eqi hi hge
       have p2 := hpre 2 (by kernel_rfl)
       have e2 : s2 = .bool true := hF.get 2 _ rfl (.inr p2)
       subst e2
       have r2 : A.tmps[69]? = some (.bool true) := hR.own 2 _ _ rfl rfl
       have ro16 : A.tmps[16]? = some (.slice (some ⟨g, 0, none⟩) N cap) := hR.out 4 _ rfl
       refine step_of ⟨some 73, _, _, _, _, _⟩ rfl (fun K' hK => ?_)
       rw [if_pos (by simp [Region.wanted, yielded, r2])]
       go_simp
       exact hK.out _ _ ⟨_, hF.pure hok hla hpre rfl (Below.refl _ _), rfl⟩
      rcases Nat.lt_or_ge i 8 with hi | hge
      ·obtain rfl := eqi hi hge
       have p6 := hpre 6 (by kernel_rfl)
       have e6 : s6 = .slice (some ⟨g, 0, none⟩) N cap := hF.get 6 _ rfl (.inr p6)
       subst e6
       have r6 : A.tmps[73]? = some (.slice (some ⟨g, 0, none⟩) N cap) := hR.own 6 _ _ rfl rfl
       have p2 := hpre 2 (by kernel_rfl)
       have e2 : s2 = .bool true := hF.get 2 _ rfl (.inr p2)
       subst e2
       have r2 : A.tmps[69]? = some (.bool true) := hR.own 2 _ _ rfl rfl
       refine step_of ⟨some 74, _, _, _, _, _⟩ rfl (fun K' hK => ?_)
       rw [if_pos (by simp [Region.wanted, yielded, r2])]
       go_simp
       exact hK.out _ _ ⟨_, hF.pure hok hla hpre rfl (Below.refl _ _), rfl⟩
      obtain rfl := eqi hi hge
      have p7 := hpre 7 (by kernel_rfl)
      have e7 : s7 = .agg #[.slice (some ⟨g, 0, none⟩) N cap, .int .i64 0, .int .i64 0] := hF.get 7 _ rfl (.inr p7)
      subst e7
      have r7 : A.tmps[74]? = some (.agg #[.slice (some ⟨g, 0, none⟩) N cap, .int .i64 0, .int .i64 0]) := hR.own 7 _ _ rfl rfl
      have p2 := hpre 2 (by kernel_rfl)
      have e2 : s2 = .bool true := hF.get 2 _ rfl (.inr p2)
      subst e2
      have r2 : A.tmps[69]? = some (.bool true) := hR.own 2 _ _ rfl rfl
      refine step_of ⟨some 75, _, _, _, _, _⟩ rfl (fun K' hK => ?_)
      rw [if_pos (by simp [Region.wanted, yielded, r2])]
      go_simp
      exact hK.out _ _ ⟨_, hF.box hok hla hpre hun rfl, rfl⟩
     rcases Nat.lt_or_ge i 11 with hi | hge
     ·rcases Nat.lt_or_ge i 10 with hi | hge
      ·obtain rfl := eqi hi hge
       have p4 := hpre 4 (by kernel_rfl)
       have e4 : s4 = .func (.func 21) #[] #[] := hF.get 4 _ rfl (.inr p4)
       subst e4
       have r4 : A.tmps[71]? = some (.func (.func 21) #[] #[]) := hR.own 4 _ _ rfl rfl
       have p5 := hpre 5 (by kernel_rfl)
       have e5 : s5 = .string name := hF.get 5 _ rfl (.inr p5)
       subst e5
       have r5 : A.tmps[72]? = some (.string name) := hR.own 5 _ _ rfl rfl
       have p8 := hpre 8 (by kernel_rfl)
       obtain ⟨G8, eG8, _, hGl8, hGB8⟩ : ∃ G, s8 = .pointer (some ⟨G, 0, none⟩) ∧ (∀ k, none = some k → G = k) ∧ w5.heap.size ≤ G ∧ Wr.heap[G]? = some (.cells (if listed.getD 28 false = true then #[.slice (some ⟨g, 0, none⟩) N cap, .int .i64 0, .int .i64 0] else #[.slice (some ⟨g, 0, none⟩) N cap, .int .i64 0, .int .i64 0]) 50 (0, 0)) := hF.get 8 _ rfl (.inr p8)
       subst eG8
       rw [ite_self] at hGB8
       have r8 : A.tmps[75]? = some (.pointer (some ⟨G8, 0, none⟩)) := hR.own 8 _ _ rfl rfl
       have p2 := hpre 2 (by kernel_rfl)
       have e2 : s2 = .bool true := hF.get 2 _ rfl (.inr p2)
       subst e2
       have r2 : A.tmps[69]? = some (.bool true) := hR.own 2 _ _ rfl rfl
       refine step_of ⟨some 76, _, _, _, _, _⟩ rfl (fun K' hK => ?_)
       rw [if_pos (by simp [Region.wanted, yielded, r2])]
       go_simp
       go_at_call 21
       (with_reducible refine (TW.out _ _ (HL5.out.trans ((below_none hF.low).mono HL5.out.size)) (HPR5.out.below (below_none hF.low)) (Nat.le_trans HL5.out.size hGl8) hGB8).mono ?_)
       rintro e Wq ⟨rfl, hq⟩
       exact hK.out _ _ ⟨_, hF.pure hok hla hpre rfl hq, rfl⟩
      obtain rfl := eqi hi hge
      have p3 := hpre 3 (by kernel_rfl)
      have e3 : s3 = .agg #[.int .i64 4, .string ⟨#[]⟩, .string ⟨#[]⟩, .string ⟨#[]⟩, .bool false, .int .i64 5, .int .i64 0, .int .i64 0, .slice none 0 0] := hF.get 3 _ rfl (.inr p3)
      subst e3
      have r3 : A.tmps[70]? = some (.agg #[.int .i64 4, .string ⟨#[]⟩, .string ⟨#[]⟩, .string ⟨#[]⟩, .bool false, .int .i64 5, .int .i64 0, .int .i64 0, .slice none 0 0]) := hR.own 3 _ _ rfl rfl
      have p9 := hpre 9 (by kernel_rfl)
      have e9 : s9 = .agg #[.int .i64 k', .string n', .string d', .string t', .bool on', .int .i64 c', .int .i64 r', .int .i64 s', .slice wA wL wC] := hF.get 9 _ rfl (.inr p9)
      subst e9
      have r9 : A.tmps[76]? = some (.agg #[.int .i64 k', .string n', .string d', .string t', .bool on', .int .i64 c', .int .i64 r', .int .i64 s', .slice wA wL wC]) := hR.own 9 _ _ rfl rfl
      have p2 := hpre 2 (by kernel_rfl)
      have e2 : s2 = .bool true := hF.get 2 _ rfl (.inr p2)
      subst e2
      have r2 : A.tmps[69]? = some (.bool true) := hR.own 2 _ _ rfl rfl
      refine step_of ⟨some 77, _, _, _, _, _⟩ rfl (fun K' hK => ?_)
      rw [if_pos (by simp [Region.wanted, yielded, r2])]
      go_simp
      go_at_call 17
      (with_reducible refine (TS.out _).mono ?_)
      rintro e Wq ⟨rfl, hq⟩
      exact hK.out _ _ ⟨_, hF.pure hok hla hpre rfl hq, rfl⟩
     rcases Nat.lt_or_ge i 12 with hi | hge
     ·obtain rfl := eqi hi hge
      have p10 := hpre 10 (by kernel_rfl)
      have e10 : s10 = .bool false := hF.get 10 _ rfl (.inr p10)
      subst e10
      have r10 : A.tmps[77]? = some (.bool false) := hR.own 10 _ _ rfl rfl
      have p2 := hpre 2 (by kernel_rfl)
      have e2 : s2 = .bool true := hF.get 2 _ rfl (.inr p2)
      subst e2
      have r2 : A.tmps[69]? = some (.bool true) := hR.own 2 _ _ rfl rfl
      refine step_of ⟨some 78, _, _, _, _, _⟩ rfl (fun K' hK => ?_)
      rw [if_pos (by simp [Region.wanted, yielded, r2])]
      go_simp
      exact hK.out _ _ ⟨_, hF.pure hok hla hpre rfl (Below.refl _ _), rfl⟩
     obtain rfl := eqi hi hge
     have p11 := hpre 11 (by kernel_rfl)
     have e11 : s11 = .bool false := hF.get 11 _ rfl (.inr p11)
     subst e11
     have r11 : A.tmps[78]? = some (.bool false) := hR.own 11 _ _ rfl rfl
     have ro18 : A.tmps[18]? = some (.pointer (some ⟨bv, 0, none⟩)) := hR.out 1 _ rfl
     refine step_of ⟨some 79, _, _, _, _, _⟩ rfl (fun K' hK => ?_)
     rw [if_pos (by simp [Region.wanted, yielded, r11])]
     go_simp
     exact hK.out _ _ ⟨_, hF.pure hok hla hpre rfl (Below.refl _ _), rfl⟩
    rcases Nat.lt_or_ge i 20 with hi | hge
    ·rcases Nat.lt_or_ge i 16 with hi | hge
     ·rcases Nat.lt_or_ge i 14 with hi | hge
      ·obtain rfl := eqi hi hge
       have p12 := hpre 12 (by kernel_rfl)
       have e12 : s12 = .pointer (some ⟨bv, 0, none⟩) := hF.get 12 _ rfl (.inr p12)
       subst e12
       have r12 : A.tmps[79]? = some (.pointer (some ⟨bv, 0, none⟩)) := hR.own 12 _ _ rfl rfl
       have p11 := hpre 11 (by kernel_rfl)
       have e11 : s11 = .bool false := hF.get 11 _ rfl (.inr p11)
       subst e11
       have r11 : A.tmps[78]? = some (.bool false) := hR.own 11 _ _ rfl rfl
       have hcc := (nine_at (keep_block HBV.out (below_none hF.low))).1
       have cHBV0 := hcc.1
       have cHBV1 := hcc.2.1
       have cHBV2 := hcc.2.2.1
       have cHBV3 := hcc.2.2.2.1
       have cHBV4 := hcc.2.2.2.2.1
       have cHBV5 := hcc.2.2.2.2.2.1
       have cHBV6 := hcc.2.2.2.2.2.2.1
       have cHBV7 := hcc.2.2.2.2.2.2.2.1
       have cHBV8 := hcc.2.2.2.2.2.2.2.2
       clear hcc
       refine step_of ⟨some 80, _, _, _, _, _⟩ rfl (fun K' hK => ?_)
       rw [if_pos (by simp [Region.wanted, yielded, r11])]
       go_simp
       exact hK.out _ _ ⟨_, hF.pure hok hla hpre rfl (Below.refl _ _), rfl⟩
      rcases Nat.lt_or_ge i 15 with hi | hge
      ·obtain rfl := eqi hi hge
       have p13 := hpre 13 (by kernel_rfl)
       have e13 : s13 = .int .i64 4 := hF.get 13 _ rfl (.inr p13)
       subst e13
       have r13 : A.tmps[80]? = some (.int .i64 4) := hR.own 13 _ _ rfl rfl
       have p11 := hpre 11 (by kernel_rfl)
       have e11 : s11 = .bool false := hF.get 11 _ rfl (.inr p11)
       subst e11
       have r11 : A.tmps[78]? = some (.bool false) := hR.own 11 _ _ rfl rfl
       refine step_of ⟨some 81, _, _, _, _, _⟩ rfl (fun K' hK => ?_)
       rw [if_pos (by simp [Region.wanted, yielded, r11])]
       go_simp
       exact hK.out _ _ ⟨_, hF.pure hok hla hpre rfl (Below.refl _ _), rfl⟩
      obtain rfl := eqi hi hge
      have p14 := hpre 14 (by kernel_rfl)
      have e14 : s14 = .bool true := hF.get 14 _ rfl (.inr p14)
      subst e14
      have r14 : A.tmps[81]? = some (.bool true) := hR.own 14 _ _ rfl rfl
      have p11 := hpre 11 (by kernel_rfl)
      have e11 : s11 = .bool false := hF.get 11 _ rfl (.inr p11)
      subst e11
      have r11 : A.tmps[78]? = some (.bool false) := hR.own 11 _ _ rfl rfl
      refine step_of ⟨some 82, _, _, _, _, _⟩ rfl (fun K' hK => ?_)
      rw [if_pos (by simp [Region.wanted, yielded, r11])]
      go_simp
      exact hK.out _ _ ⟨_, hF.pure hok hla hpre rfl (Below.refl _ _), rfl⟩
     rcases Nat.lt_or_ge i 18 with hi | hge
     ·rcases Nat.lt_or_ge i 17 with hi | hge
      ·obtain rfl := eqi hi hge
       have p15 := hpre 15 (by kernel_rfl)
       have e15 : s15 = .bool true := hF.get 15 _ rfl (.inr p15)
       subst e15
       have r15 : A.tmps[82]? = some (.bool true) := hR.own 15 _ _ rfl rfl
       have ro18 : A.tmps[18]? = some (.pointer (some ⟨bv, 0, none⟩)) := hR.out 1 _ rfl
       refine step_of ⟨some 83, _, _, _, _, _⟩ rfl (fun K' hK => ?_)
       rw [if_pos (by simp [Region.wanted, yielded, r15])]
       go_simp
       exact hK.out _ _ ⟨_, hF.pure hok hla hpre rfl (Below.refl _ _), rfl⟩
      obtain rfl := eqi hi hge
      have p16 := hpre 16 (by kernel_rfl)
      have e16 : s16 = .pointer (some ⟨bv, 5, none⟩) := hF.get 16 _ rfl (.inr p16)
      subst e16
      have r16 : A.tmps[83]? = some (.pointer (some ⟨bv, 5, none⟩)) := hR.own 16 _ _ rfl rfl
      have p15 := hpre 15 (by kernel_rfl)
      have e15 : s15 = .bool true := hF.get 15 _ rfl (.inr p15)
      subst e15
      have r15 : A.tmps[82]? = some (.bool true) := hR.own 15 _ _ rfl rfl
      have hcc := (nine_at (keep_block HBV.out (below_none hF.low))).1
      have cHBV0 := hcc.1
      have cHBV1 := hcc.2.1
      have cHBV2 := hcc.2.2.1
      have cHBV3 := hcc.2.2.2.1
      have cHBV4 := hcc.2.2.2.2.1
      have cHBV5 := hcc.2.2.2.2.2.1
      have cHBV6 := hcc.2.2.2.2.2.2.1
      have cHBV7 := hcc.2.2.2.2.2.2.2.1
      have cHBV8 := hcc.2.2.2.2.2.2.2.2
      clear hcc
      refine step_of ⟨some 84, _, _, _, _, _⟩ rfl (fun K' hK => ?_)
      rw [if_pos (by simp [Region.wanted, yielded, r15])]
      go_simp
      exact hK.out _ _ ⟨_, hF.pure hok hla hpre rfl (Below.refl _ _), rfl⟩
     rcases Nat.lt_or_ge i 19 with hi | hge
     ·obtain rfl := eqi hi hge
      have p17 := hpre 17 (by kernel_rfl)
      have e17 : s17 = .int .i64 5 := hF.get 17 _ rfl (.inr p17)
      subst e17
      have r17 : A.tmps[84]? = some (.int .i64 5) := hR.own 17 _ _ rfl rfl
      have p15 := hpre 15 (by kernel_rfl)
      have e15 : s15 = .bool true := hF.get 15 _ rfl (.inr p15)
      subst e15
      have r15 : A.tmps[82]? = some (.bool true) := hR.own 15 _ _ rfl rfl
      refine step_of ⟨some 85, _, _, _, _, _⟩ rfl (fun K' hK => ?_)
      rw [if_pos (by simp [Region.wanted, yielded, r15])]
      go_simp
      exact hK.out _ _ ⟨_, hF.pure hok hla hpre rfl (Below.refl _ _), rfl⟩
     obtain rfl := eqi hi hge
     have p15 := hpre 15 (by kernel_rfl)
     have e15 : s15 = .bool true := hF.get 15 _ rfl (.inr p15)
     subst e15
     have r15 : A.tmps[82]? = some (.bool true) := hR.own 15 _ _ rfl rfl
     have p18 := hpre 18 (by kernel_rfl)
     have e18 : s18 = .bool true := hF.get 18 _ rfl (.inr p18)
     subst e18
     have r18 : A.tmps[85]? = some (.bool true) := hR.own 18 _ _ rfl rfl
     have p11 := hpre 11 (by kernel_rfl)
     have e11 : s11 = .bool false := hF.get 11 _ rfl (.inr p11)
     subst e11
     have r11 : A.tmps[78]? = some (.bool false) := hR.own 11 _ _ rfl rfl
     refine step_of ⟨some 86, _, _, _, _, _⟩ rfl (fun K' hK => ?_)
     rw [if_pos (by simp [Region.wanted, yielded, r11])]
     go_simp
     exact hK.out _ _ ⟨_, hF.pure hok hla hpre rfl (Below.refl _ _), rfl⟩
    rcases Nat.lt_or_ge i 23 with hi | hge
    ·rcases Nat.lt_or_ge i 21 with hi | hge
     ·obtain rfl := eqi hi hge
      have p19 := hpre 19 (by kernel_rfl)
      have e19 : s19 = .bool true := hF.get 19 _ rfl (.inr p19)
      subst e19
      have r19 : A.tmps[86]? = some (.bool true) := hR.own 19 _ _ rfl rfl
      have p11 := hpre 11 (by kernel_rfl)
      have e11 : s11 = .bool false := hF.get 11 _ rfl (.inr p11)
      subst e11
      have r11 : A.tmps[78]? = some (.bool false) := hR.own 11 _ _ rfl rfl
      refine step_of ⟨some 87, _, _, _, _, _⟩ rfl (fun K' hK => ?_)
      rw [if_pos (by simp [Region.wanted, yielded, r11])]
      go_simp
      exact hK.out _ _ ⟨_, hF.pure hok hla hpre rfl (Below.refl _ _), rfl⟩
     rcases Nat.lt_or_ge i 22 with hi | hge
     ·obtain rfl := eqi hi hge
      have p20 := hpre 20 (by kernel_rfl)
      have e20 : s20 = .bool true := hF.get 20 _ rfl (.inr p20)
      subst e20
      have r20 : A.tmps[87]? = some (.bool true) := hR.own 20 _ _ rfl rfl
      have ro16 : A.tmps[16]? = some (.slice (some ⟨g, 0, none⟩) N cap) := hR.out 4 _ rfl
      refine step_of ⟨some 88, _, _, _, _, _⟩ rfl (fun K' hK => ?_)
      rw [if_pos (by simp [Region.wanted, yielded, r20])]
      go_simp
      exact hK.out _ _ ⟨_, hF.pure hok hla hpre rfl (Below.refl _ _), rfl⟩
     obtain rfl := eqi hi hge
     have p21 := hpre 21 (by kernel_rfl)
     have e21 : s21 = .slice (some ⟨g, 0, none⟩) N cap := hF.get 21 _ rfl (.inr p21)
     subst e21
     have r21 : A.tmps[88]? = some (.slice (some ⟨g, 0, none⟩) N cap) := hR.own 21 _ _ rfl rfl
     have p20 := hpre 20 (by kernel_rfl)
     have e20 : s20 = .bool true := hF.get 20 _ rfl (.inr p20)
     subst e20
     have r20 : A.tmps[87]? = some (.bool true) := hR.own 20 _ _ rfl rfl
     refine step_of ⟨some 89, _, _, _, _, _⟩ rfl (fun K' hK => ?_)
     rw [if_pos (by simp [Region.wanted, yielded, r20])]
     go_simp
     go_at_call 24
     (with_reducible refine (TH.out _ (HPR5.out.below (below_none hF.low)) (HL5.out.trans ((below_none hF.low).mono HL5.out.size))).mono ?_)
     rintro e Wq ⟨rfl, hq⟩
     exact hK.out _ _ ⟨_, hF.pure hok hla hpre rfl hq, rfl⟩
    rcases Nat.lt_or_ge i 25 with hi | hge
    ·rcases Nat.lt_or_ge i 24 with hi | hge
     ·obtain rfl := eqi hi hge
      have p20 := hpre 20 (by kernel_rfl)
      have e20 : s20 = .bool true := hF.get 20 _ rfl (.inr p20)
      subst e20
      have r20 : A.tmps[87]? = some (.bool true) := hR.own 20 _ _ rfl rfl
      have p22 := hpre 22 (by kernel_rfl)
      have e22 : s22 = .bool true := hF.get 22 _ rfl (.inr p22)
      subst e22
      have r22 : A.tmps[89]? = some (.bool true) := hR.own 22 _ _ rfl rfl
      have p11 := hpre 11 (by kernel_rfl)
      have e11 : s11 = .bool false := hF.get 11 _ rfl (.inr p11)
      subst e11
      have r11 : A.tmps[78]? = some (.bool false) := hR.own 11 _ _ rfl rfl
      refine step_of ⟨some 90, _, _, _, _, _⟩ rfl (fun K' hK => ?_)
      rw [if_pos (by simp [Region.wanted, yielded, r11])]
      go_simp
      exact hK.out _ _ ⟨_, hF.pure hok hla hpre rfl (Below.refl _ _), rfl⟩
     obtain rfl := eqi hi hge
     have p11 := hpre 11 (by kernel_rfl)
     have e11 : s11 = .bool false := hF.get 11 _ rfl (.inr p11)
     subst e11
     have r11 : A.tmps[78]? = some (.bool false) := hR.own 11 _ _ rfl rfl
     have p23 := hpre 23 (by kernel_rfl)
     have e23 : s23 = .bool true := hF.get 23 _ rfl (.inr p23)
     subst e23
     have r23 : A.tmps[90]? = some (.bool true) := hR.own 23 _ _ rfl rfl
     have p2 := hpre 2 (by kernel_rfl)
     have e2 : s2 = .bool true := hF.get 2 _ rfl (.inr p2)
     subst e2
     have r2 : A.tmps[69]? = some (.bool true) := hR.own 2 _ _ rfl rfl
     refine step_of ⟨some 91, _, _, _, _, _⟩ rfl (fun K' hK => ?_)
     rw [if_pos (by simp [Region.wanted, yielded, r2])]
     go_simp
     exact hK.out _ _ ⟨_, hF.pure hok hla hpre rfl (Below.refl _ _), rfl⟩
    rcases Nat.lt_or_ge i 26 with hi | hge
    ·obtain rfl := eqi hi hge
     have p2 := hpre 2 (by kernel_rfl)
     have e2 : s2 = .bool true := hF.get 2 _ rfl (.inr p2)
     subst e2
     have r2 : A.tmps[69]? = some (.bool true) := hR.own 2 _ _ rfl rfl
     have p24 := hpre 24 (by kernel_rfl)
     have e24 : s24 = .bool true := hF.get 24 _ rfl (.inr p24)
     subst e24
     have r24 : A.tmps[91]? = some (.bool true) := hR.own 24 _ _ rfl rfl
     refine step_of ⟨some 92, _, _, _, _, _⟩ rfl (fun K' hK => ?_)
     go_simp
     exact hK.out _ _ ⟨_, hF.pure hok hla hpre rfl (Below.refl _ _), rfl⟩
    obtain rfl := eqi hi hge
    have p25 := hpre 25 (by kernel_rfl)
    have e25 : s25 = .bool true := hF.get 25 _ rfl (.inr p25)
    subst e25
    have r25 : A.tmps[92]? = some (.bool true) := hR.own 25 _ _ rfl rfl
    refine step_of ⟨some 12, _, _, _, _, _⟩ rfl (fun K' hK => ?_)
    go_simp
    exact hK.out _ _ ⟨_, hF.pure hok hla hpre rfl (Below.refl _ _), rfl⟩
   case hd =>
    rintro listed vs w9 hF hall
    obtain ⟨s0, s1, s2, s3, s4, s5, s6, s7, s8, s9, s10, s11, s12, s13, s14, s15, s16, s17, s18, s19, s20, s21, s22, s23, s24, s25, s26, hvs⟩ := exl_of 27 vs (fun l => vs = l) hF.len rfl
    subst hvs
    have e26 : s26 = .bool true := hF.get 26 _ rfl (.inr (hall 26 (by decide)))
    subst e26
    have hq := below_none hF.low
    replace HBV := hid (keep_block HBV.out hq)
    replace HL5 := hid (HL5.out.trans (hq.mono HL5.out.size))
    replace HPR5 := hid (HPR5.out.below hq)
    clear hq
    clear hF hall hok hla hna
    refine rest_end ?_
    simp only [putO, layL]
    go_wp2
    go_ret
    exact ⟨rfl, HL5.out⟩
end Num
namespace Num
open Go.RowKit Go.Lib
theorem MdVal.uniq {a : Arg} {r r' : Val} (h : MdVal a r) (h' : MdVal a r') : r = r' := by
 rcases h with ⟨h0, rfl⟩ | ⟨h0, hn, rfl⟩ | ⟨h0, ha, hs, n, e, _, _, _, h⟩
 ·rcases h' with ⟨_, rfl⟩ | ⟨h, _⟩ | ⟨h, _⟩
  ·rfl
  ·exact absurd h h0
  ·exact absurd h h0
 ·rcases h' with ⟨h, _⟩ | ⟨_, _, rfl⟩ | ⟨_, h1, h2, _⟩
  ·exact absurd h0 h
  ·rfl
  ·exact absurd ⟨h1, h2⟩ hn
 ·rcases h' with ⟨h, _⟩ | ⟨_, h, _⟩ | ⟨_, _, _, n', e', _, _, _, h'⟩
  ·exact absurd h0 h
  ·exact absurd ⟨ha, hs⟩ h
  ·obtain rfl : n = n' := by omega
   rcases h with ⟨h1, _, rfl⟩ | ⟨h1, rfl⟩
   ·rcases h' with ⟨_, _, rfl⟩ | ⟨h2, _⟩
    ·rfl
    ·exact absurd h2 h1
   ·rcases h' with ⟨h2, _⟩ | ⟨_, rfl⟩
    ·exact absurd h1 h2
    ·rfl
theorem mdVal_ex {w : World} {a : Arg} (hok : ArgOk w a) (hv : ValOk a.v a.vs) (hfew : a.items.length ≤ 30) : ∃ rv, MdVal a rv := by
 by_cases h0 : codeOf a.items = 0
 ·by_cases hsq : allNum a.items = true ∧ (sizeOf a.v).1 = (sizeOf a.v).2
  ·obtain ⟨N, n, e1, e2, hN1, hn1, hL, hN9, hn9⟩ := Mt.arg_size hok hv hfew
   have hnn : N = n := by have := hsq.2; omega
   subst hnn
   have h5 : N ≤ 5 := by
    rcases Nat.lt_or_ge 5 N with h | h
    ·exfalso
     have := Nat.mul_le_mul h h
     omega
    ·exact h
   by_cases hov : Over N (matQ (Mt.qsOf a.items) N)
   ·exact ⟨faultVal' 5, .inr (.inr ⟨h0, hsq.1, hsq.2, N, e1, hN1, h5, hL, .inr ⟨hov, rfl⟩⟩)⟩
   ·exact ⟨_, .inr (.inr ⟨h0, hsq.1, hsq.2, N, e1, hN1, h5, hL, .inl ⟨hov, det_fits h5 (fits_int 1 (by decide)) fits_zero hov, rfl⟩⟩)⟩
  ·exact ⟨faultVal' 2, .inr (.inl ⟨h0, hsq, rfl⟩)⟩
 ·exact ⟨_, .inl ⟨h0, rfl⟩⟩
theorem frac_uniq {p q : Rat} (h1 : numS p = numS q) (h2 : denS p = denS q) : p = q := by
 have e1 : numText p = numText q := by
  have := congrArg (fun b : ByteArray => b.data.toList) h1
  exact this
 have e2 : denText p = denText q := by
  have := congrArg (fun b : ByteArray => b.data.toList) h2
  exact this
 have hd : p.den = q.den := decDigits_inj e2
 have hn : neg p = neg q := by rw [← num_minus, ← num_minus, e1]
 have hu : up p = up q := by
  apply decDigits_inj
  rw [← num_rest, ← num_rest, e1]
 rw [← ratOf_self p, ← ratOf_self q, hn, hu, hd]
theorem nums_uniq {its : List Val} {qs qs' : List Rat} (h : NumItems its qs) (h' : NumItems its qs') : qs = qs' := by
 refine List.ext_getElem (h.1.symm.trans h'.1) (fun i hi hi' => ?_)
 have hii : i < its.length := by rw [h.1]; exact hi
 obtain ⟨A, C, e⟩ := h.2 i hii
 obtain ⟨A', C', e'⟩ := h'.2 i hii
 rw [e] at e'
 have e1 := congrArg Val.n e'
 have e2 := congrArg Val.d e'
 simp only at e1 e2
 have := frac_uniq e1 e2
 rwa [List.getD_eq_getElem?_getD, List.getD_eq_getElem?_getD, List.getElem?_eq_getElem hi, List.getElem?_eq_getElem hi'] at this
theorem len_wq {x : Val} (h : SingleOk x) (hk : x.k = 1) : x.n.size + x.d.size = wq (Mt.valQ x) := by
 obtain ⟨_, h1, h2⟩ := Mt.valQ_spec h hk
 rw [h1, h2]
 unfold wq
 show (numText _).toArray.size + (denText _).toArray.size = _
 rw [List.size_toArray, List.size_toArray]
theorem md_same {w : World} {a : Arg} (hok : ArgOk w a) (hv : ValOk a.v a.vs) (hfew : a.items.length ≤ 30) (hsm : ∀ x ∈ a.items, smallV x) {rv : Val} (h : MdVal a rv) (q : Rat) (hq : ∀ n qs, Square a n qs → q = lap (matQ qs n) n n 0 0) : SameOr [a] rv (detWant a.items (sizeOf a.v) q) := by
 unfold detWant
 rcases h with ⟨h0, rfl⟩ | ⟨h0, hn, rfl⟩ | ⟨h0, ha, hs, n, e, h1, h5, hL, h⟩
 ·rw [if_pos h0]
  exact .inl ⟨4, _, _, _, false, _, 0, 0, none, none, 0, 0, rfl, rfl⟩
 ·rw [if_neg (fun h => h h0), if_neg hn]
  exact .inl ⟨4, _, _, _, false, _, 0, 0, none, none, 0, 0, rfl, rfl⟩
 ·rw [if_neg (fun h => h h0), if_pos ⟨ha, hs⟩]
  have hsi := single_items hv
  have hk : ∀ x ∈ a.items, x.k = 1 := fun x hx => by have := List.all_eq_true.1 ha x hx; simpa using this
  obtain ⟨n', qs, hS⟩ := square_of hok hv hfew hsm ha hs
  obtain rfl : n = n' := by have := hS.rows; omega
  obtain rfl : qs = Mt.qsOf a.items := nums_uniq hS.items (Mt.nums_qsOf hsi ha)
  obtain rfl := hq n _ hS
  rw [lap_detR _ h1 h5]
  unfold numOr'
  rcases h with ⟨_, hf, rfl⟩ | ⟨hov, rfl⟩
  ·rw [if_pos hf]
   exact .inl ⟨1, _, _, _, false, 0, 0, 0, none, none, 0, 0, rfl, rfl⟩
  ·by_cases hf : fits (detR n (matQ (Mt.qsOf a.items) n)) = true
   ·rw [if_pos hf]
    refine .inr ⟨rfl, by show (1 : Int) ≠ 4; decide, fun b hb => ?_, ?_⟩
    ·obtain rfl : b = a := by simpa using hb
     exact ⟨hfew, fun x hx => ⟨hsi x hx, hk x hx, hsm x hx⟩⟩
    ·have hw := hov.heavy h5 (by rw [Mt.qsOf_len, hL])
     have e2 : lenOf ([a].flatMap Arg.items) = ((Mt.qsOf a.items).map wq).sum := by
      rw [List.flatMap_singleton]
      unfold lenOf Mt.qsOf
      rw [List.map_map]
      exact congrArg List.sum (List.map_congr_left fun x hx => len_wq (hsi x hx) (hk x hx))
     rw [e2]; exact hw
   ·rw [if_neg hf]
    exact .inl ⟨4, _, _, _, false, _, 0, 0, none, none, 0, 0, rfl, rfl⟩
theorem fam_md (a : Arg) (nA nC gA C : Nat) (w : World) (hnm : w.cell? ⟨nA, 0, none⟩ = some (.string ⟨#[77, 68, 69, 84, 69, 82, 77]⟩)) (hrow : ValsAt w gA 0 [a.v]) (hok : ArgOk w a) (hE : EnvR w) :
  Calls Tryz.prog 10 #[.slice (some ⟨nA, 0, none⟩) 1 nC, .int .i64 0, .slice (some ⟨gA, 0, none⟩) 1 C, .func (.func 11) #[] #[], .func (.func 12) #[] #[], .func (.func 21) #[] #[]] w fun e w' => e = .returned (.bool true) ∧ Below w.heap.size w w' := by
 refine family_any [⟨#[77, 68, 69, 84, 69, 82, 77]⟩] nA nC 0 1 1 ⟨#[97]⟩ ⟨#[77, 68, 69, 84, 69, 82, 77]⟩ [a] (some ⟨gA, 0, none⟩) 1 C 1 w (by decide) (by decide) ?_ (by decide) rfl (by decide) ?_ ?_ hE (by decide) (by decide) (by decide) (by decide) (by decide) (by decide) (by decide) (by decide) ?_ ?_
 ·intro i hi
  obtain rfl : i = 0 := by simp at hi; omega
  exact hnm
 ·exact fun _ => ⟨gA, 0, rfl, hrow⟩
 ·intro b hb
  obtain rfl : b = a := by simpa using hb
  exact hok
 ·intro W _
  exact params_row 34 ⟨⟨#[77, 68, 69, 84, 69, 82, 77]⟩, 1, 1, ⟨#[97]⟩, true, 187⟩ (by decide) rfl (fr_of 34 (by decide) (by kernel_rfl)) W
 ·intro W g C' outs hb hpr
  obtain ⟨b, rfl⟩ : ∃ b, outs = [b] := List.length_eq_one_iff.1 hpr.len
  have hp := hpr.ok 0 (by simp)
  obtain rfl : b = a := hp.is
  have hv : ValOk b.v b.vs := hp.ok
  have hsm := hp.small
  have hfew := hp.few
  obtain ⟨rv, hrv⟩ := mdVal_ex hok hv hfew
  obtain ⟨q, hqd⟩ : ∃ q, q = lap (matQ (Mt.qsOf b.items) (sizeOf b.v).1.toNat) (sizeOf b.v).1.toNat (sizeOf b.v).1.toNat 0 0 := ⟨_, rfl⟩
  have hq : ∀ n qs, Square b n qs → q = lap (matQ qs n) n n 0 0 := by
   intro n qs hS
   have ha : allNum b.items = true := by
    refine List.all_eq_true.2 fun x hx => ?_
    obtain ⟨i, hi, rfl⟩ := List.getElem_of_mem hx
    obtain ⟨A, C, e⟩ := hS.items.2 i hi
    rw [e]; rfl
   obtain rfl : qs = Mt.qsOf b.items := nums_uniq hS.items (Mt.nums_qsOf (single_items hv) ha)
   rw [hqd, hS.rows, Int.toNat_natCast]
  refine ⟨detWant b.items (sizeOf b.v) q, fun W' hb' hpr' => ?_, fun W' ab hb' hpr' _ hab => ?_⟩
  ·refine (call_of ⟨#[77, 68, 69, 84, 69, 82, 77]⟩ (.slice (some ⟨g, 0, none⟩) 1 C') rv W' ⟨_, _, _, rfl⟩ (fun W2 t hb2 hT => ?_)).mono fun e w' h => ⟨rv, md_same hok hv hfew hsm hrv q hq, h.1, h.2⟩
   obtain ⟨rv', hrv', hc⟩ := mdrow b t g C' W2 ((hpr'.arg b (by simp)).below hb2) hv hfew (hpr'.row.below hb2) ((hE.below hb').below hb2) hT
   rw [hrv.uniq hrv']
   exact hc
  ·exact rmdet_any b g ab C' q W' (hpr'.arg b (by simp)) hv hfew hsm hpr'.row hab hq (hE.below hb')
def smallS (q : Rat) : Prop := fits q = true ∧ (numS q).size ≤ 1000000000 ∧ (denS q).size ≤ 1000000000
theorem two_small : smallS ((2 : Nat) : Rat) := ⟨fits_int 2 (by decide), by decide +kernel, by decide +kernel⟩
theorem num_arg {q : Rat} (h : smallS q) (W : World) : ArgOk W ⟨numVal' q, []⟩ :=
 ⟨⟨h.2.1, h.2.2, Nat.zero_le _⟩, fun x hx => (by cases hx), fun h5 => absurd h5 (by show ¬ (1 : Int) = 5; decide)⟩
theorem law_any (a : Arg) (w : World) (hok : ArgOk w a) (hE : EnvR w) :
  Calls Tryz.prog 9 #[a.v.agg] w fun e w' => e = .returned (.bool true) ∧ Below w.heap.size w w' := by
 have TS := hid (fun W => rsize_any a.v W)
 have TI := hid (fun W => rint_any 2 W (by decide))
 have TF := hid (fun b nA gA W h1 h2 h3 h4 => fam_md b nA 1 gA 1 W h1 h2 h3 h4)
 obtain ⟨sv, hsv⟩ : ∃ s, sizeOf a.v = s := ⟨_, rfl⟩
 rw [hsv] at TS
 clear hsv
 obtain ⟨sr, ss⟩ := sv
 have HOK := hid hok
 have HE := hid hE
 clear hok hE
 obtain ⟨⟨vk, vn, vd, vt, vo, vc, vr, vz, vA, vL, vC⟩, vs⟩ := a
 have e0 : Val.agg ⟨vk, vn, vd, vt, vo, vc, vr, vz, vA, vL, vC⟩ = .agg #[.int .i64 vk, .string vn, .string vd, .string vt, .bool vo, .int .i64 vc, .int .i64 vr, .int .i64 vz, .slice vA vL vC] := rfl
 rw [e0] at TS ⊢
 clear e0
 have hb0 : Below w.heap.size w (w.alloc (.cells #[.int .i64 vk, .string vn, .string vd, .string vt, .bool vo, .int .i64 vc, .int .i64 vr, .int .i64 vz, .slice vA vL vC] 32)) := (Below.refl _ _).alloc (Nat.le_refl _) _
 have HR := hid (heap_alloc_new w (.cells #[.int .i64 vk, .string vn, .string vd, .string vt, .bool vo, .int .i64 vc, .int .i64 vr, .int .i64 vz, .slice vA vL vC] 32))
 have HL := hid hb0
 clear hb0
 go_enter Tryz.func9, Tryz.ntmps9
 go_wp2_with fail
 refine (TS.out _).mono ?_
 rintro e w1 ⟨rfl, hb⟩
 replace HR := hid (keep_block HR.out hb)
 replace HL := hid (HL.out.trans (hb.mono HL.out.size))
 clear hb
 by_cases h5 : 5 < sr
 ·have d1 : decide (5 < sr) = true := decide_eq_true h5
  by_cases h13 : sr < 13
  ·have d2 : decide (sr < 13) = true := decide_eq_true h13
   clear h5 h13
   obtain ⟨q2, hq2⟩ : ∃ q : Rat, ((2 : Nat) : Rat) = q := ⟨_, rfl⟩
   have HQ2 := hid (show smallS q2 from by rw [← hq2]; exact two_small)
   have hno : numOr ((2 : Nat) : Rat) = .agg #[.int .i64 1, .string (numS q2), .string (denS q2), .string ⟨#[]⟩, .bool false, .int .i64 0, .int .i64 0, .int .i64 0, .slice none 0 0] := by
    rw [hq2]; unfold numOr; rw [if_pos HQ2.out.1]; rfl
   rw [hno] at TI
   clear hno hq2
   go_upto_if 15 with fail
   go_cut [16] (fun v16 wx => ∃ k n d t on c r z A L C vs', wx.heap[w.heap.size]? = some (.cells #[.int .i64 k, .string n, .string d, .string t, .bool on, .int .i64 c, .int .i64 r, .int .i64 z, .slice A L C] 32 (0, 0)) ∧ ArgOk wx ⟨⟨k, n, d, t, on, c, r, z, A, L, C⟩, vs'⟩ ∧ Below w.heap.size w wx)
   case first =>
    go_wp2_with fail
    refine (TI.out _).mono ?_
    rintro e w2 ⟨rfl, hb⟩
    replace HR := hid (keep_block HR.out hb)
    replace HL := hid (HL.out.trans (hb.mono HL.out.size))
    clear hb d1 d2
    obtain ⟨⟨r0, r1, r2, r3, r4, r5, r6, r7, r8⟩, g0, g1, g2, g3, g4, g5, g6, g7, g8⟩ := nine_at HR.out
    have HR2 := hid (set9_at HR.out (.int .i64 1) (.string (numS q2)) (.string (denS q2)) (.string ⟨#[]⟩) (.bool false) (.int .i64 0) (.int .i64 0) (.int .i64 0) (.slice none 0 0))
    have HL2 := hid (nine_end (x0 := (.int .i64 1)) (x1 := (.string (numS q2))) (x2 := (.string (denS q2))) (x3 := (.string ⟨#[]⟩)) (x4 := (.bool false)) (x5 := (.int .i64 0)) (x6 := (.int .i64 0)) (x7 := (.int .i64 0)) (x8 := (.slice none 0 0)) HR.out HL.out (Nat.le_refl _)).1
    go_wp2
    go_meet
    case rel => exact ⟨1, numS q2, denS q2, _, false, 0, 0, 0, none, 0, 0, [], HR2.out, num_arg HQ2.out _, HL2.out⟩
   case rest =>
    obtain ⟨k, n, d, t, on, c, r, z, A, L, C, vs', hr, ho, hl⟩ := hcut
    replace HR := hid hr
    have HO := hid ho
    replace HL := hid hl
    clear hr ho hl HOK TI
    have hba : Below wc.heap.size wc (wc.alloc (.cells #[.string ⟨#[77, 68, 69, 84, 69, 82, 77]⟩] 9)) := (Below.refl _ _).alloc (Nat.le_refl _) _
    obtain ⟨⟨r0, r1, r2, r3, r4, r5, r6, r7, r8⟩, g0, g1, g2, g3, g4, g5, g6, g7, g8⟩ := nine_at (keep_block HR.out hba)
    have hsa : (wc.alloc (.cells #[.string ⟨#[77, 68, 69, 84, 69, 82, 77]⟩] 9)).heap.size = wc.heap.size + 1 := by simp
    have hbb : Below (wc.alloc (.cells #[.string ⟨#[77, 68, 69, 84, 69, 82, 77]⟩] 9)).heap.size (wc.alloc (.cells #[.string ⟨#[77, 68, 69, 84, 69, 82, 77]⟩] 9)) ((wc.alloc (.cells #[.string ⟨#[77, 68, 69, 84, 69, 82, 77]⟩] 9)).alloc (.cells #[.int .i64 k, .string n, .string d, .string t, .bool on, .int .i64 c, .int .i64 r, .int .i64 z, .slice A L C] 32)) := (Below.refl _ _).alloc (Nat.le_refl _) _
    have HNM := hid (cell_below (Lib.cell_of_heap (heap_alloc_new wc (.cells #[.string ⟨#[77, 68, 69, 84, 69, 82, 77]⟩] 9)) 0) hbb)
    have HVA := hid (vals_of_block (heap_alloc_new (wc.alloc (.cells #[.string ⟨#[77, 68, 69, 84, 69, 82, 77]⟩] 9)) (.cells #[.int .i64 k, .string n, .string d, .string t, .bool on, .int .i64 c, .int .i64 r, .int .i64 z, .slice A L C] 32)) (vs := [(⟨⟨k, n, d, t, on, c, r, z, A, L, C⟩, vs'⟩ : Arg).v]) rfl)
    have HLL := hid (HL.out.trans ((hba.trans (hbb.mono hba.size)).mono HL.out.size))
    have HFF := hid (TF.out (⟨⟨k, n, d, t, on, c, r, z, A, L, C⟩, vs'⟩ : Arg) _ _ _ HNM.out HVA.out (HO.out.below (hba.trans (hbb.mono hba.size))) (HE.out.below HLL.out))
    rw [hsa] at HVA HFF
    clear hba hbb hsa
    go_wp2_with fail
    skip
    refine HFF.out.mono ?_
    rintro e w9 ⟨rfl, hb9⟩
    have HL9 := hid (HLL.out.trans (hb9.mono HLL.out.size))
    clear hb9
    go_wp2
    refine bodyPost_ret (v := .bool true) (by simp [results, Tryz.results9, go_sem]) rfl ⟨rfl, HL9.out⟩
  ·have d2 : decide (sr < 13) = false := decide_eq_false h13
   clear h5 h13
   have hba : Below w1.heap.size w1 (w1.alloc (.cells #[.string ⟨#[77, 68, 69, 84, 69, 82, 77]⟩] 9)) := (Below.refl _ _).alloc (Nat.le_refl _) _
   obtain ⟨⟨r0, r1, r2, r3, r4, r5, r6, r7, r8⟩, g0, g1, g2, g3, g4, g5, g6, g7, g8⟩ := nine_at (keep_block HR.out hba)
   have hsa : (w1.alloc (.cells #[.string ⟨#[77, 68, 69, 84, 69, 82, 77]⟩] 9)).heap.size = w1.heap.size + 1 := by simp
   have hbb : Below (w1.alloc (.cells #[.string ⟨#[77, 68, 69, 84, 69, 82, 77]⟩] 9)).heap.size (w1.alloc (.cells #[.string ⟨#[77, 68, 69, 84, 69, 82, 77]⟩] 9)) ((w1.alloc (.cells #[.string ⟨#[77, 68, 69, 84, 69, 82, 77]⟩] 9)).alloc (.cells #[.int .i64 vk, .string vn, .string vd, .string vt, .bool vo, .int .i64 vc, .int .i64 vr, .int .i64 vz, .slice vA vL vC] 32)) := (Below.refl _ _).alloc (Nat.le_refl _) _
   have HNM := hid (cell_below (Lib.cell_of_heap (heap_alloc_new w1 (.cells #[.string ⟨#[77, 68, 69, 84, 69, 82, 77]⟩] 9)) 0) hbb)
   have HVA := hid (vals_of_block (heap_alloc_new (w1.alloc (.cells #[.string ⟨#[77, 68, 69, 84, 69, 82, 77]⟩] 9)) (.cells #[.int .i64 vk, .string vn, .string vd, .string vt, .bool vo, .int .i64 vc, .int .i64 vr, .int .i64 vz, .slice vA vL vC] 32)) (vs := [(⟨⟨vk, vn, vd, vt, vo, vc, vr, vz, vA, vL, vC⟩, vs⟩ : Arg).v]) rfl)
   have HLL := hid (HL.out.trans ((hba.trans (hbb.mono hba.size)).mono HL.out.size))
   have HFF := hid (TF.out (⟨⟨vk, vn, vd, vt, vo, vc, vr, vz, vA, vL, vC⟩, vs⟩ : Arg) _ _ _ HNM.out HVA.out (HOK.out.below HLL.out) (HE.out.below HLL.out))
   rw [hsa] at HVA HFF
   clear hba hbb hsa
   go_wp2_with fail
   skip
   refine HFF.out.mono ?_
   rintro e w9 ⟨rfl, hb9⟩
   have HL9 := hid (HLL.out.trans (hb9.mono HLL.out.size))
   clear hb9
   go_wp2
   refine bodyPost_ret (v := .bool true) (by simp [results, Tryz.results9, go_sem]) rfl ⟨rfl, HL9.out⟩
 ·have d1 : decide (5 < sr) = false := decide_eq_false h5
  clear h5
  have hba : Below w1.heap.size w1 (w1.alloc (.cells #[.string ⟨#[77, 68, 69, 84, 69, 82, 77]⟩] 9)) := (Below.refl _ _).alloc (Nat.le_refl _) _
  obtain ⟨⟨r0, r1, r2, r3, r4, r5, r6, r7, r8⟩, g0, g1, g2, g3, g4, g5, g6, g7, g8⟩ := nine_at (keep_block HR.out hba)
  have hsa : (w1.alloc (.cells #[.string ⟨#[77, 68, 69, 84, 69, 82, 77]⟩] 9)).heap.size = w1.heap.size + 1 := by simp
  have hbb : Below (w1.alloc (.cells #[.string ⟨#[77, 68, 69, 84, 69, 82, 77]⟩] 9)).heap.size (w1.alloc (.cells #[.string ⟨#[77, 68, 69, 84, 69, 82, 77]⟩] 9)) ((w1.alloc (.cells #[.string ⟨#[77, 68, 69, 84, 69, 82, 77]⟩] 9)).alloc (.cells #[.int .i64 vk, .string vn, .string vd, .string vt, .bool vo, .int .i64 vc, .int .i64 vr, .int .i64 vz, .slice vA vL vC] 32)) := (Below.refl _ _).alloc (Nat.le_refl _) _
  have HNM := hid (cell_below (Lib.cell_of_heap (heap_alloc_new w1 (.cells #[.string ⟨#[77, 68, 69, 84, 69, 82, 77]⟩] 9)) 0) hbb)
  have HVA := hid (vals_of_block (heap_alloc_new (w1.alloc (.cells #[.string ⟨#[77, 68, 69, 84, 69, 82, 77]⟩] 9)) (.cells #[.int .i64 vk, .string vn, .string vd, .string vt, .bool vo, .int .i64 vc, .int .i64 vr, .int .i64 vz, .slice vA vL vC] 32)) (vs := [(⟨⟨vk, vn, vd, vt, vo, vc, vr, vz, vA, vL, vC⟩, vs⟩ : Arg).v]) rfl)
  have HLL := hid (HL.out.trans ((hba.trans (hbb.mono hba.size)).mono HL.out.size))
  have HFF := hid (TF.out (⟨⟨vk, vn, vd, vt, vo, vc, vr, vz, vA, vL, vC⟩, vs⟩ : Arg) _ _ _ HNM.out HVA.out (HOK.out.below HLL.out) (HE.out.below HLL.out))
  rw [hsa] at HVA HFF
  clear hba hbb hsa
  go_wp2_with fail
  skip
  refine HFF.out.mono ?_
  rintro e w9 ⟨rfl, hb9⟩
  have HL9 := hid (HLL.out.trans (hb9.mono HLL.out.size))
  clear hb9
  go_wp2
  refine bodyPost_ret (v := .bool true) (by simp [results, Tryz.results9, go_sem]) rfl ⟨rfl, HL9.out⟩
end Num
end Go.Proofs.YtjcdeeahjkfmoaaGreatDoor
