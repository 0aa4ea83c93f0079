/- Numbers as texts of digits, fractions, values and the functions of fmath: contracts of the program's functions, joined from smaller texts. Conditions stand at each theorem. -/
import Derived.Test.YtcgglmoeneiokaaGreatDoorSumA
import Derived.ProofKit
import Derived.OpenShut
import Derived.Test.YtcgglmoeneiokaaGreatDoorLayA

/- FmathSumsSplit: the law's contracts out of the functions' own. Conditions: the tables lie as they are laid. -/
namespace Go.Proofs.YtcgglmoeneiokaaGreatDoor.Num
open Go.RowKit Go.Lib

theorem gives_some (A : Addr) (ns : List Int) (L C : Nat) (w : World) (hL : ns.length = L) (h0 : 0 < L) (hm : L ≤ 9223372036854775807) (hLC : L ≤ C) (hn : ∀ n ∈ ns, -9223372036854775808 ≤ n ∧ n ≤ 9223372036854775807) (hc : CameInts w A ns) (hE : Env w) : ArrGives w (.slice (some A) L C) (over 100 (arrInts ns)) := by
  intro W hb
  refine (karr_some A ns L C W hL h0 hm hLC hn (hc.below hb) (hE.below hb)).mono ?_
  rintro e w' ⟨v, s, rfl, hp, hq⟩
  rw [arr_some (by rintro rfl; simp at hL; omega)] at hp
  exact ⟨v, s, rfl, hp, hq⟩
theorem gives_none (A : Option Addr) (C : Nat) (w : World) (hE : Env w) : ArrGives w (.slice A 0 C) (over 100 (arrInts [])) := by
  intro W hb
  refine (karr_none A C W (hE.below hb)).mono ?_
  rintro e w' ⟨rfl, hq⟩
  exact ⟨numVal' (hundredths 0), 1, rfl, .inl ⟨_, rfl, arr_none.symm, rfl, rfl⟩, hq⟩

theorem flat2 (qa qb : List Rat) : [qa, qb].flatten = qa ++ qb := by simp
theorem flat1 (qa : List Rat) : [qa].flatten = qa := by simp
theorem two_in {qa qb : List Rat} {P : Rat → Prop} (h1 : ∀ q ∈ qa, P q) (h2 : ∀ q ∈ qb, P q) : ∀ qs ∈ [qa, qb], ∀ q ∈ qs, P q := by
  intro qs h q hq
  simp only [List.mem_cons, List.not_mem_nil, or_false] at h
  rcases h with rfl | rfl
  · exact h1 q hq
  · exact h2 q hq
theorem one_in {qa : List Rat} {P : Rat → Prop} (h1 : ∀ q ∈ qa, P q) : ∀ qs ∈ [qa], ∀ q ∈ qs, P q := by
  intro qs h q hq
  simp only [List.mem_cons, List.not_mem_nil, or_false] at h
  subst h
  exact h1 q hq

theorem sum_two {qa qb : List Rat} (ga : Good qa) (gb : Good qb) (g : Good (qa ++ qb)) : Math2A { data := #[83, 85, 77] } qa qb (sumL (qa ++ qb)) := by
  intro W G C va vb ra rb hv hpa hpb hE
  have h := m_SUM2 [va, vb] [qa, qb] G 0 C W (show 0 < 2 by decide) (show 2 ≤ 255 by decide) (args2_two hpa.aarg hpb.aarg) (two_in ga.each gb.each) (by rw [flat2]; exact g.pos) (by rw [flat2]; have := g.len; omega) (fun k _ => by rw [flat2]; exact g.sum k) hv hE
  rw [flat2] at h
  exact h
theorem sum_one {qa : List Rat} (ga : Good qa) : Math1A { data := #[83, 85, 77] } qa (sumL qa) := by
  intro W G C va ra hv hpa hE
  have h := m_SUM2 [va] [qa] G 0 C W (show 0 < 1 by decide) (show 1 ≤ 255 by decide) (args2_one hpa.aarg) (one_in ga.each) (by rw [flat1]; exact ga.pos) (by rw [flat1]; have := ga.len; omega) (fun k _ => by rw [flat1]; exact ga.sum k) hv hE
  rw [flat1] at h
  exact h
theorem sumsq_two {qa qb : List Rat} (ga : Good qa) (gb : Good qb) (g : Good (qa ++ qb)) : Math2A { data := #[83, 85, 77, 83, 81] } qa qb (sumL ((qa ++ qb).map fun q => q * q)) := by
  intro W G C va vb ra rb hv hpa hpb hE
  have h := m_SUMSQ [va, vb] [qa, qb] G 0 C W (show 0 < 2 by decide) (show 2 ≤ 255 by decide) (args2_two hpa.aarg hpb.aarg) (two_in ga.each gb.each) (two_in ga.sqs gb.sqs) (by rw [flat2]; exact g.pos) (by rw [flat2]; have := g.len; omega) (fun k _ => by rw [flat2]; exact g.sumsq k) hv hE
  rw [flat2] at h
  exact h
theorem sumsq_one {qa : List Rat} (ga : Good qa) : Math1A { data := #[83, 85, 77, 83, 81] } qa (sumL (qa.map fun q => q * q)) := by
  intro W G C va ra hv hpa hE
  have h := m_SUMSQ [va] [qa] G 0 C W (show 0 < 1 by decide) (show 1 ≤ 255 by decide) (args2_one hpa.aarg) (one_in ga.each) (one_in ga.sqs) (by rw [flat1]; exact ga.pos) (by rw [flat1]; have := ga.len; omega) (fun k _ => by rw [flat1]; exact ga.sumsq k) hv hE
  rw [flat1] at h
  exact h
theorem product_self {qa : List Rat} (ga : Good qa) : Math2A { data := #[83, 85, 77, 80, 82, 79, 68, 85, 67, 84] } qa qa (sumL (qa.map fun q => q * q)) := by
  intro W G C va vb ra rb hv hpa hpb hE
  have hp := hpa.pos
  have hrr : rb = ra := by have h1 := hpa.pos.2.2.1; have h2 := hpb.pos.2.2.1; omega
  subst hrr
  have h := m_SUMPRODUCT [va, vb] [qa, qa] 1 rb qa.length G 0 C W (show 0 < 2 by decide) (show 2 ≤ 255 by decide) rfl hp.2.2.1 hp.2.1 ⟨by decide, by decide⟩ ⟨hp.2.2.2.2.1, hp.2.2.2.2.2.2⟩ (by intro qs h; simp only [List.mem_cons, List.not_mem_nil, or_false, or_self] at h; rw [h])
    (by
      intro j hj hj'
      match j, hj with
      | 0, _ => exact hpa
      | 1, _ => exact hpb)
    (two_in ga.each ga.each) (fun i hi k hk => prefix_self ga i hi k hk) (fun k _ => by rw [prods_self]; exact ga.sumsq k) hv hE
  rw [prods_self] at h
  exact h
theorem diff_self {qa : List Rat} (ga : Good qa) : Math2A { data := #[83, 85, 77, 88, 77, 89, 50] } qa qa ((0 : Int) : Rat) := by
  intro W G C va vb ra rb hv hpa hpb hE
  have hp := hpa.pos
  have h := m_SUMXMY2 va vb 1 ra 1 rb qa qa qa.length G 0 C W hp.2.1 rfl rfl hpa hpb ga.each ga.each (fun i h1 h2 => ⟨by rw [show qa[i] - qa[i] = 0 by grind]; decide +kernel, by rw [sqdiff_self]; decide +kernel⟩) (fun k _ => by rw [diffs_pre]; decide +kernel) hv hE
  rw [diffs_sum] at h
  exact h

theorem good_sum {qs : List Rat} (g : Good qs) : fits (sumL qs) = true := by
  have := g.sum qs.length
  rwa [List.take_length] at this
theorem good_sumsq {qs : List Rat} (g : Good qs) : fits (sumL (qs.map fun q => q * q)) = true := by
  have := g.sumsq (qs.map fun q => q * q).length
  rwa [List.take_length] at this
theorem good_pair : Good [((1 : Int) : Rat), ((2 : Int) : Rat)] := by
  have h := good_over (xs := [100, 200]) (by decide) (by decide) (by decide)
  have e : over 100 [100, 200] = [((1 : Int) : Rat), ((2 : Int) : Rat)] := by decide +kernel
  rwa [e] at h

theorem sums_law (l m : Value) (ns ms : List Int) (w : World) (hE : Env w) (hl : ArrGives w l (over 100 (arrInts ns))) (hm : ArrGives w m (over 100 (arrInts ms))) :
    Calls Tryz.prog 7 #[l, m] w fun e w' => e = .returned (.bool true) ∧ Below w.heap.size w w' := by
  have ga := good_arr ns
  have gb := good_arr ms
  have g := good_two ns ms
  obtain ⟨qa, hqa⟩ : ∃ q, over 100 (arrInts ns) = q := ⟨_, rfl⟩
  obtain ⟨qb, hqb⟩ : ∃ q, over 100 (arrInts ms) = q := ⟨_, rfl⟩
  rw [hqa] at ga g hl
  rw [hqb] at gb g hm
  have hs : sumL qa + sumL qb = sumL (qa ++ qb) := (sumL_append qa qb).symm
  have ht : sumL (qa.map fun q => q * q) + sumL (qb.map fun q => q * q) = sumL ((qa ++ qb).map fun q => q * q) := by rw [List.map_append, sumL_append]
  have gp := good_pair
  have h3 : numVal (sumL [((1 : Int) : Rat), ((2 : Int) : Rat)]) = .agg #[.int .i64 1, .string { data := #[51] }, .string (denS (sumL [((1 : Int) : Rat), ((2 : Int) : Rat)])), .string { data := #[] }, .bool false, .int .i64 0, .int .i64 0, .int .i64 0, .slice none 0 0] := by
    rw [numVal_is]
    rw [show numS (sumL [((1 : Int) : Rat), ((2 : Int) : Rat)]) = { data := #[51] } by decide +kernel]
  refine sums_walk l m qa qb ((1 : Int) : Rat) ((2 : Int) : Rat) (sumL (qa ++ qb)) (sumL qa) (sumL qb) (sumL ((qa ++ qb).map fun q => q * q)) (sumL (qa.map fun q => q * q)) (sumL (qb.map fun q => q * q)) ((0 : Int) : Rat) (denS (sumL [((1 : Int) : Rat), ((2 : Int) : Rat)])) w hE hl hm
    (fun W g => kwhole_any 1 W (by decide) (by decide) g) (fun W g => kwhole_any 2 W (by decide) (by decide) g) (fun W g => kwhole_any 0 W (by decide) (by decide) g)
    (fun W B C hv hE' => by
      have h := m_SUM [((1 : Int) : Rat), ((2 : Int) : Rat)] B 0 C W (show 0 < 2 by decide) (show 2 ≤ 255 by decide) gp.each (fun k _ => gp.sum k) hv hE'
      rw [h3] at h
      exact h)
    (sum_two ga gb g) (sum_one ga) (sum_one gb) (sumsq_two ga gb g) (sumsq_one ga) (sumsq_one gb) (product_self ga) (diff_self ga) ?_ ?_
  · intro W hW
    have h := kplus_any (sumL qa) (sumL qb) W (good_sum ga) (good_sum gb) (by rw [hs]; exact good_sum g) hW
    rwa [hs] at h
  · intro W hW
    have h := kplus_any (sumL (qa.map fun q => q * q)) (sumL (qb.map fun q => q * q)) W (good_sumsq ga) (good_sumsq gb) (by rw [ht]; exact good_sumsq g) hW
    rwa [ht] at h
end Go.Proofs.YtcgglmoeneiokaaGreatDoor.Num

/- FmathSumsSplit: a slice of whole numbers that came in. Conditions: the tables lie as they are laid. -/
namespace Go.Proofs.YtcgglmoeneiokaaGreatDoor.Num
open Go.ChangeShapes Go.WideShapes Go.ChangeAt Go.RowKit Go.Lib

set_option maxRecDepth 100000 in
theorem ints_arg {H : Type} {enc : TypeId × Value → H} {W : World} {base base2 : Nat} {held : Bool} {v : Value} {d : DataW H} {p : List MemPlace} (hok : Value.okWide Tryz.prog W .any base2 33 v) (h : DataW.Trod enc Tryz.prog W base (fun _ => true) held 33 v d p) (hE : Env W) :
    ∃ ns, ArrGives W v (over 100 (arrInts ns)) ∧ ∀ W', Below W.heap.size W W' → DataW.Trod enc Tryz.prog W' base (fun b => decide (b < W.heap.size)) held 33 v d p := by
  obtain ⟨a, len, cap, rfl⟩ := okWide_slice Tryz.underlying33 hok
  obtain ⟨fuel, hf⟩ := h
  rcases open_ints Tryz.underlying33 Tryz.underlying3 (by kernel_rfl) hf with ⟨hcs, hx⟩ | ⟨a', len', cap', zs, hcs, hb, hl, hm, hz, hx, hcell, hwz⟩
  · have hcs' : (Value.slice a len cap) = .slice none 0 0 := by simpa [Value.cells] using hcs
    injection hcs' with h1 h2 h3
    subst h1; subst h2; subst h3
    injection hx with h1 h2
    subst h1; subst h2
    exact ⟨[], gives_none none 0 W hE, fun W' _ => shut_slice_nil Tryz.underlying33⟩
  · have hcs' : (Value.slice a len cap) = .slice (some a') len' cap' := by simpa [Value.cells] using hcs
    injection hcs' with h1 h2 h3
    subst h1; subst h2; subst h3
    injection hx with h1 h2
    subst h1; subst h2
    have hz0 : zs.length = cap := by simpa using hz
    have hzl : len ≤ zs.length := by omega
    have hz2 : zs.length = (if decide (a'.block < W.heap.size) then cap else len) := by
      by_cases hc : 0 < cap
      · have h1 : (a'.add 0).block < W.heap.size := cell_lt (hcell 0 (by omega))
        rw [block_add] at h1
        rw [if_pos (decide_eq_true h1)]; exact hz0
      · split <;> omega
    refine ⟨zs.take len, ?_, fun W' hb' => ⟨2, shut_ints 0 Tryz.underlying33 Tryz.underlying3 (by kernel_rfl) hb hl hm hz2 (fun i hi => cell_below (hcell i hi) hb') hwz⟩⟩
    rcases Nat.eq_zero_or_pos len with h0 | h0
    · subst h0
      exact gives_none (some a') cap W hE
    · refine gives_some a' (zs.take len) len cap W (by rw [List.length_take]; omega) h0 (by unfold maxLen at hm; omega) hl (fun n hn => i64_range (hwz n (List.mem_of_mem_take hn))) ?_ hE
      intro i hi
      have hi' : i < zs.length := by rw [List.length_take] at hi; omega
      have := hcell i hi'
      rw [List.getD_eq_getElem?_getD, List.getElem?_eq_getElem hi', Option.getD_some] at this
      rw [this, List.getElem_take]
end Go.Proofs.YtcgglmoeneiokaaGreatDoor.Num
