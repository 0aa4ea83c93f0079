/- Numbers as texts of digits, fractions, values and the functions of fmath: contracts of the program's functions, joined from smaller texts. Conditions stand at each theorem. -/
import Derived.Test.YtcbolipiaflfbaaGreatDoorFycB
import Derived.Test.YtcbolipiaflfbaaGreatDoorFyxA
import Derived.Test.YtcbolipiaflfbaaGreatDoorFysA
import Derived.Test.YtcbolipiaflfbaaGreatDoorLayA
import Derived.Test.YtcbolipiaflfbaaGreatDoorFyaA
import Derived.ChangeSame

/- The law FmoneyReturns at any ints and any int. Conditions: the tables lie as they are laid. -/
namespace Go.Proofs.YtcbolipiaflfbaaGreatDoor.Num.Fy
open Go.RowKit Go.Lib Num

theorem vals_tail {W : World} {g : Nat} {x : Rat} {qs : List Rat} (h : ValsAt W g 0 (numVals (x :: qs))) : ValsAt W g 9 (numVals qs) := by
  intro j u hj
  have h1 : (flat (numVals (x :: qs)))[9 + j]? = some u := by
    have e : flat (numVals (x :: qs)) = (numVal' x).cells ++ flat (numVals qs) := by simp [numVals, flat]
    rw [e, List.getElem?_append_right (by show 9 ≤ 9 + j; omega)]
    have e2 : 9 + j - (numVal' x).cells.length = j := by show 9 + j - 9 = j; omega
    rw [e2]; exact hj
  have h2 := h (9 + j) u h1
  rw [addr_add] at h2 ⊢
  rw [Nat.zero_add] at h2
  exact h2
section
variable {v : Int} {l : List Int}
theorem irr_row {r : Value} (h : IrrRow v l r) : Row1 13 { data := #[73, 82, 82] } (v :: l) (v :: l).length r := by
  intro W G g cap hb hv hE
  have T := h W G g cap
  rw [rats_len] at T
  exact T (vals_of_block hb rfl) hv hE
theorem sum_row {r : Value} (h : SumRow v l r) : Row1 11 { data := #[83, 85, 77] } (v :: l) (v :: l).length r := by
  intro W G g cap hb hv hE
  have T := h W G g cap
  rw [rats_len] at T
  exact T (vals_of_block hb rfl) hv hE
theorem sq_row {r : Value} (h : SqRow v l r) : Row2 11 { data := #[83, 85, 77, 83, 81] } (v :: l) (v :: l).length ((v : Int) : Rat) r := by
  intro W G g cap hb hv hE
  have T := h W G g cap
  rw [rats_len] at T
  exact T (vals_of_block hb rfl) hv hE
variable (F : Flow v l)
include F
theorem Flow.clo (hl : 0 < l.length) {n : Int} (h0 : -999999 ≤ n) (h1 : n ≤ 1000000000) : Clo (v :: l) (v :: l).length (micro n) (cmpR (presentR (gR n) (rats (v :: l))) 0) := by
  intro W B g cap hb hv hc hE
  obtain ⟨C, rfl⟩ : ∃ C, cap = C + 1 := ⟨cap - 1, by rw [List.length_cons] at hc; omega⟩
  have fm : fits (micro n) = true := (micro_sd h0 h1).fits (by decide) (by decide)
  have fy : fits (presentR (gR n) (rats l) / gR n) = true := (F.npv h0 h1).fits (by decide) (by decide)
  have fx : fits ((v : Int) : Rat) = true := F.fit _ (List.mem_cons_self ..)
  have fz : fits (presentR (gR n) (rats (v :: l))) = true := F.sum h0 h1
  have hv' : ValsAt W g 0 (numVals (((v : Int) : Rat) :: rats l)) := hv
  rw [show (((v :: l).length : Nat) : Int) = ((l.length : Nat) : Int) + 1 by rw [List.length_cons]; omega] at hb
  exact step_walk (micro n) ((v : Int) : Rat) (presentR (gR n) (rats l) / gR n) (presentR (gR n) (rats (v :: l))) ((0 : Int) : Rat) (rats l) g l.length C B (cmpR (presentR (gR n) (rats (v :: l))) 0) W
    (fun W g => number_any (micro n) W fm g.e) (fun W g => kplus_any _ _ W fy fx (by exact fz) g.e) (fun W g => kwhole_any 0 W (by decide) (by decide) g.e) (fun W g => compare_num _ _ W fz f0 g.e)
    (by have := F.len; omega) hl (by rw [List.length_cons] at hc; omega) hb hv' (rats_len l)
    (fun W' G hbw hG hE' => m_NPV F hl h0 h1 W' G g 9 C (vals_of_block hG rfl) ((vals_tail hv').below hbw) hE') hE
end
theorem cmp_sign (q : Rat) : (0 ≤ q → 0 ≤ cmpR q 0) ∧ (q < 0 → cmpR q 0 < 0) := by
  unfold cmpR
  constructor
  · intro h
    by_cases e : q = 0
    · rw [if_pos e]; decide
    · rw [if_neg e, if_neg (Rat.not_lt.2 h)]; decide
  · intro h
    rw [if_neg (fun e => by rw [e] at h; exact absurd h (by decide)), if_pos h]; decide
theorem returns_any (A : Option Addr) (L C : Nat) (zs : List Int) (first : Int) (w : World) (hi : IntsIn w A L C zs) (hf0 : -9223372036854775808 ≤ first) (hf1 : first ≤ 9223372036854775807) (hE : EnvY w) :
    Calls Tryz.prog 4 #[.slice A L C, .int .i64 first] w fun e w' => e = .returned (.bool true) ∧ Below w.heap.size w w' := by
  obtain ⟨m, hm⟩ : ∃ m, first % 1000 = m := ⟨_, rfl⟩
  obtain ⟨v, hv⟩ : ∃ v, -1 - m = v := ⟨_, rfl⟩
  have F : Flow v (flowL zs) := flow_ok zs (by omega) (by omega)
  have rT := sum_row F.m_sum
  by_cases hs : ∃ x ∈ flowL zs, 1 ≤ x
  · obtain ⟨n0, a, b, c, d⟩ := F.step hs
    obtain ⟨sq, fq, hq⟩ := F.m_sq
    have hl : 0 < (flowL zs).length := by
      obtain ⟨x, hx, _⟩ := hs
      exact List.length_pos_of_mem hx
    have hz : 0 < zs.length := by rw [flowL_len, List.length_take] at hl; omega
    have f1 : fits (micro n0) = true := (micro_sd a (by omega)).fits (by decide) (by decide)
    have f2 : fits (micro 1) = true := (micro_sd (by decide) (by decide)).fits (by decide) (by decide)
    have f3 : fits (micro (n0 + 1)) = true := (micro_sd (by omega) (by omega)).fits (by decide) (by decide)
    have e3 : micro n0 + micro 1 = micro (n0 + 1) := by
      unfold micro
      rw [Rat.intCast_add]
      have : ((1000000 : Int) : Rat) ≠ 0 := int_ne (by decide)
      grind
    have tR : Fun2 18 (.int .i64 1) (.int .i64 1000000) (.tuple #[fracV (micro 1), .int .i64 0]) := fun W g => by
      have T := ratio_any 1 1000000 W (by decide) (by decide) (by decide) g.e.tab
      rw [show ((1 : Int) : Rat) / ((1000000 : Int) : Rat) = micro 1 from rfl, wroteV_ok f2] at T
      exact T
    have tA : Fun2 19 (fracV (micro n0)) (fracV (micro 1)) (.tuple #[fracV (micro (n0 + 1)), .int .i64 0]) := fun W g => by
      have T := add_any (micro n0) (micro 1) W f1 f2 g.e.tab
      rw [e3, wroteV_ok f3] at T
      exact T
    exact ret_step A L C zs first m v _ _ _ _ _ _ _ _ w hi hf0 hf1 hm hv rfl hz ((cmp_sign _).1 c) ((cmp_sign _).2 d) hE
      (irr_row (m_IRR F hs n0 a b c d)) rT (sq_row hq) tR tA (F.clo hl a (by omega)) (F.clo hl (by omega) (by omega))
  · have h0 : ∀ x ∈ flowL zs, x = 0 := by
      intro x hx
      have h1 := (F.l0 x hx).1
      by_cases e : 1 ≤ x
      · exact absurd ⟨x, hx, e⟩ hs
      · omega
    have rI := irr_row (m_IRR_stop F h0)
    by_cases hz : 0 < zs.length
    · obtain ⟨sq, fq, hq⟩ := F.m_sq
      have ft : fits (((v + (flowL zs).sum : Int)) : Rat) = true := by
        have h := F.sums (v :: flowL zs) (fun _ h => h) (by rw [List.length_cons]; have := F.len; omega) (v :: flowL zs).length
        rwa [rats_take, List.take_length, sumL_rats, List.sum_cons] at h
      exact ret_none A L C zs first m v _ _ _ _ _ w hi hf0 hf1 hm hv rfl hz (show cmpR (((v + (flowL zs).sum : Int)) : Rat) (0 : Rat) < 0 from by rw [F.neg h0]; decide) hE rI rT (sq_row hq)
        (fun W g => kwhole_any 0 W (by decide) (by decide) g.e) (fun W g => compare_num _ _ W ft f0 g.e)
    · exact ret_empty A L C zs first m v _ _ w hi hf0 hf1 hm hv rfl (by omega) hE rI rT
end Go.Proofs.YtcbolipiaflfbaaGreatDoor.Num.Fy

/- From what a row lists to what the walks of fmoney ask of the world. No conditions. -/
namespace Go.Proofs.YtcbolipiaflfbaaGreatDoor.Num.Fy
open Go.ChangeShapes Go.RowKit Go.Lib Num

theorem one_data : (Rows.laid_chancery_fmoney_one : DataW Unit) = .agg [.lit (.string [49]), .lit (.string [49])] := by kernel_rfl
set_option maxRecDepth 100000 in
theorem one_of_reads {W : World} (h : Lib.VarReads Tryz.prog W "chancery/fmoney.one" Rows.laid_chancery_fmoney_one) (i : Nat) (hi : i < 2) : W.cell? ⟨0, i, none⟩ = some (.string { data := #[49] }) := by
  rw [one_data] at h
  obtain ⟨g, t, cs, fuel, p, hg, ht, hv, hd⟩ := h
  have hgl : Tryz.prog.globalNamed "chancery/fmoney.one" = some 0 := by kernel_rfl
  obtain rfl := Option.some.inj (hgl.symm.trans hg)
  obtain rfl := Option.some.inj ((show (Tryz.prog.globals[0]?).map (·.type) = some 24 by kernel_rfl).symm.trans ht)
  obtain ⟨y0, y1, m, ex, _, h0, h1⟩ := trod_struct2 Tryz.underlying24 hd
  have cS : Tryz.prog.cellsOf 9 = 1 := by kernel_rfl
  obtain ⟨s0, a0, b0, _⟩ := DataW.trod_string Tryz.underlying9 h0
  obtain ⟨s1, a1, b1, _⟩ := DataW.trod_string Tryz.underlying9 h1
  have e := DataW.agg.inj (Prod.mk.inj ex).1
  injection e with e0 e
  injection e with e1 _
  rw [b0] at e0
  rw [b1] at e1
  injection e0 with e0
  injection e0 with e0
  injection e1 with e1
  injection e1 with e1
  have v0 : s0 = ⟨([49] : List UInt8).toArray⟩ := by rw [e0]
  have v1 : s1 = ⟨([49] : List UInt8).toArray⟩ := by rw [e1]
  have hc : cs.toList[i]? = some (.string { data := #[49] }) := by
    have hi' : i = 0 ∨ i = 1 := by omega
    rcases hi' with rfl | rfl
    · have h0 : ((cs.toList.drop 0).take 1)[0]? = some (.string s0) := by
        have a0' : (cs.toList.drop 0).take 1 = [.string s0] := by rw [← a0, cS]
        rw [a0']; rfl
      rw [v0] at h0
      simpa using h0
    · have h0 : ((cs.toList.drop 1).take 1)[0]? = some (.string s1) := by
        have a1' : (cs.toList.drop 1).take 1 = [.string s1] := by rw [← a1, cS]
        rw [a1']; rfl
      rw [v1] at h0
      simpa using h0
  rw [World.var?_cell hgl hv i]
  simpa using hc
theorem envY_of_reads {W : World} (h : Lib.VarReads Tryz.prog W "internal/strconv.uint64pow10" Rows.laid_internal_strconv_uint64pow10) (k : Lib.VarReads Tryz.prog W "chancery/value.faults" Rows.laid_chancery_value_faults) (o : Lib.VarReads Tryz.prog W "chancery/fmoney.one" Rows.laid_chancery_fmoney_one) : EnvY W :=
  ⟨env_of_reads h k, one_of_reads o⟩
end Go.Proofs.YtcbolipiaflfbaaGreatDoor.Num.Fy
