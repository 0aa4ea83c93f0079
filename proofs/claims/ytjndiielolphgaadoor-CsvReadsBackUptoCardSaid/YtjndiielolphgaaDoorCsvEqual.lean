/- slices.Equal over texts, and slices.EqualFunc over rows of texts with the law's closure: two equal tables compare as equal. Conditions: both tables are the call's own. -/
import Derived.Test.YtjndiielolphgaaDoorCsvRows
import Derived.Test.YtjndiielolphgaaDoorShelf
import Derived.Test.YtjndiielolphgaaDoorRows
namespace Go.Proofs.YtjndiielolphgaaDoor
open Go.RowKit

def baOf (ss : List Csv.Bytes) : List ByteArray := ss.map fun b => ⟨b.toArray⟩

theorem baOf_inj : ∀ a b : List Csv.Bytes, baOf a = baOf b ↔ a = b
  | [], [] => by simp [baOf]
  | [], _ :: _ => by simp [baOf]
  | _ :: _, [] => by simp [baOf]
  | x :: a, y :: b => by
    have ih := baOf_inj a b
    simp only [baOf, List.map_cons, List.cons.injEq, ByteArray.mk.injEq] at ih ⊢
    rw [ih]
    constructor
    · rintro ⟨h1, h2⟩; exact ⟨by simpa using h1, h2⟩
    · rintro ⟨h1, h2⟩; exact ⟨by rw [h1], h2⟩

theorem owns_at {w : World} {B n : Nat} {e : TypeId} {v : Value} {xs : List Value} (h : w.ownsRow B e 1 v n xs) :
    (n = 0 ∧ xs = [] ∧ ∃ a cap, v = .slice a 0 cap) ∨ ∃ g cap, v = .slice (some ⟨g, 0, none⟩) n cap ∧ n ≤ maxLen ∧ ∀ j (hj : j < xs.length), w.cell? ⟨g, 0 + j, none⟩ = some xs[j] := by
  rcases h.2 with ⟨rfl, rfl⟩ | ⟨g, cap, cur, rfl, hb, hg, hc, hm, rest⟩
  · exact .inl ⟨rfl, by have := h.1; exact List.eq_nil_of_length_eq_zero (by simpa using this), _, _, rfl⟩
  · refine .inr ⟨g, cap, rfl, Nat.le_trans hc hm, fun j hj => ?_⟩
    have := World.ownsRow.cells (g := g) h rfl j xs[j] (List.getElem?_eq_getElem hj)
    have hadd : (⟨g, 0, none⟩ : Addr).add j = ⟨g, j, none⟩ := by unfold Addr.add; split <;> simp_all
    rw [hadd] at this
    rw [Nat.zero_add]
    exact this

theorem strs_at {w : World} {B : Nat} {S : TypeId} {v : Value} {ss : List Csv.Bytes} (h : OwnStrs S B v ss w) :
    (ss = [] ∧ ∃ a cap, v = .slice a 0 cap) ∨ ∃ g cap, v = .slice (some ⟨g, 0, none⟩) ss.length cap ∧ ss.length ≤ maxLen ∧ ∀ j, j < (baOf ss).length → w.cell? ⟨g, 0 + j, none⟩ = some (.string ((baOf ss).getD j ByteArray.empty)) := by
  rcases owns_at h with ⟨h1, _, h3⟩ | ⟨g, cap, h1, h2, h3⟩
  · exact .inl ⟨List.eq_nil_of_length_eq_zero h1, h3⟩
  · refine .inr ⟨g, cap, h1, h2, fun j hj => ?_⟩
    have hj' : j < ss.length := by simpa [baOf] using hj
    rw [h3 j (by simpa [strCells] using hj')]
    simp [strCells, strV, baOf, List.getD, hj']

theorem equalStrs_any {w : World} {B1 B2 : Nat} {S : TypeId} {v1 v2 : Value} {s1 s2 : List Csv.Bytes} (h1 : OwnStrs S B1 v1 s1 w) (h2 : OwnStrs S B2 v2 s2 w) :
    Calls Tryd.prog 23 #[v1, v2] w fun e w' => e = .returned (.bool (decide (s1 = s2))) ∧ ∃ q, w' = w.drewN q := by
  rcases strs_at h1 with ⟨rfl, a1, c1, rfl⟩ | ⟨g1, c1, rfl, m1, k1⟩
  · rcases strs_at h2 with ⟨rfl, a2, c2, rfl⟩ | ⟨g2, c2, rfl, m2, k2⟩
    · exact (Tryd.slices_Equal_string_empty a1 a2 c1 0 c2 w (by omega)).mono fun e w' ⟨h, h'⟩ => ⟨by rw [h]; rfl, 0, h'⟩
    · refine (Tryd.slices_Equal_string_empty a1 _ c1 s2.length c2 w (by unfold maxLen at m2; omega)).mono fun e w' ⟨h, h'⟩ => ⟨?_, 0, h'⟩
      rw [h]
      cases s2 <;> simp
  · rcases strs_at h2 with ⟨rfl, a2, c2, rfl⟩ | ⟨g2, c2, rfl, m2, k2⟩
    · by_cases he : s1 = []
      · subst he
        exact (Tryd.slices_Equal_string_empty _ a2 c1 0 c2 w (by omega)).mono fun e w' ⟨h, h'⟩ => ⟨by rw [h]; rfl, 0, h'⟩
      · refine (Tryd.slices_Equal_string_lens _ a2 s1.length c1 0 c2 w (by intro h; exact he (List.eq_nil_of_length_eq_zero h))).mono fun e w' ⟨h, h'⟩ => ⟨?_, 0, h'⟩
        rw [h]; simp [he]
    · refine (Tryd.slices_Equal_string g1 0 s1.length c1 g2 0 s2.length c2 (baOf s1) (baOf s2) w (by simp [baOf]) (by simp [baOf]) (by unfold maxLen at m1; omega) (by unfold maxLen at m2; omega) k1 k2).mono fun e w' ⟨h, h'⟩ => ⟨?_, h'⟩
      rw [h]
      have e1 : (baOf s1).take s1.length = baOf s1 := List.take_of_length_le (by simp [baOf])
      have e2 : (baOf s2).take s2.length = baOf s2 := List.take_of_length_le (by simp [baOf])
      rw [e1, e2]
      exact ret_bool (by rw [decide_eq_decide]; exact baOf_inj s1 s2)


set_option maxHeartbeats 1000000 in
theorem lawClosureKeep_any {w : World} {B1 B2 : Nat} {S : TypeId} {v1 v2 : Value} {s1 s2 : List Csv.Bytes} (h1 : OwnStrs S B1 v1 s1 w) (h2 : OwnStrs S B2 v2 s2 w) :
    Calls Tryd.prog 22 #[v1, v2] w fun e w' => e = .returned (.bool (decide (s1 = s2))) ∧ ∃ q, w' = w.drewN q := by
  have H1 := Lib.hid h1; clear h1
  have H2 := Lib.hid h2; clear h2
  go_enter Tryd.func22, Tryd.ntmps22
  go_wp2_with fail
  refine (equalStrs_any (by exact H1.out) (by exact H2.out)).mono ?_
  rintro e w' ⟨rfl, q, rfl⟩
  go_wp2
  go_ret
  exact ⟨rfl, _, rfl⟩

set_option maxHeartbeats 1000000 in
set_option maxRecDepth 100000 in
theorem equalRowsKeep_true {w : World} {B1 B2 : Nat} {T S : TypeId} {v1 v2 : Value} {rows : List (List Csv.Bytes)} (h1 : OwnRows T S B1 v1 rows w) (h2 : OwnRows T S B2 v2 rows w) (hl : rows.length ≤ 4000000000) :
    Calls Tryd.prog 21 #[v1, v2, .func (.func 22) #[] #[]] w fun e w' => e = .returned (.bool true) ∧ ∃ q, w' = w.drewN q := by
  obtain ⟨vs1, o1, r1⟩ := h1
  obtain ⟨vs2, o2, r2⟩ := h2
  have L1 := r1.length
  have L2 := r2.length
  have hlen : rows.length ≤ 9223372036854775807 := by omega
  rcases owns_at o1 with ⟨z1, _, a1, c1, rfl⟩ | ⟨g1, c1, rfl, m1, k1⟩
  · rcases owns_at o2 with ⟨_, _, a2, c2, rfl⟩ | ⟨g2, c2, rfl, m2, k2⟩
    all_goals
      have zb : rows.length = 0 := z1
      clear o1 o2 r1 r2 L1 L2 z1
      try rw [zb]
      clear zb
      go_enter Tryd.func21, Tryd.ntmps21
      go_wp2
      refine wp_loop_rounds 1 ?_
      rw [rounds_succ]
      go_wp2
      go_ret
      exact ⟨rfl, 0, rfl⟩
  · rcases owns_at o2 with ⟨z2, _, a2, c2, rfl⟩ | ⟨g2, c2, rfl, m2, k2⟩
    · have zb : rows.length = 0 := z2
      clear o1 o2 r1 r2 L1 L2 z2 k1 m1
      rw [zb]
      clear zb
      go_enter Tryd.func21, Tryd.ntmps21
      go_wp2
      refine wp_loop_rounds 1 ?_
      rw [rounds_succ]
      go_wp2
      go_ret
      exact ⟨rfl, 0, rfl⟩
    · have K1 := Lib.hid k1; clear k1
      have K2 := Lib.hid k2; clear k2
      have RH1 := Lib.hid r1; clear r1
      have RH2 := Lib.hid r2; clear r2
      have HL1 := Lib.hid L1; clear L1
      have HL2 := Lib.hid L2; clear L2
      clear o1 o2 m1 m2
      go_enter Tryd.func21, Tryd.ntmps21
      go_wp2
      go_loopg [17] rows.length (fun g i wx => ∃ k q : Nat, k + g = rows.length ∧ i = .int .i64 k ∧ wx = w.drewN q)
      case atStart => exact ⟨0, 0, by omega, rfl, rfl⟩
      case round =>
        obtain ⟨k, q, hk, rfl, rfl⟩ := hrel
        by_cases hlt : k < rows.length
        · have hltb : decide ((k : Int) < (rows.length : Int)) = true := decide_eq_true (by omega)
          have hltn : decide (k < rows.length) = true := decide_eq_true hlt
          have b1 : k < vs1.length := by rw [HL1.out]; exact hlt
          have b2 : k < vs2.length := by rw [HL2.out]; exact hlt
          have e1 := K1.out k b1
          have e2 := K2.out k b2
          simp only [Nat.zero_add] at e1 e2
          have S1 := Lib.hid (RH1.out.at k b1 hlt)
          have S2 := Lib.hid (RH2.out.at k b2 hlt)
          go_wp2_with fail
          refine (lawClosureKeep_any (by exact S1.out) (by exact S2.out)).mono ?_
          rintro e w' ⟨rfl, q2, rfl⟩
          simp only [decide_true]
          go_wp2
          go_roundg (gk - 1)
          case measure => omega
          case rel => exact ⟨k + 1, q + q2, by omega, by go_num, by simp⟩
        · have hltb : decide ((k : Int) < (rows.length : Int)) = false := decide_eq_false (by omega)
          have hltn : decide (k < rows.length) = false := decide_eq_false hlt
          go_wp2
          go_ret
          exact ⟨rfl, _, rfl⟩
end Go.Proofs.YtjndiielolphgaaDoor
