/- The law's own first look ('fields'): records are read at one fixed text: it returns true. No conditions. -/
import Derived.Test.YtjndiielolphgaaDoorCsvParse
import Derived.Test.YtjndiielolphgaaDoorCsvEqual
namespace Go.Proofs.YtjndiielolphgaaDoor
open Go.RowKit

theorem parse_fixed : Csv.parse 44 [97, 44, 34, 98, 10, 34, 34, 34, 13, 10] 11 0 [] = .ok [[[97], [98, 10, 34]]] := by rfl

theorem fields_parse (w : World) :
    Calls Tryd.prog 20 #[.string { data := #[97, 44, 34, 98, 10, 34, 34, 34, 13, 10] }, .int .u8 44] w fun e w' => Below w.heap.size w w' ∧
      ∃ v, e = .returned (.tuple #[v, .int .i64 0, .int .i64 0]) ∧ OwnRows 35 9 w.heap.size v [[[97], [98, 10, 34]]] w' ∧ 1 ≤ 4000000000 := by
  obtain ⟨c, hc, hc2⟩ := sep_facts 44 rfl
  have h44 : c = 44 := UInt8.toNat_inj.1 (by have := hc.num; show c.toNat = 44; omega)
  subst h44
  exact parse_any { data := #[97, 44, 34, 98, 10, 34, 34, 34, 13, 10] } 44 44 w (by show 10 ≤ 4000000000; omega) hc hc2 rfl _ parse_fixed

set_option maxHeartbeats 1000000 in
set_option maxRecDepth 100000 in
theorem fields_true (w : World) : Calls Tryd.prog 6 #[] w fun e w' => e = .returned (.bool true) ∧ Below w.heap.size w w' := by
  go_enter Tryd.func6, Tryd.ntmps6
  go_wp2_with fail
  refine (fields_parse _).mono ?_
  rintro e w1 ⟨hb, v, rfl, hown, _⟩
  obtain ⟨vs, h1, h2⟩ := hown
  have hlen := h2.length
  obtain ⟨v0, rfl⟩ : ∃ v0, vs = [v0] := by
    match vs, hlen with
    | [v0], _ => exact ⟨v0, rfl⟩
  have r0 := h2.1
  rcases owns_at h1 with ⟨z, _⟩ | ⟨g, cap, rfl, _, k⟩
  · exact absurd z (by decide)
  · have c0 := k 0 (by simp)
    simp only [List.getElem_cons_zero, Nat.zero_add] at c0
    have HB := Lib.hid hb; clear hb
    have HR0 := Lib.hid r0; clear r0
    clear h1 h2 hlen k
    go_wp2_with fail
    refine (equalStrs_any (S := 9) (B1 := w.heap.size) (B2 := 0) (s1 := [[97], [98, 10, 34]]) (s2 := [[97], [98, 10, 34]]) (by exact World.ownsRow.alloc HR0.out _) (by
      refine ⟨rfl, .inr ⟨w1.heap.size, 2, _, rfl, Nat.zero_le _, alloc_at _ _ _ rfl, ?_, ?_, rfl, rfl⟩⟩
      · exact Nat.le_refl _
      · unfold maxLen; simp)).mono ?_
    rintro e w' ⟨rfl, q, rfl⟩
    go_wp2
    go_ret
    exact ⟨rfl, below_drewN (HB.out.alloc HB.out.size _) _⟩
end Go.Proofs.YtjndiielolphgaaDoor
