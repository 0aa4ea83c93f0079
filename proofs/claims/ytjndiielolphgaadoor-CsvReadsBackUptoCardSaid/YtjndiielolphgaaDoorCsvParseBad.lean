/- csv.Parse at a byte that is no separator; small laws on tables of rows. No conditions. -/
import Derived.Test.YtjndiielolphgaaDoorCsvRef
import Derived.Test.YtjndiielolphgaaDoorCsvFields
namespace Go.Proofs.YtjndiielolphgaaDoor
open Go.RowKit

set_option maxHeartbeats 400000 in
theorem parse_badsep (s : ByteArray) (sep : Int) (w : World) (hsep : isSep sep = false) :
    Calls Tryd.prog 20 #[.string s, .int .u8 sep] w fun e w' => e = .returned (.tuple #[.slice none 0 0, .int .i64 0, .int .i64 1]) ∧ w' = w := by
  have HS := Lib.hid hsep; clear hsep
  go_enter Tryd.func20, Tryd.ntmps20
  go_wp2_with (go_at_call 28; refine (csvSep_any _ _).mono ?_; rintro e w' ⟨rfl, hw⟩; rw [hw, HS.out])
  go_ret3
  exact ⟨rfl, rfl⟩

theorem cut_le (a : ByteArray) : (a.extract 0 (min (a.size : Int) 400).toNat).size ≤ 400 := by
  rw [ByteArray.size_extract]; omega

theorem OwnRows.below {T S : TypeId} {B : Nat} {v : Value} {rs : List (List Csv.Bytes)} {w w' : World} (h : OwnRows T S B v rs w) (hb : Below w.heap.size w w') : OwnRows T S B v rs w' :=
  h.keep (KeepKind.below hb) (KeepKind.below hb)

theorem ownRows_slice {T S : TypeId} {B : Nat} {v : Value} {rs : List (List Csv.Bytes)} {w : World} (h : OwnRows T S B v rs w) : ∃ a cap, v = .slice a rs.length cap := by
  obtain ⟨vs, h1, _⟩ := h
  exact owns_form h1

end Go.Proofs.YtjndiielolphgaaDoor
