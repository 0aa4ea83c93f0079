/- csv.Import where the records are not read: it returns the error of Parse and nothing else. Conditions: the text has at most 4000000000 bytes. -/
import Derived.Test.YtjndiielolphgaaDoorCsvParseBad
import Derived.Test.YtjndiielolphgaaDoorCsvImpLaws
import Derived.Test.YtjndiielolphgaaDoorCsvText
namespace Go.Proofs.YtjndiielolphgaaDoor
open Go.RowKit

def gridV (rows cols : Nat) (v : Value) : Value := .agg #[.int .i64 rows, .int .i64 cols, v, .slice none 0 0]

set_option maxHeartbeats 2000000 in
set_option maxRecDepth 100000 in
theorem import_badsep (s : ByteArray) (sep : Int) (w : World) (hsep : isSep sep = false) :
    Calls Tryd.prog 7 #[.string s, .int .u8 sep] w fun e w' => e = .returned (.tuple #[gridV 0 0 (.slice none 0 0), .slice none 0 0, .int .i64 1]) ∧ Below w.heap.size w w' := by
  have HS := Lib.hid hsep; clear hsep
  go_enter Tryd.func7, Tryd.ntmps7
  go_wp2_with fail
  refine (parse_badsep _ _ _ HS.out).mono ?_
  rintro e w1 ⟨rfl, rfl⟩
  go_wp2
  refine bodyPost_ret (v := .tuple #[gridV 0 0 (.slice none 0 0), .slice none 0 0, .int .i64 1]) (by simp [results, Tryd.results7, go_sem, gridV]) rfl ⟨rfl, ?_⟩
  exact (Below.refl _ _).alloc (Nat.le_refl _) _

set_option maxHeartbeats 2000000 in
set_option maxRecDepth 100000 in
theorem import_bad (s : ByteArray) (sep : Int) (c : UInt8) (w : World) (hs : s.size ≤ 4000000000) (hc : SepFacts sep c) (hc2 : c.toNat < 128) (hsep : isSep sep = true) (p : Nat)
    (hR : Csv.parse c s.data.toList (s.size + 1) 0 [] = .bad p) :
    Calls Tryd.prog 7 #[.string s, .int .u8 sep] w fun e w' => e = .returned (.tuple #[gridV 0 0 (.slice none 0 0), .slice none 0 0, .int .i64 10]) ∧ Below w.heap.size w w' := by
  have HS := Lib.hid hsep; clear hsep
  have HC := Lib.hid hc; clear hc
  have HR := Lib.hid hR; clear hR
  obtain ⟨K, hK⟩ : ∃ K, w.heap.size = K := ⟨_, rfl⟩
  have HK := Lib.hid hK
  go_enter Tryd.func7, Tryd.ntmps7
  go_wp2_with fail
  refine (parse_any s sep c _ hs HC.out hc2 HS.out _ HR.out).mono ?_
  rintro e w1 ⟨hb, rfl⟩
  simp only [World.size_alloc, hK] at hb
  have hbk : w1.heap[K]? = some (.cells #[.int .i64 0, .int .i64 0, .slice none 0 0, .slice none 0 0] 26 (0, 0)) := by
    rw [hb.block K (by omega)]; exact alloc_at _ _ _ hK
  have h0 := fun j => hb.cell (p := ⟨K, j, none⟩) (by show K < K + 1; omega)
  have hf := fun j => hb.frozen (p := ⟨K, j, none⟩) (by show K < K + 1; omega)
  go_wp2
  have hb0 : Below K w w1 := ((Below.refl K w).alloc (Nat.le_of_eq HK.out.symm) _).trans (hb.mono (by omega))
  have hb4 := (((hb0.setCell (p := ⟨K, 0, none⟩) (Nat.le_refl _) (.int .i64 0)).setCell (p := ⟨K, 1, none⟩) (Nat.le_refl _) (.int .i64 0)).setCell (p := ⟨K, 2, none⟩) (Nat.le_refl _) (.slice none 0 0)).setCell (p := ⟨K, 3, none⟩) (Nat.le_refl _) (.slice none 0 0)
  have hk4 := heap_setCell_at (heap_setCell_at (heap_setCell_at (heap_setCell_at hbk 0 (.int .i64 0)) 1 (.int .i64 0)) 2 (.slice none 0 0)) 3 (.slice none 0 0)
  generalize (((w1.setCell ⟨K, 0, none⟩ (.int .i64 0)).setCell ⟨K, 1, none⟩ (.int .i64 0)).setCell ⟨K, 2, none⟩ (.slice none 0 0)).setCell ⟨K, 3, none⟩ (.slice none 0 0) = W4 at hb4 hk4 ⊢
  have s0 := Lib.cell_of_heap hk4 0
  have s1 := Lib.cell_of_heap hk4 1
  have s2 := Lib.cell_of_heap hk4 2
  have s3 := Lib.cell_of_heap hk4 3
  simp at s0 s1 s2 s3
  refine bodyPost_ret (v := .tuple #[gridV 0 0 (.slice none 0 0), .slice none 0 0, .int .i64 10]) (by simp [results, Tryd.results7, go_sem, gridV, s0, s1, s2, s3]) rfl ⟨rfl, ?_⟩
  rw [hK]
  exact hb4
end Go.Proofs.YtjndiielolphgaaDoor
