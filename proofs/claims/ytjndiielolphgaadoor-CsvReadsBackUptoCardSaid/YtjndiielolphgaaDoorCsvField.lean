/- The walk of (*csv.reader).field. Conditions: the reader lies in a block of three cells, the place is inside the text, the separator is one of the four. -/
import Derived.Test.YtjndiielolphgaaDoorCsvPlain
import Derived.Test.YtjndiielolphgaaDoorCsvSmall
import Derived.Test.YtjndiielolphgaaDoorCsvEnd
import Derived.Test.YtjndiielolphgaaDoorIndexAny
namespace Go.Proofs.YtjndiielolphgaaDoor
open Go.RowKit

def charsOf (sep : Int) : ByteArray := Utf8.encode sep ++ { data := #[34, 13, 10] }

theorem indexAny_is (s : ByteArray) (sep : Int) (w : World) (n : Int) (h : Lib.indexAny s.data.toList (charsOf sep).data.toList = n) (hs : s.size ≤ 4000000000) (hc1 : (charsOf sep).size = 4) (hc2 : Ascii (charsOf sep)) :
    Calls Tryd.prog 42 #[.string s, .string (Utf8.encode sep ++ { data := #[34, 13, 10] })] w fun e w' => e = .returned (.int .i64 n) ∧ Below w.heap.size w w' := by
  subst h
  exact indexAny_any s (charsOf sep) w (by omega) (by omega) (by omega) hc2

theorem size_extract_le (s : ByteArray) (i : Nat) : (s.extract i s.size).size ≤ s.size := by
  rw [ByteArray.size_extract]; omega

set_option maxHeartbeats 1000000 in
set_option maxRecDepth 100000 in
theorem field_plain1 (s : ByteArray) (i n : Nat) (sep : Int) (r : Nat) (w : World) (hs : s.size ≤ 4000000000) (hi : i ≤ s.size) (hn : i + n ≤ s.size)
    (hb : w.heap[r]? = some (.cells #[.string s, .int .i64 i, .int .u8 sep] 78 (0, 0)))
    (p1 : Lib.hasPrefix (s.extract i s.size).data.toList [34] = false) (hx : Lib.indexAny (s.extract i s.size).data.toList (charsOf sep).data.toList = n)
    (he : (Utf8.encode sep).size = 1) (hc1 : (charsOf sep).size = 4) (hc2 : Ascii (charsOf sep)) :
    Calls Tryd.prog 35 #[.pointer (some ⟨r, 0, none⟩)] w fun e w' => e = .returned (.tuple #[.string (s.extract i (i + n)), .bool true]) ∧
      w'.heap[r]? = some (.cells #[.string s, .int .i64 (i + n : Nat), .int .u8 sep] 78 (0, 0)) ∧ w.grownBy w' (some r) := by
  have P1 := Lib.hid p1; clear p1
  have HB := Lib.hid hb
  have h0 : w.cell? ⟨r, 0, none⟩ = some (.string s) := Lib.cell_of_heap hb 0
  have h1 : w.cell? ⟨r, 1, none⟩ = some (.int .i64 i) := Lib.cell_of_heap hb 1
  have h2 : w.cell? ⟨r, 2, none⟩ = some (.int .u8 sep) := Lib.cell_of_heap hb 2
  have hf := Lib.frozen_of_heap hb 1
  clear hb
  have HX := Lib.hid hx; clear hx
  have C1 := Lib.hid hc1; clear hc1
  have C2 := Lib.hid hc2; clear hc2
  go_enter Tryd.func35, Tryd.ntmps35
  go_wp2
  go_quiet ((go_at_call 38; exact Calls.quiet_of_same (hasPrefix_is _ _ _ false P1.out)))
  go_wp2
  refine wp_region_still_tail 15 (by kernel_rfl) (by kernel_rfl) ?_
  simp only [List.take_succ_cons, List.take_zero, List.drop_succ_cons, List.drop_zero]
  change wpStill _ _ (World.drew _) (fun a' => wpList _ _ _ _ a' (World.drew _)) _ _
  generalize hW : World.drew _ = w2
  have g0 : w2.cell? ⟨r, 0, none⟩ = some (.string s) := by rw [← hW]; exact h0
  have g1 : w2.cell? ⟨r, 1, none⟩ = some (.int .i64 i) := by rw [← hW]; exact h1
  have g2 : w2.cell? ⟨r, 2, none⟩ = some (.int .u8 sep) := by rw [← hW]; exact h2
  have gf : w2.frozen? ⟨r, 1, none⟩ = false := by rw [← hW]; exact hf
  have HW := Lib.hid hW; clear hW h0 h1 h2 hf
  repeat still_step
  refine wpStill_nil ?_
  go_wp2_with fail
  refine (indexAny_is _ _ _ _ HX.out (Nat.le_trans (size_extract_le _ _) hs) C1.out C2.out).mono ?_
  rintro e w3 ⟨rfl, hw3⟩
  have hr3 : r < w2.heap.size := by rw [← HW.out]; exact heap_lt HB.out
  have k0 : w3.cell? ⟨r, 0, none⟩ = some (.string s) := (hw3.cell (p := ⟨r, 0, none⟩) hr3).trans g0
  have k1 : w3.cell? ⟨r, 1, none⟩ = some (.int .i64 i) := (hw3.cell (p := ⟨r, 1, none⟩) hr3).trans g1
  have k2 : w3.frozen? ⟨r, 1, none⟩ = false := (hw3.frozen (p := ⟨r, 1, none⟩) hr3).trans gf
  clear hr3 g0 g1 g2 gf
  go_wp2
  have s1 : IntKind.i64.wrap ((i : Int) + (n : Int) - (n : Int)) = (i : Int) := by rw [IntWalk.i64_in _ (by omega)]; omega
  have s2 : ((i : Int) + (n : Int)).toNat = i + n := by omega
  go_quiet (fail)
  go_wp2
  go_ret2
  have hr3 : r < w2.heap.size := by rw [← HW.out]; exact heap_lt HB.out
  have hb3 : w3.heap[r]? = some (.cells #[.string s, .int .i64 i, .int .u8 sep] 78 (0, 0)) := by
    rw [hw3.block r hr3, ← HW.out]; exact HB.out
  refine ⟨rfl, ?_, ?_⟩
  · rw [World.heap_drewN]
    exact (heap_setCell_at hb3 1 _).trans (by simp)
  · refine only_drewN (only_setCell (only_of_below ?_ _) (.inl rfl) _) _
    have hb2 : Below w.heap.size w w2 := by rw [← HW.out]; exact (below_drewN (Below.refl _ _) _).drew
    exact hb2.trans (hw3.mono hb2.size)
set_option maxHeartbeats 1000000 in
set_option maxRecDepth 100000 in
theorem field_plain2 (s : ByteArray) (i n : Nat) (sep : Int) (r : Nat) (w : World) (hs : s.size ≤ 4000000000) (hi : i ≤ s.size) (hn : i + n ≤ s.size) (hn' : s.size ≤ i + n)
    (hb : w.heap[r]? = some (.cells #[.string s, .int .i64 i, .int .u8 sep] 78 (0, 0)))
    (p1 : Lib.hasPrefix (s.extract i s.size).data.toList [34] = false) (hx : Lib.indexAny (s.extract i s.size).data.toList (charsOf sep).data.toList = -1)
    (he : (Utf8.encode sep).size = 1) (hc1 : (charsOf sep).size = 4) (hc2 : Ascii (charsOf sep)) :
    Calls Tryd.prog 35 #[.pointer (some ⟨r, 0, none⟩)] w fun e w' => e = .returned (.tuple #[.string (s.extract i (i + n)), .bool true]) ∧
      w'.heap[r]? = some (.cells #[.string s, .int .i64 (i + n : Nat), .int .u8 sep] 78 (0, 0)) ∧ w.grownBy w' (some r) := by
  have P1 := Lib.hid p1; clear p1
  have HB := Lib.hid hb
  have h0 : w.cell? ⟨r, 0, none⟩ = some (.string s) := Lib.cell_of_heap hb 0
  have h1 : w.cell? ⟨r, 1, none⟩ = some (.int .i64 i) := Lib.cell_of_heap hb 1
  have h2 : w.cell? ⟨r, 2, none⟩ = some (.int .u8 sep) := Lib.cell_of_heap hb 2
  have hf := Lib.frozen_of_heap hb 1
  clear hb
  have HX := Lib.hid hx; clear hx
  have C1 := Lib.hid hc1; clear hc1
  have C2 := Lib.hid hc2; clear hc2
  go_enter Tryd.func35, Tryd.ntmps35
  go_wp2
  go_quiet ((go_at_call 38; exact Calls.quiet_of_same (hasPrefix_is _ _ _ false P1.out)))
  go_wp2
  refine wp_region_still_tail 15 (by kernel_rfl) (by kernel_rfl) ?_
  simp only [List.take_succ_cons, List.take_zero, List.drop_succ_cons, List.drop_zero]
  change wpStill _ _ (World.drew _) (fun a' => wpList _ _ _ _ a' (World.drew _)) _ _
  generalize hW : World.drew _ = w2
  have g0 : w2.cell? ⟨r, 0, none⟩ = some (.string s) := by rw [← hW]; exact h0
  have g1 : w2.cell? ⟨r, 1, none⟩ = some (.int .i64 i) := by rw [← hW]; exact h1
  have g2 : w2.cell? ⟨r, 2, none⟩ = some (.int .u8 sep) := by rw [← hW]; exact h2
  have gf : w2.frozen? ⟨r, 1, none⟩ = false := by rw [← hW]; exact hf
  have HW := Lib.hid hW; clear hW h0 h1 h2 hf
  repeat still_step
  refine wpStill_nil ?_
  go_wp2_with fail
  refine (indexAny_is _ _ _ _ HX.out (Nat.le_trans (size_extract_le _ _) hs) C1.out C2.out).mono ?_
  rintro e w3 ⟨rfl, hw3⟩
  have hr3 : r < w2.heap.size := by rw [← HW.out]; exact heap_lt HB.out
  have k0 : w3.cell? ⟨r, 0, none⟩ = some (.string s) := (hw3.cell (p := ⟨r, 0, none⟩) hr3).trans g0
  have k1 : w3.cell? ⟨r, 1, none⟩ = some (.int .i64 i) := (hw3.cell (p := ⟨r, 1, none⟩) hr3).trans g1
  have k2 : w3.frozen? ⟨r, 1, none⟩ = false := (hw3.frozen (p := ⟨r, 1, none⟩) hr3).trans gf
  clear hr3 g0 g1 g2 gf
  go_wp2
  have e2 : (s.size : Int) - (i : Int) = (n : Int) := by omega
  have e3 : IntKind.i64.wrap ((s.size : Int) - (i : Int)) = (n : Int) := by rw [IntWalk.i64_in _ (by omega)]; omega
  go_quiet (fail)
  go_wp2
  have s1 : IntKind.i64.wrap ((i : Int) + (n : Int) - (n : Int)) = (i : Int) := by rw [IntWalk.i64_in _ (by omega)]; omega
  have s2 : ((i : Int) + (n : Int)).toNat = i + n := by omega
  go_quiet (fail)
  go_wp2
  go_ret2
  have hr3 : r < w2.heap.size := by rw [← HW.out]; exact heap_lt HB.out
  have hb3 : w3.heap[r]? = some (.cells #[.string s, .int .i64 i, .int .u8 sep] 78 (0, 0)) := by
    rw [hw3.block r hr3, ← HW.out]; exact HB.out
  refine ⟨rfl, ?_, ?_⟩
  · rw [World.heap_drewN]
    exact (heap_setCell_at (w := w3.drewN _) hb3 1 _).trans (by simp)
  · refine only_drewN (only_setCell (only_drewN (only_of_below ?_ _) _) (.inl rfl) _) _
    have hb2 : Below w.heap.size w w2 := by rw [← HW.out]; exact (below_drewN (Below.refl _ _) _).drew
    exact hb2.trans (hw3.mono hb2.size)
end Go.Proofs.YtjndiielolphgaaDoor
