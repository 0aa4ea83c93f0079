/- The walk of (*csv.reader).field where the field begins with a quotation mark. Conditions: the reader lies in a block of three cells, the place is inside the text. -/
import Derived.Test.YtjndiielolphgaaDoorCsvField
import Derived.Test.YtjndiielolphgaaDoorShelfB
namespace Go.Proofs.YtjndiielolphgaaDoor
open Go.RowKit

def FieldPost (s : ByteArray) (i : Nat) (sep : Int) (r : Nat) (w : World) (res : Option (Csv.Bytes × Nat)) (e : Ending) (w' : World) : Prop :=
  w.grownBy w' (some r) ∧
  match res with
  | none => e = .returned (.tuple #[.string { data := #[] }, .bool false])
  | some x => e = .returned (.tuple #[.string ⟨x.1.toArray⟩, .bool true]) ∧ w'.heap[r]? = some (.cells #[.string s, .int .i64 (i + x.2 : Nat), .int .u8 sep] 78 (0, 0))

structure QInv (s : ByteArray) (i : Nat) (sep : Int) (r K : Nat) (w : World) (p : Nat) (acc : Csv.Bytes) (wx : World) : Prop where
  heap : wx.heap[r]? = some (.cells #[.string s, .int .i64 p, .int .u8 sep] 78 (0, 0))
  only : w.grownBy wx (some r)
  bld : Lib.IsBuilderF 66 5 K K (Lib.byteCells acc) wx
  len : acc.length ≤ p
  size : K < wx.heap.size
  val : Csv.quoted false (s.data.toList.drop (i + 1)) = (Csv.quoted false (s.data.toList.drop p)).map fun x => (acc ++ x.1, p - (i + 1) + x.2)

theorem builder_keep {T e : TypeId} {B b : Nat} {bs : List Value} {w w' : World} (h : Lib.IsBuilderF T e B b bs w) (hk : ∀ k, B ≤ k → w'.heap[k]? = w.heap[k]?) : Lib.IsBuilderF T e B b bs w' := by
  have key : ∀ p, Lib.BuilderAtF T e B b p bs w → Lib.BuilderAtF T e B b p bs w' := by
    rintro p ⟨hB, v, hb, hown, hne⟩
    refine ⟨hB, v, (hk b hB).trans hb, ⟨hown.1, ?_⟩, hne⟩
    rcases hown.2 with hn | ⟨g, cap, cur, fz, hv, hbg, hg, rest⟩
    · exact .inl hn
    · exact .inr ⟨g, cap, cur, fz, hv, hbg, (hk g hbg).trans hg, rest⟩
  exact h.elim (fun x => .inl (key _ x)) (fun x => .inr (key _ x))

theorem QInv.drewN {s : ByteArray} {i : Nat} {sep : Int} {r K : Nat} {w wx : World} {p : Nat} {acc : Csv.Bytes} (h : QInv s i sep r K w p acc wx) (n : Nat) : QInv s i sep r K w p acc (wx.drewN n) :=
  ⟨h.heap, only_drewN h.only n, h.bld, h.len, h.size, h.val⟩

theorem QInv.wrote {s : ByteArray} {i : Nat} {sep : Int} {r K : Nat} {w wx w1 : World} {p q : Nat} {acc : Csv.Bytes} {x : UInt8} (h : QInv s i sep r K w p acc wx) (hK : w.heap.size = K) (hr : r < K)
    (hb : Lib.BuilderAtF 66 5 K K (.pointer (some ⟨K, 0, none⟩)) (Lib.byteCells acc ++ [.int .u8 x.toNat]) w1) (hbel : Below K wx w1) (hpq : p + 1 ≤ q) {wy : World} (hy : wy.heap[r]? = some (.cells #[.string s, .int .i64 q, .int .u8 sep] 78 (0, 0))) (hy1 : w1.grownBy wy (some r)) (hy2 : ∀ k, K ≤ k → wy.heap[k]? = w1.heap[k]?)
    (hv : Csv.quoted false (s.data.toList.drop (i + 1)) = (Csv.quoted false (s.data.toList.drop q)).map fun y => ((acc ++ [x]) ++ y.1, q - (i + 1) + y.2)) :
    QInv s i sep r K w q (acc ++ [x]) wy := by
  refine ⟨hy, ?_, ?_, ?_, ?_, hv⟩
  · refine ⟨hy1.os.trans (hbel.os.trans h.only.os), hy1.tape.trans (hbel.tape.trans h.only.tape), hy1.output.trans (hbel.output.trans h.only.output),
      Nat.le_trans h.only.size (Nat.le_trans hbel.size hy1.size), fun k hk hne => ?_⟩
    have hs1 := hbel.size
    have hs2 := h.only.size
    exact (hy1.block k (by omega) hne).trans ((hbel.block k (by omega)).trans (h.only.block k hk hne))
  · refine builder_keep (w := w1) ?_ hy2
    have e : Lib.byteCells (acc ++ [x]) = Lib.byteCells acc ++ [.int .u8 x.toNat] := by simp [Lib.byteCells]
    rw [e]; exact .inr hb
  · have := h.len; simp; omega
  · exact Nat.lt_of_lt_of_le h.size (Nat.le_trans hbel.size hy1.size)

theorem drop_cons (s : ByteArray) (p : Nat) (hp : p < s.size) : s.data.toList.drop p = (s[p]'hp) :: s.data.toList.drop (p + 1) := by
  rw [List.drop_eq_getElem_cons (by simpa using hp)]
  rfl

theorem quoted_byte {s : ByteArray} {i p : Nat} {acc : Csv.Bytes} (hp : p < s.size) (hi : i + 1 ≤ p) (hc : s[p]'hp ≠ 34)
    (h : Csv.quoted false (s.data.toList.drop (i + 1)) = (Csv.quoted false (s.data.toList.drop p)).map fun x => (acc ++ x.1, p - (i + 1) + x.2)) :
    Csv.quoted false (s.data.toList.drop (i + 1)) = (Csv.quoted false (s.data.toList.drop (p + 1))).map fun x => ((acc ++ [s[p]'hp]) ++ x.1, p + 1 - (i + 1) + x.2) := by
  rw [h, drop_cons s p hp]
  simp only [Csv.quoted, hc, if_false, Option.map_map]
  congr 1
  funext x
  simp only [Function.comp, List.append_assoc, List.cons_append, List.nil_append, Prod.mk.injEq, true_and]
  omega

theorem quoted_two {s : ByteArray} {i p : Nat} {acc : Csv.Bytes} (hp : p < s.size) (hp1 : p + 1 < s.size) (hi : i + 1 ≤ p) (hc : s[p]'hp = 34) (hd : s[p + 1]'hp1 = 34)
    (h : Csv.quoted false (s.data.toList.drop (i + 1)) = (Csv.quoted false (s.data.toList.drop p)).map fun x => (acc ++ x.1, p - (i + 1) + x.2)) :
    Csv.quoted false (s.data.toList.drop (i + 1)) = (Csv.quoted false (s.data.toList.drop (p + 2))).map fun x => ((acc ++ [34]) ++ x.1, p + 2 - (i + 1) + x.2) := by
  rw [h, drop_cons s p hp, drop_cons s (p + 1) hp1, hc, hd]
  simp only [Csv.quoted, List.head?_cons, if_true, Option.map_map]
  congr 1
  funext x
  simp only [Function.comp, List.append_assoc, List.cons_append, List.nil_append, Prod.mk.injEq, true_and]
  omega

theorem quoted_end {s : ByteArray} {i p : Nat} {acc : Csv.Bytes} (hp : p < s.size) (hc : s[p]'hp = 34) (hd : (s.data.toList.drop (p + 1)).head? ≠ some 34)
    (h : Csv.quoted false (s.data.toList.drop (i + 1)) = (Csv.quoted false (s.data.toList.drop p)).map fun x => (acc ++ x.1, p - (i + 1) + x.2)) :
    Csv.quoted false (s.data.toList.drop (i + 1)) = some (acc, p - (i + 1) + 1) := by
  rw [h, drop_cons s p hp, hc]
  simp only [Csv.quoted, if_true, hd, if_false, Option.map_some, List.append_nil]

theorem quoted_over {s : ByteArray} {i p : Nat} {acc : Csv.Bytes} (hp : s.size ≤ p)
    (h : Csv.quoted false (s.data.toList.drop (i + 1)) = (Csv.quoted false (s.data.toList.drop p)).map fun x => (acc ++ x.1, p - (i + 1) + x.2)) :
    Csv.quoted false (s.data.toList.drop (i + 1)) = none := by
  rw [h, List.drop_of_length_le (by simpa using hp)]
  rfl

set_option maxHeartbeats 2000000 in
set_option maxRecDepth 100000 in
theorem field_quoted (s : ByteArray) (i : Nat) (sep : Int) (r : Nat) (w : World) (hs : s.size ≤ 4000000000) (hi : i < s.size)
    (hb : w.heap[r]? = some (.cells #[.string s, .int .i64 i, .int .u8 sep] 78 (0, 0)))
    (p1 : Lib.hasPrefix (s.extract i s.size).data.toList [34] = true) :
    Calls Tryd.prog 35 #[.pointer (some ⟨r, 0, none⟩)] w (FieldPost s i sep r w ((Csv.quoted false (s.data.toList.drop (i + 1))).map fun x => (x.1, x.2 + 1))) := by
  have P1 := Lib.hid p1; clear p1
  have HB := Lib.hid hb
  have h0 : w.cell? ⟨r, 0, none⟩ = some (.string s) := Lib.cell_of_heap hb 0
  have h1 : w.cell? ⟨r, 1, none⟩ = some (.int .i64 i) := Lib.cell_of_heap hb 1
  have hf := Lib.frozen_of_heap hb 1
  have hrK := heap_lt hb
  clear hb
  obtain ⟨K, hK⟩ : ∃ K, w.heap.size = K := ⟨_, rfl⟩
  have HK := Lib.hid hK
  rw [hK] at hrK
  have hne : ¬ r = K := by omega
  have hne' : ¬ K = r := by omega
  go_enter Tryd.func35, Tryd.ntmps35
  go_wp2
  go_quiet ((go_at_call 38; exact Calls.quiet_of_same (hasPrefix_is _ _ _ true P1.out)))
  go_wp2
  go_loopg [6] s.size (fun g _ wx => ∃ (p : Nat) (acc : Csv.Bytes), i + 1 ≤ p ∧ p ≤ s.size ∧ s.size ≤ p + g ∧ QInv s i sep r K w p acc wx)
  case atStart =>
    refine ⟨i + 1, [], by omega, by omega, by omega, ⟨?_, ?_, ?_, by simp, ?_, ?_⟩⟩
    · exact (Below.heap_alloc _ _ r (by simp [World.setCell]; omega)).trans ((heap_setCell_at (w := w.drewN _) HB.out 1 _).trans (by simp))
    · exact only_alloc (only_setCell (only_drewN (only_refl _ _) _) (.inl rfl) _) _
    · refine .inl ⟨Nat.le_refl _, .slice none 0 0, ?_, ⟨by simp [Lib.byteCells], .inl ⟨rfl, by simp [Lib.byteCells]⟩⟩, by simp [Value.ownBlock]⟩
      exact alloc_at _ _ _ (by rw [size_setCell]; exact HK.out)
    · simp [World.setCell]; omega
    · simp
  case round =>
    obtain ⟨p, acc, hp1, hp2, hp3, hinv⟩ := hrel
    have HI := Lib.hid hinv
    have c0 := Lib.cell_of_heap hinv.heap 0
    have c1 := Lib.cell_of_heap hinv.heap 1
    have cf := Lib.frozen_of_heap hinv.heap 1
    simp at c0 c1
    clear h0 h1 hf hinv hne hne'
    by_cases hp : p < s.size
    · obtain ⟨x, hx⟩ : ∃ x : UInt8, s[p]'hp = x := ⟨_, rfl⟩
      have hpe : decide ((p : Int) < (s.size : Int)) = true := decide_eq_true (by omega)
      have hlen : (Lib.byteCells acc).length + 1 ≤ 140737488355328 := by rw [Lib.byteCells_length]; have := HI.out.len; omega
      have HL := Lib.hid hlen; clear hlen
      by_cases hx34 : x = 34
      · have hxe : ((x.toNat : Int) != 34) = false := by subst hx34; rfl
        have hx2 : x.toNat = 34 := by subst hx34; rfl
        by_cases h2 : (s.data.toList.drop (p + 1)).head? = some 34
        · have hp1' : p + 1 < s.size := by
            rcases Nat.lt_or_ge (p + 1) s.size with h | h
            · exact h
            · rw [List.drop_of_length_le (by simpa using h)] at h2; simp at h2
          have hd : s[p + 1]'hp1' = 34 := by rw [drop_cons s (p + 1) hp1'] at h2; simpa using h2
          have HV := Lib.hid (quoted_two hp hp1' hp1 (by rw [hx]; exact hx34) hd HI.out.val)
          have P2 : Hid (Lib.hasPrefix (s.extract p s.size).data.toList [34, 34] = true) := by
            show Lib.hasPrefix (s.extract p s.size).data.toList [34, 34] = true
            rw [Lib.extract_to_end, drop_cons s p hp, drop_cons s (p + 1) hp1', hx, hx34, hd]; rfl
          clear h2 hd hx2
          have HX := Lib.hid hx34; clear hx34
          have HH := Lib.hid hx; clear hx
          have hx := HH.out
          go_wp2
          go_quiet (fail)
          go_wp2
          go_quiet (fail)
          go_wp2
          clear hx
          go_quiet ((go_at_call 38; exact quiet_add_same (hasPrefix_is _ _ _ true P2.out)))
          go_wp2_with fail
          refine (Tryd.Builder_WriteByte_k K K (Lib.byteCells acc) _ _ (by exact HI.out.bld) HL.out (by exact Nat.le_of_lt HI.out.size)).mono ?_
          rintro e w1 ⟨rfl, hb1, hbel, _⟩
          have r1 : w1.heap[r]? = _ := (hbel.block r hrK).trans HI.out.heap
          have c0' := Lib.cell_of_heap r1 0
          have c1' := Lib.cell_of_heap r1 1
          have cf' := Lib.frozen_of_heap r1 1
          simp at c0' c1'
          clear c0 c1 cf
          have R1 := Lib.hid r1; clear r1
          have B1 := Lib.hid hb1; clear hb1
          go_wp2
          go_roundg (gk - 1)
          case measure => omega
          case rel =>
            refine ⟨p + 2, acc ++ [34], by omega, by omega, by omega, ?_⟩
            refine (HI.out.drewN _).wrote (x := 34) HK.out hrK B1.out hbel (q := p + 2) (by omega) ?_ ?_ ?_ HV.out
            · exact (heap_setCell_at (heap_setCell_at R1.out 1 _) 1 _).trans (by simp; omega)
            · exact only_setCell (only_setCell (only_refl _ _) (.inl rfl) _) (.inl rfl) _
            · exact fun k hk => (Below.heap_setCell _ _ _ _ (by show k ≠ r; omega)).trans (Below.heap_setCell _ _ _ _ (by show k ≠ r; omega))
        · have HV := Lib.hid (quoted_end hp (by rw [hx]; exact hx34) h2 HI.out.val)
          have P2 : Hid (Lib.hasPrefix (s.extract p s.size).data.toList [34, 34] = false) := by
            show Lib.hasPrefix (s.extract p s.size).data.toList [34, 34] = false
            rw [Lib.extract_to_end, drop_cons s p hp, hx, hx34]
            cases hd : s.data.toList.drop (p + 1) with
            | nil => rfl
            | cons a t =>
              rw [hd] at h2
              have : ¬ a = 34 := by simpa using h2
              simp [Lib.hasPrefix, List.isPrefixOf]
              exact fun h => this h.symm
          clear h2 hx2
          have HX := Lib.hid hx34; clear hx34
          go_wp2
          go_quiet (fail)
          go_wp2
          go_quiet (fail)
          go_wp2
          clear hx
          go_quiet ((go_at_call 38; exact quiet_add_same (hasPrefix_is _ _ _ false P2.out)))
          go_wp2_with fail
          refine (Tryd.Builder_String_any_k K K acc _ (by exact builder_keep HI.out.bld (fun k hk => Below.heap_setCell _ _ _ _ (by show k ≠ r; omega))) (by rw [size_setCell]; exact Nat.le_of_lt HI.out.size)).mono ?_
          rintro e w1 ⟨rfl, _, hbel, _⟩
          go_wp2
          go_ret2
          unfold FieldPost
          rw [HV.out]
          have hh := (heap_setCell_at (w := wr.drewN 0) HI.out.heap 1 (.int .i64 ((p : Int) + 1)))
          have h1 := HI.out.only
          refine ⟨⟨hbel.os.trans h1.os, hbel.tape.trans h1.tape, hbel.output.trans h1.output, Nat.le_trans h1.size (Nat.le_trans (by rw [size_setCell]; exact Nat.le_refl _) hbel.size), fun k hk hne => ?_⟩, rfl, ?_⟩
          · exact (hbel.block k (by rw [← HK.out]; exact hk)).trans ((Below.heap_setCell _ _ _ _ (by rintro rfl; exact hne rfl)).trans (h1.block k hk hne))
          · refine (hbel.block r hrK).trans (hh.trans ?_)
            simp
            omega
      · have hxe : ((x.toNat : Int) != 34) = true := by
          rw [bne_iff_ne]; intro h; exact hx34 (UInt8.toNat_inj.1 (by show x.toNat = 34; omega))
        have HV := Lib.hid (quoted_byte hp hp1 (by rw [hx]; exact hx34) HI.out.val)
        rw [hx] at HV
        have HX := Lib.hid hx34; clear hx34
        go_wp2
        go_quiet (fail)
        go_wp2
        go_quiet (fail)
        go_wp2_with fail
        refine (Tryd.Builder_WriteByte_k K K (Lib.byteCells acc) _ _ (by exact HI.out.bld) HL.out (by exact Nat.le_of_lt HI.out.size)).mono ?_
        rintro e w1 ⟨rfl, hb1, hbel, _⟩
        have r1 : w1.heap[r]? = _ := (hbel.block r hrK).trans HI.out.heap
        have c0' := Lib.cell_of_heap r1 0
        have c1' := Lib.cell_of_heap r1 1
        have cf' := Lib.frozen_of_heap r1 1
        simp at c0' c1'
        clear c0 c1 cf
        have R1 := Lib.hid r1; clear r1
        have B1 := Lib.hid hb1; clear hb1
        go_wp2
        go_roundg (gk - 1)
        case measure => omega
        case rel =>
          refine ⟨p + 1, acc ++ [x], by omega, by omega, by omega, ?_⟩
          refine (HI.out.drewN _).wrote HK.out hrK B1.out hbel (q := p + 1) (by omega) ?_ ?_ ?_ HV.out
          · exact (heap_setCell_at R1.out 1 _).trans (by simp)
          · exact only_setCell (only_refl _ _) (.inl rfl) _
          · exact fun k hk => Below.heap_setCell _ _ _ _ (by show k ≠ r; omega)
    · have hp' : s.size ≤ p := by omega
      have hpe : decide ((p : Int) < (s.size : Int)) = false := decide_eq_false (by omega)
      have HV := Lib.hid (quoted_over hp' HI.out.val)
      go_wp2
      go_quiet (fail)
      go_wp2
      go_ret2
      unfold FieldPost
      rw [HV.out]
      exact ⟨only_drewN HI.out.only _, rfl⟩
end Go.Proofs.YtjndiielolphgaaDoor
