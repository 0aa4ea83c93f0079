/- strings.ContainsAny and strings.ReplaceAll as csv.Print calls them; what its builder holds. Conditions: the separator is one of the four; bytealg's MaxLen holds a number. -/
import Derived.Test.YtjndiielolphgaaDoorCsvStrRows
import Derived.Test.YtjndiielolphgaaDoorCsvText
namespace Go.Proofs.YtjndiielolphgaaDoor
open Go.RowKit

theorem any_stop (c : UInt8) : ∀ l : List UInt8, l.any (Csv.stop c) = decide (Csv.plainLen c l < l.length)
  | [] => rfl
  | b :: l => by
    have ih := any_stop c l
    rw [plainLen_cons]
    cases hs : Csv.stop c b with
    | true => simp [hs]
    | false =>
      simp only [List.any_cons, hs, Bool.false_or, ih, Bool.false_eq_true, if_false, List.length_cons]
      rw [decide_eq_decide]; omega

theorem contains_is (f : Csv.Bytes) (sep : Int) (c : UInt8) (hc : SepFacts sep c) (hc2 : c.toNat < 128) (b : Bool) (h : f.any (Csv.stop c) = b) (hf : f.length ≤ 4000000000) (w : World) :
    Calls Tryd.prog 30 #[.string (ba f), .string (Utf8.encode sep ++ { data := #[34, 13, 10] })] w fun e w' => e = .returned (.bool b) ∧ Below w.heap.size w w' := by
  rw [any_stop] at h
  have hx : Lib.indexAny (ba f).data.toList (charsOf sep).data.toList = if Csv.plainLen c f < f.length then (Csv.plainLen c f : Int) else -1 := by
    rw [hc.list]; exact indexAny_plain c f
  have HC := Lib.hid hc; clear hc
  have hs : (ba f).size ≤ 4000000000 := by show f.toArray.size ≤ _; simpa using hf
  by_cases hlt : Csv.plainLen c f < f.length
  · obtain rfl : b = true := by rw [← h]; exact decide_eq_true hlt
    rw [if_pos hlt] at hx
    have HX := Lib.hid hx; clear hx h hlt
    go_enter Tryd.func30, Tryd.ntmps30
    go_wp2_with fail
    refine (indexAny_is _ _ _ _ HX.out hs HC.out.size (HC.out.ascii hc2)).mono ?_
    rintro e w1 ⟨rfl, hb⟩
    have HB := Lib.hid hb; clear hb
    have ht : decide ((0 : Int) ≤ (Csv.plainLen c f : Int)) = true := decide_eq_true (by omega)
    go_wp2
    go_ret
    exact ⟨rfl, HB.out⟩
  · obtain rfl : b = false := by rw [← h]; exact decide_eq_false hlt
    rw [if_neg hlt] at hx
    have HX := Lib.hid hx; clear hx h hlt
    go_enter Tryd.func30, Tryd.ntmps30
    go_wp2_with fail
    refine (indexAny_is _ _ _ _ HX.out hs HC.out.size (HC.out.ascii hc2)).mono ?_
    rintro e w1 ⟨rfl, hb⟩
    have HB := Lib.hid hb; clear hb
    go_wp2
    go_ret
    exact ⟨rfl, HB.out⟩

theorem replace_is (f : Csv.Bytes) (hf : f.length ≤ 1000000000) (w : World) (hm : ∃ m, w.cell? ⟨2, 0, none⟩ = some (.int .i64 m)) :
    Calls Tryd.prog 31 #[.string (ba f), .string { data := #[34] }, .string { data := #[34, 34] }] w fun e w' => e = .returned (.string (ba (Csv.esc f))) ∧ Below w.heap.size w w' := by
  obtain ⟨m, hm⟩ := hm
  have hs : (ba f).size = f.length := by show f.toArray.size = _; simp
  have hcnt : Lib.countB (ba f) { data := #[34] } ≤ f.length + 1 := Lib.count_le f [34]
  have h2 : ({ data := #[34, 34] } : ByteArray).size = 2 := rfl
  refine (Tryd.strings_ReplaceAll (ba f) { data := #[34] } { data := #[34, 34] } m w (by omega) hm (by decide) (by rw [h2]; omega)).mono fun e w' ⟨h1, h2⟩ => ⟨?_, h2⟩
  rw [h1]
  exact congrArg (fun x => Ending.returned (.string ⟨List.toArray x⟩)) (replaceAll_esc f)

theorem len_esc : ∀ s : List UInt8, s.length ≤ (Csv.esc s).length
  | [] => by simp [Csv.esc]
  | b :: l => by
    have := len_esc l
    simp only [Csv.esc]; split <;> simp <;> omega
theorem strCells_quoted (l : Csv.Bytes) : Lib.strCells (({ data := #[34] } : ByteArray) ++ ba l ++ { data := #[34] }) = Lib.byteCells (34 :: (l ++ [34])) := by
  have e : (({ data := #[34] } : ByteArray) ++ ba l ++ { data := #[34] }).data.toList = 34 :: (l ++ [34]) := by
    rw [ByteArray.data_append, ByteArray.data_append, Array.toList_append, Array.toList_append]; simp [ba]
  show Lib.byteCells _ = _
  rw [e]

structure PrInv (K : Nat) (w : World) (out : Csv.Bytes) (wx : World) : Prop where
  below : Below K w wx
  bld : Lib.IsBuilderF 66 5 K K (Lib.byteCells out) wx
  size : K < wx.heap.size
theorem PrInv.wrote {K : Nat} {w wx w1 : World} {out b o2 : Csv.Bytes} (h : PrInv K w out wx) (hb : Lib.IsBuilderF 66 5 K K (Lib.byteCells out ++ Lib.byteCells b) w1) (hbel : Below K wx w1) (ho : out ++ b = o2) : PrInv K w o2 w1 := by
  subst ho
  have e : Lib.byteCells (out ++ b) = Lib.byteCells out ++ Lib.byteCells b := by simp [Lib.byteCells]
  exact ⟨h.below.trans hbel, by rw [e]; exact hb, Nat.lt_of_lt_of_le h.size hbel.size⟩
theorem PrInv.still {K : Nat} {w wx w1 : World} {out : Csv.Bytes} (h : PrInv K w out wx) (hbel : Below wx.heap.size wx w1) : PrInv K w out w1 :=
  ⟨h.below.trans (hbel.mono (Nat.le_of_lt h.size)), builder_below h.bld hbel, Nat.lt_of_lt_of_le h.size hbel.size⟩
theorem PrInv.cell {K : Nat} {w wx : World} {out : Csv.Bytes} {p : Addr} {v : Value} (h : PrInv K w out wx) (hK : w.heap.size = K) (hc : w.cell? p = some v) : wx.cell? p = some v := cell_below hc (by rw [hK]; exact h.below)

end Go.Proofs.YtjndiielolphgaaDoor
