/- The walk of the law CsvImportMatches: it returns true for every text and every byte. Conditions: utf8's tables lie as they are laid. -/
import Derived.Test.YtjndiielolphgaaDoorCsvImport
import Derived.Test.YtjndiielolphgaaDoorCsvTextRef
import Derived.Test.YtjndiielolphgaaDoorCsvSame2
namespace Go.Proofs.YtjndiielolphgaaDoor
open Go.RowKit

/-- the law's own lists in the making -/
structure JInv (H : Nat) (w3 : World) (cs : List CellE) (ls : List LossE) (vc vl : Value) (wx : World) : Prop where
  below : Below H w3 wx
  size : H ≤ wx.heap.size
  oc : wx.ownsRow H 40 5 vc cs.length (cs.flatMap cellV)
  ol : wx.ownsRow H 42 5 vl ls.length (ls.flatMap lossV)

theorem JInv.loss {H : Nat} {w3 : World} {cs : List CellE} {ls : List LossE} {vc vl v' : Value} {wx w' : World} (h : JInv H w3 cs ls vc vl wx) (x : LossE) {o : Array Value}
    (hown : w'.ownsRow H 42 5 v' (ls.length + 1) (ls.flatMap lossV ++ lossV x)) (hg : (wx.alloc (.cells o 42 (0, 0))).grownBy w' vl.ownBlock) : JInv H w3 cs (ls ++ [x]) vc v' w' := by
  have hs := h.size
  have hb : ∀ g, vl.ownBlock = some g → H ≤ g ∧ ∃ c fz, (wx.alloc (.cells o 42 (0, 0))).heap[g]? = some (.cells c 42 fz) := fun g e => ⟨(h.ol.lt g e).1, owns_kind (h.ol.alloc _) g e⟩
  have hkc : KeepKind 40 wx w' := ((KeepKind.refl _ _).alloc _).trans (KeepKind.only hg (fun g e _ => (hb g e).2) (by decide))
  refine ⟨(h.below.alloc hs _).grown hg (by simp; omega) (fun g e => (hb g e).1), Nat.le_trans hs (Nat.le_trans (by simp) hg.size), hkc.owns h.oc, ?_⟩
  rw [flat_snoc]; simpa using hown
theorem JInv.cell {H : Nat} {w3 : World} {cs : List CellE} {ls : List LossE} {vc vl v' : Value} {wx w' : World} (h : JInv H w3 cs ls vc vl wx) (x : CellE) {o : Array Value}
    (hown : w'.ownsRow H 40 5 v' (cs.length + 1) (cs.flatMap cellV ++ cellV x)) (hg : (wx.alloc (.cells o 40 (0, 0))).grownBy w' vc.ownBlock) : JInv H w3 (cs ++ [x]) ls v' vl w' := by
  have hs := h.size
  have hb : ∀ g, vc.ownBlock = some g → H ≤ g ∧ ∃ c fz, (wx.alloc (.cells o 40 (0, 0))).heap[g]? = some (.cells c 40 fz) := fun g e => ⟨(h.oc.lt g e).1, owns_kind (h.oc.alloc _) g e⟩
  have hkl : KeepKind 42 wx w' := ((KeepKind.refl _ _).alloc _).trans (KeepKind.only hg (fun g e _ => (hb g e).2) (by decide))
  refine ⟨(h.below.alloc hs _).grown hg (by simp; omega) (fun g e => (hb g e).1), Nat.le_trans hs (Nat.le_trans (by simp) hg.size), ?_, hkl.owns h.ol⟩
  rw [flat_snoc]; simpa using hown

theorem textRef_ba (f : Csv.Bytes) (w : World) (hs : f.length ≤ 4000000000) :
    Calls Tryd.prog 10 #[.string (ba f)] w fun e w' => e = .returned (.tuple #[.string (ba (textR (ba f)).1), .bool (textR (ba f)).2.1, .bool (textR (ba f)).2.2]) ∧ w' = w :=
  textRef_any (ba f) w (by show f.toArray.size ≤ _; simpa using hs)

theorem sep_byte (sep : Int) (h : 0 ≤ sep ∧ sep < 256) : ∃ c : UInt8, sep = c.toNat := ⟨UInt8.ofNat sep.toNat, by simp; omega⟩

theorem below_chain {w w1 w2 : World} (h1 : Below w.heap.size w w1) (h2 : Below w1.heap.size w1 w2) : Below w.heap.size w w2 := h1.trans (h2.mono h1.size)

set_option maxHeartbeats 4000000 in
set_option maxRecDepth 100000 in
theorem implaw_badsep (a : ByteArray) (sep : Int) (w : World) (hsz : a.size ≤ maxLen) (hbyte : 0 ≤ sep ∧ sep < 256) (hsep : isSep sep = false) :
    Calls Tryd.prog 3 #[.string a, .int .u8 sep] w fun e w' => e = .returned (.bool true) ∧ Below w.heap.size w w' := by
  unfold maxLen at hsz
  have HS := Lib.hid hsep; clear hsep
  obtain ⟨c, hc⟩ := sep_byte sep hbyte
  have HC := Lib.hid hc; clear hc hbyte
  go_enter Tryd.func3, Tryd.ntmps3
  go_wp2_with fail
  refine (fields_true _).mono ?_
  rintro e w1 ⟨rfl, hb⟩
  have HB := Lib.hid hb; clear hb
  go_wp2_with fail
  have hS := cut_le a
  generalize a.extract 0 (min (a.size : Int) 400).toNat = S at hS ⊢
  refine (import_badsep S sep _ HS.out).mono ?_
  rintro e w2 ⟨rfl, hb2⟩
  have HB2 := Lib.hid hb2; clear hb2
  simp only [gridV]
  obtain ⟨R, hR⟩ : ∃ R, Csv.ref c (S.size + 1) S.data.toList 0 [] [] [] 0 false = R := ⟨_, rfl⟩
  have HR := Lib.hid hR; clear hR
  go_wp2_with fail
  refine (ref_any S sep c _ (by omega) HC.out _ HR.out).mono ?_
  rintro e w3 ⟨hb3, hpost⟩
  simp only [World.size_alloc] at hb3
  have HB3 : Hid (Below w2.heap.size w2 w3) := ((Below.refl _ _).alloc (Nat.le_refl _) _).trans (hb3.mono (by omega))
  have hG : w3.heap[w2.heap.size]? = some (.cells #[.int .i64 0, .int .i64 0, .slice none 0 0, .slice none 0 0] 26 (0, 0)) := by
    rw [hb3.block _ (by omega)]; exact alloc_at _ _ _ rfl
  have g0 := Lib.cell_of_heap hG 0
  have g2 := Lib.cell_of_heap hG 2
  simp at g0 g2
  clear hb3 hG
  cases R with
  | ok rows =>
    obtain ⟨v, rfl, hown⟩ := hpost
    clear hown
    go_wp2_with (go_at_call 9; refine (lawSep_any _ _).mono ?_; rintro e w' ⟨rfl, hw⟩; rw [hw, HS.out])
    go_ret
    exact ⟨rfl, below_chain HB.out (below_chain HB2.out HB3.out)⟩
  | bad p =>
    simp only at hpost
    subst hpost
    go_wp2_with (go_at_call 9; refine (lawSep_any _ _).mono ?_; rintro e w' ⟨rfl, hw⟩; rw [hw, HS.out])
    go_ret
    exact ⟨rfl, below_chain HB.out (below_chain HB2.out HB3.out)⟩

set_option maxHeartbeats 4000000 in
set_option maxRecDepth 100000 in
theorem implaw_bad (a : ByteArray) (sep : Int) (c : UInt8) (w : World) (hsz : a.size ≤ maxLen) (hc : SepFacts sep c) (hc2 : c.toNat < 128) (hsep : isSep sep = true) (p : Nat)
    (hR : Csv.parse c (a.extract 0 (min (a.size : Int) 400).toNat).data.toList ((a.extract 0 (min (a.size : Int) 400).toNat).size + 1) 0 [] = .bad p) :
    Calls Tryd.prog 3 #[.string a, .int .u8 sep] w fun e w' => e = .returned (.bool true) ∧ Below w.heap.size w w' := by
  unfold maxLen at hsz
  have HS := Lib.hid hsep; clear hsep
  have HC := Lib.hid hc; clear hc
  have HR := Lib.hid hR; clear hR
  go_enter Tryd.func3, Tryd.ntmps3
  go_wp2_with fail
  refine (fields_true _).mono ?_
  rintro e w1 ⟨rfl, hb⟩
  have HB := Lib.hid hb; clear hb
  go_wp2_with fail
  have hS := cut_le a
  generalize a.extract 0 (min (a.size : Int) 400).toNat = S at hS HR ⊢
  refine (import_bad S sep c _ (by omega) HC.out hc2 HS.out p HR.out).mono ?_
  rintro e w2 ⟨rfl, hb2⟩
  have HB2 := Lib.hid hb2; clear hb2
  simp only [gridV]
  have href : Csv.ref c (S.size + 1) S.data.toList 0 [] [] [] 0 false = .bad p := by
    have := Csv.ref_parse c HC.out.ok S.data.toList (S.size + 1) 0 [] (Nat.zero_le _) (by simp)
    rw [HR.out] at this; exact this.symm
  have HQ := Lib.hid href; clear href
  go_wp2_with fail
  refine (ref_any S sep c _ (by omega) HC.out.num _ HQ.out).mono ?_
  rintro e w3 ⟨hb3, rfl⟩
  simp only [World.size_alloc] at hb3
  have HB3 : Hid (Below w2.heap.size w2 w3) := ((Below.refl _ _).alloc (Nat.le_refl _) _).trans (hb3.mono (by omega))
  have hG : w3.heap[w2.heap.size]? = some (.cells #[.int .i64 0, .int .i64 0, .slice none 0 0, .slice none 0 0] 26 (0, 0)) := by
    rw [hb3.block _ (by omega)]; exact alloc_at _ _ _ rfl
  have g0 := Lib.cell_of_heap hG 0
  have g2 := Lib.cell_of_heap hG 2
  simp at g0 g2
  clear hb3 hG
  have hge : (0 : Int) ≤ (p : Int) := by omega
  go_wp2_with (go_at_call 9; refine (lawSep_any _ _).mono ?_; rintro e w' ⟨rfl, hw⟩; rw [hw, HS.out])
  go_ret
  exact ⟨rfl, below_chain HB.out (below_chain HB2.out HB3.out)⟩
end Go.Proofs.YtjndiielolphgaaDoor
