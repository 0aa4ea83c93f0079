/- csv.Import where the records are read: the cells, the losses and the size of the sheet. Conditions: utf8's tables lie as they are laid; the text has at most 4000000000 bytes and 1000000 fields. -/
import Derived.Test.YtjndiielolphgaaDoorCsvImportBad
namespace Go.Proofs.YtjndiielolphgaaDoor
open Go.RowKit

theorem Tryd.infoCell : (Tryd.prog.info? 40).map (fun i => (i.zero, i.size, i.bytes)) = some (some (.agg #[.int .i64 0, .int .i64 0, .string { data := #[] }, .int .i64 0, .slice none 0 0]), 5, 64) := by kernel_rfl
theorem Tryd.infoLoss : (Tryd.prog.info? 42).map (fun i => (i.zero, i.size, i.bytes)) = some (some (.agg #[.int .i64 0, .int .i64 0, .int .i64 0, .int .i64 0, .string { data := #[] }]), 5, 48) := by kernel_rfl

theorem owns_elem {w : World} {B n : Nat} {e : TypeId} {v : Value} {xs : List Value} (h : w.ownsRow B e 1 v n xs) :
    ∃ a cap, v = .slice a n cap ∧ n ≤ maxLen ∧ ∀ j, j < n → ∃ g, a = some ⟨g, 0, none⟩ ∧ g < w.heap.size ∧ ∀ hx : j < xs.length, w.cell? ⟨g, j, none⟩ = some xs[j] := by
  rcases h.2 with ⟨rfl, rfl⟩ | ⟨g, cap, cur, rfl, hb, hg, hc, hm, rest⟩
  · exact ⟨_, _, rfl, Nat.zero_le _, fun j hj => by omega⟩
  · refine ⟨_, cap, rfl, Nat.le_trans hc hm, fun j _ => ⟨g, rfl, heap_lt hg, fun hx => ?_⟩⟩
    have := World.ownsRow.cells (g := g) h rfl j xs[j] (List.getElem?_eq_getElem hx)
    have hadd : (⟨g, 0, none⟩ : Addr).add j = ⟨g, j, none⟩ := by unfold Addr.add; split <;> simp_all
    rw [hadd] at this
    exact this

theorem drop_row (rows : List (List Csv.Bytes)) (k : Nat) (h : k < rows.length) : rows.drop k = rows[k] :: rows.drop (k + 1) := List.drop_eq_getElem_cons h

/-- the fields of the result that the program makes step by step -/
structure GInv (G : Nat) (w1 wx : World) (n m : Nat) (vc : Value) : Prop where
  below : Below G w1 wx
  heap : wx.heap[G]? = some (.cells #[.int .i64 n, .int .i64 m, vc, .slice none 0 0] 26 (0, 0))

/-- the sheet in the making: the cells so far, the losses so far -/
structure IInv (G : Nat) (w1 : World) (n m : Nat) (cs : List CellE) (ls : List LossE) (vc vl : Value) (wx : World) : Prop where
  g : GInv G w1 wx n m vc
  oc : wx.ownsRow (G + 1) 40 5 vc cs.length (cs.flatMap cellV)
  ol : wx.ownsRow (G + 1) 42 5 vl ls.length (ls.flatMap lossV)

theorem IInv.lt {G : Nat} {w1 : World} {n m : Nat} {cs : List CellE} {ls : List LossE} {vc vl : Value} {wx : World} (h : IInv G w1 n m cs ls vc vl wx) : G < wx.heap.size := heap_lt h.g.heap
theorem IInv.still {G : Nat} {w1 : World} {n m : Nat} {cs : List CellE} {ls : List LossE} {vc vl : Value} {wx w2 : World} (h : IInv G w1 n m cs ls vc vl wx) (hb : Below wx.heap.size wx w2) : IInv G w1 n m cs ls vc vl w2 :=
  ⟨⟨h.g.below.trans (hb.mono (Nat.le_of_lt h.lt)), (hb.block G h.lt).trans h.g.heap⟩, (KeepKind.below hb).owns h.oc, (KeepKind.below hb).owns h.ol⟩

theorem IInv.loss {G : Nat} {w1 : World} {n m : Nat} {cs : List CellE} {ls : List LossE} {vc vl v' : Value} {wx w' : World} (h : IInv G w1 n m cs ls vc vl wx) (x : LossE) {o : Array Value}
    (hown : w'.ownsRow (G + 1) 42 5 v' (ls.length + 1) (ls.flatMap lossV ++ lossV x)) (hg : (wx.alloc (.cells o 42 (0, 0))).grownBy w' vl.ownBlock) : IInv G w1 n m cs (ls ++ [x]) vc v' w' := by
  have hlt := h.lt
  have hb : ∀ g, vl.ownBlock = some g → G + 1 ≤ g ∧ ∃ c fz, (wx.alloc (.cells o 42 (0, 0))).heap[g]? = some (.cells c 42 fz) := fun g e => ⟨(h.ol.lt g e).1, owns_kind (h.ol.alloc _) g e⟩
  have hkc : KeepKind 40 wx w' := ((KeepKind.refl _ _).alloc _).trans (KeepKind.only hg (fun g e _ => (hb g e).2) (by decide))
  refine ⟨⟨(h.g.below.alloc (Nat.le_of_lt hlt) _).grown hg (by simp; omega) (fun g e => by have := (hb g e).1; omega), ?_⟩, hkc.owns h.oc, ?_⟩
  · rw [hg.block G (by simp; omega) (fun e => by have := (hb G e.symm).1; omega), Below.heap_alloc _ _ _ hlt]
    exact h.g.heap
  · rw [flat_snoc]; simpa using hown

theorem IInv.cell {G : Nat} {w1 : World} {n m : Nat} {cs : List CellE} {ls : List LossE} {vc vl v' : Value} {wx w' : World} (h : IInv G w1 n m cs ls vc vl wx) (x : CellE) {o : Array Value}
    (hown : w'.ownsRow (G + 1) 40 5 v' (cs.length + 1) (cs.flatMap cellV ++ cellV x)) (hg : (wx.alloc (.cells o 40 (0, 0))).grownBy w' vc.ownBlock) : IInv G w1 n m (cs ++ [x]) ls v' vl (w'.setCell ⟨G, 2, none⟩ v') := by
  have hlt := h.lt
  have hb : ∀ g, vc.ownBlock = some g → G + 1 ≤ g ∧ ∃ c fz, (wx.alloc (.cells o 40 (0, 0))).heap[g]? = some (.cells c 40 fz) := fun g e => ⟨(h.oc.lt g e).1, owns_kind (h.oc.alloc _) g e⟩
  have hkl : KeepKind 42 wx w' := ((KeepKind.refl _ _).alloc _).trans (KeepKind.only hg (fun g e _ => (hb g e).2) (by decide))
  have hG : w'.heap[G]? = some (.cells #[.int .i64 n, .int .i64 m, vc, .slice none 0 0] 26 (0, 0)) := by
    rw [hg.block G (by simp; omega) (fun e => by have := (hb G e.symm).1; omega), Below.heap_alloc _ _ _ hlt]
    exact h.g.heap
  have hset : ∀ S, 26 ≠ S → KeepKind S w' (w'.setCell ⟨G, 2, none⟩ v') := fun S hS => KeepKind.only (only_setCell (only_refl _ (some G)) (.inl rfl) _) (fun g e _ => by cases e; exact ⟨_, _, hG⟩) hS
  refine ⟨⟨((h.g.below.alloc (Nat.le_of_lt hlt) _).grown hg (by simp; omega) (fun g e => by have := (hb g e).1; omega)).setCell (Nat.le_refl _) _, ?_⟩, ?_, (hkl.trans (hset _ (by decide))).owns h.ol⟩
  · exact (heap_setCell_at hG 2 _).trans (by simp)
  · rw [flat_snoc]
    exact (hset _ (by decide)).owns (by simpa using hown)

theorem IInv.cellG {G : Nat} {w1 : World} {n m : Nat} {cs : List CellE} {ls : List LossE} {vc vl : Value} {wx w' : World} (h : IInv G w1 n m cs ls vc vl wx) {o : Array Value}
    (hg : (wx.alloc (.cells o 40 (0, 0))).grownBy w' vc.ownBlock) : w'.heap[G]? = some (.cells #[.int .i64 n, .int .i64 m, vc, .slice none 0 0] 26 (0, 0)) := by
  have hlt := h.lt
  rw [hg.block G (by simp; omega) (fun e => by have := (h.oc.lt G e.symm).1; omega), Below.heap_alloc _ _ _ hlt]
  exact h.g.heap

theorem lossV_one (x : LossE) : ∀ u ∈ lossV x, u.oneCell' = true := by
  intro u hu
  simp only [lossV, List.mem_cons, List.not_mem_nil, or_false] at hu
  rcases hu with rfl | rfl | rfl | rfl | rfl <;> rfl
theorem cellV_one (x : CellE) : ∀ u ∈ cellV x, u.oneCell' = true := by
  intro u hu
  simp only [cellV, List.mem_cons, List.not_mem_nil, or_false] at hu
  rcases hu with rfl | rfl | rfl | rfl | rfl <;> rfl

theorem four_sets {wr : World} {K : Nat} {x0 x1 x2 x3 : Value} {T : TypeId} (h : wr.heap[K]? = some (.cells #[x0, x1, x2, x3] T (0, 0))) (y0 y1 y2 y3 : Value) :
    ((((wr.setCell ⟨K, 0, none⟩ y0).setCell ⟨K, 1, none⟩ y1).setCell ⟨K, 2, none⟩ y2).setCell ⟨K, 3, none⟩ y3).heap[K]? = some (.cells #[y0, y1, y2, y3] T (0, 0)) ∧
    wr.grownBy ((((wr.setCell ⟨K, 0, none⟩ y0).setCell ⟨K, 1, none⟩ y1).setCell ⟨K, 2, none⟩ y2).setCell ⟨K, 3, none⟩ y3) (some K) := by
  refine ⟨?_, ?_⟩
  · rw [heap_setCell_at (heap_setCell_at (heap_setCell_at (heap_setCell_at h 0 y0) 1 y1) 2 y2) 3 y3]
    simp
  · have a0 := only_setCell (p := ⟨K, 0, none⟩) (only_refl wr (some K)) (.inl rfl) y0
    have a1 := only_setCell (p := ⟨K, 1, none⟩) a0 (.inl rfl) y1
    have a2 := only_setCell (p := ⟨K, 2, none⟩) a1 (.inl rfl) y2
    exact only_setCell (p := ⟨K, 3, none⟩) a2 (.inl rfl) y3

theorem owns_form5 {w : World} {B size n : Nat} {e : TypeId} {v : Value} {xs : List Value} (h : w.ownsRow B e size v n xs) : ∃ a cap, v = .slice a n cap := by
  rcases h.2 with ⟨rfl, rfl⟩ | ⟨g, cap, cur, rfl, _⟩
  · exact ⟨_, _, rfl⟩
  · exact ⟨_, _, rfl⟩

theorem drop_field (row : List Csv.Bytes) (j : Nat) (h : j < row.length) : row.drop j = row[j] :: row.drop (j + 1) := List.drop_eq_getElem_cons h

theorem text_ba (f : Csv.Bytes) (w : World) (hs : f.length ≤ 4000000000) (hT : Lib.Utf8Tabs 0 1 w) (hB : 2 ≤ w.heap.size) :
    Calls Tryd.prog 24 #[.string (ba f)] w fun e w' => e = .returned (.tuple #[.string (ba (textR (ba f)).1), .bool (textR (ba f)).2.1, .bool (textR (ba f)).2.2]) ∧ Below w.heap.size w w' := by
  have := text_any (ba f) w (by show f.toArray.size ≤ _; simpa using hs) hT hB
  exact this

def ImportPost (w : World) (n m : Nat) (cs : List CellE) (ls : List LossE) (e : Ending) (w' : World) : Prop :=
  Below w.heap.size w w' ∧ ∃ vc vl, e = .returned (.tuple #[gridV n m vc, vl, .int .i64 0]) ∧ w'.ownsRow w.heap.size 40 5 vc cs.length (cs.flatMap cellV) ∧ w'.ownsRow w.heap.size 42 5 vl ls.length (ls.flatMap lossV)

set_option maxHeartbeats 8000000 in
set_option maxRecDepth 100000 in
theorem import_ok (s : ByteArray) (sep : Int) (c : UInt8) (w : World) (hs : s.size ≤ 4000000000) (hc : SepFacts sep c) (hc2 : c.toNat < 128) (hsep : isSep sep = true) (rows : List (List Csv.Bytes))
    (hR : Csv.parse c s.data.toList (s.size + 1) 0 [] = .ok rows) (hT : total rows ≤ 1000000) (hW : ∀ r ∈ rows, Within s.size r)
    (hU : Lib.Utf8Tabs 0 1 w) (hB : 2 ≤ w.heap.size) :
    Calls Tryd.prog 7 #[.string s, .int .u8 sep] w (ImportPost w rows.length (widest rows) (rowsC 0 rows) (rowsL 0 rows)) := by
  have HS := Lib.hid hsep; clear hsep
  have HC := Lib.hid hc; clear hc
  have HR := Lib.hid hR; clear hR
  have HW := Lib.hid hW; clear hW
  have HU := Lib.hid hU; clear hU
  obtain ⟨K, hK⟩ : ∃ K, w.heap.size = K := ⟨_, rfl⟩
  have HK := Lib.hid hK
  go_enter Tryd.func7, Tryd.ntmps7
  go_wp2_with fail
  refine (parse_any s sep c _ hs HC.out hc2 HS.out _ HR.out).mono ?_
  rintro e w1 ⟨hb, v7, rfl, hown, hlen⟩
  simp only [World.size_alloc, hK] at hb
  have hbk : w1.heap[K]? = some (.cells #[.int .i64 0, .int .i64 0, .slice none 0 0, .slice none 0 0] 26 (0, 0)) := by
    rw [hb.block K (by omega)]; exact alloc_at _ _ _ hK
  have HBK := Lib.hid hbk
  have hKG := heap_lt hbk
  obtain ⟨vs, hv1, hv2⟩ := hown
  obtain ⟨a7, c7, rfl, hm7, hel⟩ := owns_elem hv1
  have HEL := Lib.hid hel; clear hel
  have HV1 := Lib.hid hv1; clear hv1
  have HV2 := Lib.hid hv2
  have hvl := hv2.length
  clear hv2 hbk
  have HVL := Lib.hid hvl; clear hvl
  have HB := Lib.hid hb; clear hb
  have hbK : Below K w w1 := ((Below.refl K w).alloc (Nat.le_of_eq HK.out.symm) _).trans (HB.out.mono (by omega))
  have HBK2 := Lib.hid hbK; clear hbK
  rw [hK] at hB
  obtain ⟨G, hG⟩ : ∃ G, w1.heap.size = G := ⟨_, rfl⟩
  have HG := Lib.hid hG
  rw [hG] at hKG
  obtain ⟨T, hTT⟩ : ∃ T, total rows = T := ⟨_, rfl⟩
  obtain ⟨M, hMM⟩ : ∃ M, widest rows = M := ⟨_, rfl⟩
  rw [hTT] at hT
  have HTT := Lib.hid hTT; clear hTT
  have HMM := Lib.hid hMM; clear hMM
  unfold maxLen at hm7
  go_wp2
  go_loopg [10, 38] rows.length (fun g v10 v38 wx => ∃ k a m : Nat, k + g = rows.length ∧ v10 = .int .i64 a ∧ v38 = .int .i64 k ∧ a + total (rows.drop k) = T ∧ max m (widest (rows.drop k)) = M ∧ GInv G w1 wx rows.length m (.slice none 0 0))
  case atStart =>
    refine ⟨0, 0, 0, by omega, rfl, rfl, by simpa using HTT.out, by simpa using HMM.out, ⟨by rw [← HG.out]; exact (Below.refl _ _).alloc (Nat.le_refl _) _, ?_⟩⟩
    exact alloc_at _ _ _ HG.out
  case round =>
    obtain ⟨k, a, m, hk, rfl, rfl, ha, hm, hinv⟩ := hrel
    have HI := Lib.hid hinv
    have g0 := Lib.cell_of_heap hinv.heap 0
    have g1 := Lib.cell_of_heap hinv.heap 1
    have gf := Lib.frozen_of_heap hinv.heap 1
    simp at g0 g1
    clear hinv
    by_cases hlt : k < rows.length
    · have hltb : decide ((k : Int) < (rows.length : Int)) = true := decide_eq_true (by omega)
      have hltn : decide (k < rows.length) = true := decide_eq_true hlt
      obtain ⟨g7, rfl, hg7, hcell⟩ := HEL.out k hlt
      have hkv : k < vs.length := by rw [HVL.out]; exact hlt
      have hc1 : wr.cell? ⟨g7, k, none⟩ = some vs[k] := (HI.out.below.cell (p := ⟨g7, k, none⟩) (by rw [← HG.out]; exact hg7)).trans (hcell hkv)
      have hown := HV2.out.at k hkv hlt
      obtain ⟨ar, cr, hvr⟩ := owns_form hown
      rw [hvr] at hc1
      have hdr := drop_row rows k hlt
      rw [hdr] at ha hm
      simp only [total, widest] at ha hm
      have hlr : (rows[k]).length ≤ T := by omega
      obtain ⟨lr, hlre⟩ : ∃ lr, (rows[k]).length = lr := ⟨_, rfl⟩
      rw [hlre] at hc1 ha hm hlr
      have HH := Lib.hid hm; clear hm
      have HA := Lib.hid ha; clear ha
      have ha2 : a ≤ 1000000 := by have := HA.out; omega
      clear hvr hown hcell hlre hdr
      go_wp2
      go_roundg (gk - 1)
      case measure => omega
      case rel =>
        refine ⟨k + 1, a + lr, max m lr, by omega, by go_num, by go_num, by have := HA.out; omega, by have := HH.out; omega, ⟨?_, ?_⟩⟩
        · exact HI.out.below.setCell (Nat.le_refl _) _
        · refine (heap_setCell_at HI.out.heap 1 _).trans ?_
          simp
          omega
    · have hltb : decide ((k : Int) < (rows.length : Int)) = false := decide_eq_false (by omega)
      have hltn : decide (k < rows.length) = false := decide_eq_false hlt
      have hk0 : k = rows.length := by omega
      have haT : a = T := by rw [hk0, List.drop_length] at ha; simpa [total] using ha
      have hmM : m = M := by rw [hk0, List.drop_length] at hm; simpa [widest] using hm
      subst haT
      subst hmM
      have HK0 := Lib.hid hk0; clear hk0 ha hm hk hlt g0 g1 gf
      obtain ⟨CS, hCS⟩ : ∃ CS, rowsC 0 rows = CS := ⟨_, rfl⟩
      obtain ⟨LS, hLS⟩ : ∃ LS, rowsL 0 rows = LS := ⟨_, rfl⟩
      have hCl : CS.length ≤ 1000000 := by rw [← hCS]; have := rowsC_len 0 rows; have := HTT.out; omega
      have hLl : LS.length ≤ 2000000 := by rw [← hLS]; have := rowsL_len 0 rows; have := HTT.out; omega
      have HCS := Lib.hid hCS; clear hCS
      have HLS := Lib.hid hLS; clear hLS
      obtain ⟨iL, hiL, hz0L, hz1L, hz2L⟩ := info_parts Tryd.infoLoss
      obtain ⟨iC, hiC, hz0C, hz1C, hz2C⟩ := info_parts Tryd.infoCell
      have hgt : ¬ 1000000 < a := by omega
      go_wp2
      go_loopg [14, 58] rows.length (fun g v14 v58 wx => ∃ (i : Nat) (cs : List CellE) (ls : List LossE) (vc : Value), i + g = rows.length ∧ v58 = .int .i64 i ∧ IInv G w1 rows.length m cs ls vc v14 wx ∧ cs ++ rowsC i (rows.drop i) = CS ∧ ls ++ rowsL i (rows.drop i) = LS)
      case atStart =>
        exact ⟨0, [], [], .slice none 0 0, by omega, rfl, ⟨HI.out, World.ownsRow_nil _ _ _ _, World.ownsRow_nil _ _ _ _⟩, by simpa using HCS.out, by simpa using HLS.out⟩
      case round =>
        obtain ⟨i, cs0, ls0, vc0, hi, rfl, hinv, hcs, hls⟩ := hrel
        have HI0 := Lib.hid hinv; clear hinv
        have HC0 := Lib.hid hcs; clear hcs
        have HL0 := Lib.hid hls; clear hls
        by_cases hlt : i < rows.length
        · have hltb : decide ((i : Int) < (rows.length : Int)) = true := decide_eq_true (by omega)
          have hltn : decide (i < rows.length) = true := decide_eq_true hlt
          obtain ⟨g7, rfl, hg7, hcell⟩ := HEL.out i hlt
          have hkv : i < vs.length := by rw [HVL.out]; exact hlt
          have hc1 : wr.cell? ⟨g7, i, none⟩ = some vs[i] := (HI0.out.g.below.cell (p := ⟨g7, i, none⟩) (by rw [← HG.out]; exact hg7)).trans (hcell hkv)
          have hown := HV2.out.at i hkv hlt
          have hrowW := HW.out rows[i] (List.getElem_mem hlt)
          have hdr := drop_row rows i hlt
          obtain ⟨row, hrow⟩ : ∃ row, rows[i] = row := ⟨_, rfl⟩
          rw [hrow] at hown hrowW hdr
          obtain ⟨ar, cr, hvr, hmr, hele⟩ := owns_elem hown
          rw [hvr] at hc1
          have HRW := Lib.hid hrowW; clear hrowW
          have HELE := Lib.hid hele; clear hele
          have HDR := Lib.hid hdr; clear hdr
          clear hvr hown hcell hrow
          unfold maxLen at hmr
          obtain ⟨gkO, rfl⟩ : ∃ g : Nat, g = gk := ⟨_, rfl⟩
          obtain ⟨cs1, hcs1⟩ : ∃ cs1, cs0 ++ fieldsC i 0 row = cs1 := ⟨_, rfl⟩
          obtain ⟨ls1, hls1⟩ : ∃ ls1, ls0 ++ fieldsL i 0 row = ls1 := ⟨_, rfl⟩
          have HC1 : Hid (cs1 ++ rowsC (i + 1) (rows.drop (i + 1)) = CS) := by
            show _ = _
            rw [← HC0.out, HDR.out, rowsC, ← List.append_assoc, hcs1]
          have HL1 : Hid (ls1 ++ rowsL (i + 1) (rows.drop (i + 1)) = LS) := by
            show _ = _
            rw [← HL0.out, HDR.out, rowsL, ← List.append_assoc, hls1]
          have hcl1 : cs1.length ≤ 1000000 := by have := congrArg List.length HC1.out; simp at this; omega
          have hll1 : ls1.length ≤ 2000000 := by have := congrArg List.length HL1.out; simp at this; omega
          have HCS1 := Lib.hid hcs1; clear hcs1
          have HLS1 := Lib.hid hls1; clear hls1
          go_wp2
          go_loopg [14, 65] row.length (fun g v14 v65 wx => ∃ (j : Nat) (cs : List CellE) (ls : List LossE) (vc : Value), j + g = row.length ∧ v65 = .int .i64 j ∧ IInv G w1 rows.length m cs ls vc v14 wx ∧ cs ++ fieldsC i j (row.drop j) = cs1 ∧ ls ++ fieldsL i j (row.drop j) = ls1)
          case atStart => exact ⟨0, cs0, ls0, vc0, by omega, rfl, HI0.out, by simpa using HCS1.out, by simpa using HLS1.out⟩
          case round =>
            obtain ⟨j, cs, ls, vc, hj, rfl, hinv, hcs, hls⟩ := hrel
            have HI1 := Lib.hid hinv; clear hinv
            by_cases hltj : j < row.length
            · have hltb2 : decide ((j : Int) < (row.length : Int)) = true := decide_eq_true (by omega)
              have hltn2 : decide (j < row.length) = true := decide_eq_true hltj
              obtain ⟨gr, rfl, hgr, hcellr⟩ := HELE.out j hltj
              have hcr : wr.cell? ⟨gr, j, none⟩ = some (.string (ba row[j])) := (HI1.out.g.below.cell (p := ⟨gr, j, none⟩) (by rw [← HG.out]; exact hgr)).trans ((hcellr (by simpa [strCells] using hltj)).trans (by simp [strCells, strV, ba]))
              have hfl : row[j].length ≤ 4000000000 := Nat.le_trans (HRW.out row[j] (List.getElem_mem hltj)) hs
              rw [drop_field row j hltj] at hcs hls
              simp only [fieldsC, fieldsL] at hcs hls
              have hcsl := congrArg List.length hcs
              have hlsl := congrArg List.length hls
              simp only [List.length_append] at hcsl hlsl
              clear hcellr hc1
              obtain ⟨tt, ch, ln, hR2⟩ : ∃ tt ch ln, textR (ba row[j]) = (tt, ch, ln) := ⟨_, _, _, rfl⟩
              have eC : cellsOf i j row[j] = if tt = [] then [] else [⟨i, j, tt⟩] := by unfold cellsOf; rw [hR2]
              have eL : lossesOf i j row[j] = (if ch then [⟨5, i, j, row[j]⟩] else []) ++ (if ln then [⟨6, i, j, row[j]⟩] else []) := by unfold lossesOf; rw [hR2]
              rw [eC] at hcs hcsl
              rw [eL] at hls hlsl
              have ht2 : 2 ≤ wr.heap.size := by have := HI1.out.lt; omega
              have hct := text_ba row[j] wr hfl (tabs_below HU.out (B := K) (HBK2.out.trans (HI1.out.g.below.mono (by omega))) hB) ht2
              rw [hR2] at hct
              have HCT := Lib.hid hct
              clear hct eC eL hR2 hfl ht2
              cases ch <;> cases ln
              · by_cases htt : tt = []
                · subst htt
                  have hem : (ba ([] : Csv.Bytes)).toList.isEmpty = true := by rw [Lib.toList_data]; rfl
                  simp only [if_false, if_true, Bool.false_eq_true, List.append_nil, List.nil_append, List.length_nil, List.length_cons, List.length_append] at hcs hls hcsl hlsl
                  have HCS2 := Lib.hid hcs; clear hcs
                  have HLS2 := Lib.hid hls; clear hls
                  go_wp2_with fail
                  refine HCT.out.mono ?_
                  rintro e w2 ⟨rfl, hb2⟩
                  have HI2 := Lib.hid (HI1.out.still hb2)
                  clear hb2
                  go_wp2
                  go_roundg (gk - 1)
                  case measure => omega
                  case rel => exact ⟨j + 1, cs, ls, vc, by omega, by go_num, HI2.out, by simpa using HCS2.out, by simpa using HLS2.out⟩
                · have hem : (ba tt).toList.isEmpty = false := by rw [Lib.toList_data]; cases tt with
                    | nil => exact absurd rfl htt
                    | cons _ _ => rfl
                  simp only [htt, if_false, if_true, Bool.false_eq_true, List.append_nil, List.nil_append, List.length_nil, List.length_cons, List.length_append] at hcs hls hcsl hlsl
                  have HCS2 := Lib.hid hcs; clear hcs
                  have HLS2 := Lib.hid hls; clear hls
                  clear htt
                  go_wp2_with fail
                  refine HCT.out.mono ?_
                  rintro e w2 ⟨rfl, hb2⟩
                  have HI2 := Lib.hid (HI1.out.still hb2)
                  clear hb2
                  have hoc3 := HI2.out.oc
                  have c23 := Lib.cell_of_heap HI2.out.g.heap 2
                  simp at c23
                  have hbc3 : (cs).length + 1 ≤ 4000000 := by first | omega | (simp; omega)
                  have hltG3 := HI2.out.lt
                  go_wp2_with (at_builtin; refine wpList_append_own _ rfl _ _ 23 rfl (G + 1) 40 iC (.agg #[.int .i64 0, .int .i64 0, .string { data := #[] }, .int .i64 0, .slice none 0 0]) 5 64 Tryd.underlying23 hiC hz0C hz1C hz2C rfl (by decide) vc (cs).length ((cs).flatMap cellV) rfl (hoc3.alloc _) ⟨w2.heap.size, 0, none⟩ 1 1 (cellV ⟨i, j, tt⟩) rfl rfl (news_alloc _ _ _) (cellV_one _) (by unfold maxLen; omega) (by omega) (by simp; omega) ?_)
                  intro v3 w3 hown3 hgrow3 _
                  have hG3 := HI2.out.cellG hgrow3
                  have HI3 := Lib.hid (HI2.out.cell ⟨i, j, tt⟩ hown3 hgrow3)
                  have k23 := Lib.cell_of_heap hG3 2
                  have kf3 := Lib.frozen_of_heap hG3 2
                  simp at k23
                  have hform3 : ∃ a cap, v3 = .slice a ((cs).length + 1) cap := owns_form5 hown3
                  obtain ⟨av3, cv3, rfl⟩ := hform3
                  clear hown3 hgrow3 hoc3 hbc3 hltG3 c23 hG3
                  go_wp2
                  go_roundg (gk - 1)
                  case measure => omega
                  case rel => exact ⟨j + 1, cs ++ [CellE.mk i j tt], ls, (.slice av3 (cs.length + 1) cv3), by omega, by go_num, HI3.out, by simpa using HCS2.out, by simpa using HLS2.out⟩
              · by_cases htt : tt = []
                · subst htt
                  have hem : (ba ([] : Csv.Bytes)).toList.isEmpty = true := by rw [Lib.toList_data]; rfl
                  simp only [if_false, if_true, Bool.false_eq_true, List.append_nil, List.nil_append, List.length_nil, List.length_cons, List.length_append] at hcs hls hcsl hlsl
                  have HCS2 := Lib.hid hcs; clear hcs
                  have HLS2 := Lib.hid hls; clear hls
                  go_wp2_with fail
                  refine HCT.out.mono ?_
                  rintro e w2 ⟨rfl, hb2⟩
                  have HI2 := Lib.hid (HI1.out.still hb2)
                  clear hb2
                  have hol3 := HI2.out.ol
                  have hbl3 : (ls).length + 1 ≤ 4000000 := by first | omega | (simp; omega)
                  have hltG3 := HI2.out.lt
                  go_wp2_with (at_builtin; refine wpList_append_own _ rfl _ _ 27 rfl (G + 1) 42 iL (.agg #[.int .i64 0, .int .i64 0, .int .i64 0, .int .i64 0, .string { data := #[] }]) 5 48 Tryd.underlying27 hiL hz0L hz1L hz2L rfl (by decide) u14 (ls).length ((ls).flatMap lossV) rfl (hol3.alloc _) ⟨w2.heap.size, 0, none⟩ 1 1 (lossV ⟨6, i, j, row[j]⟩) rfl rfl (news_alloc _ _ _) (lossV_one _) (by unfold maxLen; omega) (by omega) (by simp; omega) ?_)
                  intro v3 w3 hown3 hgrow3 _
                  have HI3 := Lib.hid (HI2.out.loss ⟨6, i, j, row[j]⟩ (by simpa [List.append_assoc] using hown3) hgrow3)
                  clear hown3 hgrow3 hol3 hbl3 hltG3
                  go_wp2
                  go_roundg (gk - 1)
                  case measure => omega
                  case rel => exact ⟨j + 1, cs, ls ++ [LossE.mk 6 i j row[j]], vc, by omega, by go_num, HI3.out, by simpa using HCS2.out, by simpa using HLS2.out⟩
                · have hem : (ba tt).toList.isEmpty = false := by rw [Lib.toList_data]; cases tt with
                    | nil => exact absurd rfl htt
                    | cons _ _ => rfl
                  simp only [htt, if_false, if_true, Bool.false_eq_true, List.append_nil, List.nil_append, List.length_nil, List.length_cons, List.length_append] at hcs hls hcsl hlsl
                  have HCS2 := Lib.hid hcs; clear hcs
                  have HLS2 := Lib.hid hls; clear hls
                  clear htt
                  go_wp2_with fail
                  refine HCT.out.mono ?_
                  rintro e w2 ⟨rfl, hb2⟩
                  have HI2 := Lib.hid (HI1.out.still hb2)
                  clear hb2
                  have hol3 := HI2.out.ol
                  have hbl3 : (ls).length + 1 ≤ 4000000 := by first | omega | (simp; omega)
                  have hltG3 := HI2.out.lt
                  go_wp2_with (at_builtin; refine wpList_append_own _ rfl _ _ 27 rfl (G + 1) 42 iL (.agg #[.int .i64 0, .int .i64 0, .int .i64 0, .int .i64 0, .string { data := #[] }]) 5 48 Tryd.underlying27 hiL hz0L hz1L hz2L rfl (by decide) u14 (ls).length ((ls).flatMap lossV) rfl (hol3.alloc _) ⟨w2.heap.size, 0, none⟩ 1 1 (lossV ⟨6, i, j, row[j]⟩) rfl rfl (news_alloc _ _ _) (lossV_one _) (by unfold maxLen; omega) (by omega) (by simp; omega) ?_)
                  intro v3 w3 hown3 hgrow3 _
                  have HI3 := Lib.hid (HI2.out.loss ⟨6, i, j, row[j]⟩ (by simpa [List.append_assoc] using hown3) hgrow3)
                  clear hown3 hgrow3 hol3 hbl3 hltG3
                  have hoc4 := HI3.out.oc
                  have c24 := Lib.cell_of_heap HI3.out.g.heap 2
                  simp at c24
                  have hbc4 : (cs).length + 1 ≤ 4000000 := by first | omega | (simp; omega)
                  have hltG4 := HI3.out.lt
                  go_wp2_with (at_builtin; refine wpList_append_own _ rfl _ _ 23 rfl (G + 1) 40 iC (.agg #[.int .i64 0, .int .i64 0, .string { data := #[] }, .int .i64 0, .slice none 0 0]) 5 64 Tryd.underlying23 hiC hz0C hz1C hz2C rfl (by decide) vc (cs).length ((cs).flatMap cellV) rfl (hoc4.alloc _) ⟨w3.heap.size, 0, none⟩ 1 1 (cellV ⟨i, j, tt⟩) rfl rfl (news_alloc _ _ _) (cellV_one _) (by unfold maxLen; omega) (by omega) (by simp; omega) ?_)
                  intro v4 w4 hown4 hgrow4 _
                  have hG4 := HI3.out.cellG hgrow4
                  have HI4 := Lib.hid (HI3.out.cell ⟨i, j, tt⟩ hown4 hgrow4)
                  have k24 := Lib.cell_of_heap hG4 2
                  have kf4 := Lib.frozen_of_heap hG4 2
                  simp at k24
                  have hform4 : ∃ a cap, v4 = .slice a ((cs).length + 1) cap := owns_form5 hown4
                  obtain ⟨av4, cv4, rfl⟩ := hform4
                  clear hown4 hgrow4 hoc4 hbc4 hltG4 c24 hG4
                  go_wp2
                  go_roundg (gk - 1)
                  case measure => omega
                  case rel => exact ⟨j + 1, cs ++ [CellE.mk i j tt], ls ++ [LossE.mk 6 i j row[j]], (.slice av4 (cs.length + 1) cv4), by omega, by go_num, HI4.out, by simpa using HCS2.out, by simpa using HLS2.out⟩
              · by_cases htt : tt = []
                · subst htt
                  have hem : (ba ([] : Csv.Bytes)).toList.isEmpty = true := by rw [Lib.toList_data]; rfl
                  simp only [if_false, if_true, Bool.false_eq_true, List.append_nil, List.nil_append, List.length_nil, List.length_cons, List.length_append] at hcs hls hcsl hlsl
                  have HCS2 := Lib.hid hcs; clear hcs
                  have HLS2 := Lib.hid hls; clear hls
                  go_wp2_with fail
                  refine HCT.out.mono ?_
                  rintro e w2 ⟨rfl, hb2⟩
                  have HI2 := Lib.hid (HI1.out.still hb2)
                  clear hb2
                  have hol3 := HI2.out.ol
                  have hbl3 : (ls).length + 1 ≤ 4000000 := by first | omega | (simp; omega)
                  have hltG3 := HI2.out.lt
                  go_wp2_with (at_builtin; refine wpList_append_own _ rfl _ _ 27 rfl (G + 1) 42 iL (.agg #[.int .i64 0, .int .i64 0, .int .i64 0, .int .i64 0, .string { data := #[] }]) 5 48 Tryd.underlying27 hiL hz0L hz1L hz2L rfl (by decide) u14 (ls).length ((ls).flatMap lossV) rfl (hol3.alloc _) ⟨w2.heap.size, 0, none⟩ 1 1 (lossV ⟨5, i, j, row[j]⟩) rfl rfl (news_alloc _ _ _) (lossV_one _) (by unfold maxLen; omega) (by omega) (by simp; omega) ?_)
                  intro v3 w3 hown3 hgrow3 _
                  have HI3 := Lib.hid (HI2.out.loss ⟨5, i, j, row[j]⟩ (by simpa [List.append_assoc] using hown3) hgrow3)
                  clear hown3 hgrow3 hol3 hbl3 hltG3
                  go_wp2
                  go_roundg (gk - 1)
                  case measure => omega
                  case rel => exact ⟨j + 1, cs, ls ++ [LossE.mk 5 i j row[j]], vc, by omega, by go_num, HI3.out, by simpa using HCS2.out, by simpa using HLS2.out⟩
                · have hem : (ba tt).toList.isEmpty = false := by rw [Lib.toList_data]; cases tt with
                    | nil => exact absurd rfl htt
                    | cons _ _ => rfl
                  simp only [htt, if_false, if_true, Bool.false_eq_true, List.append_nil, List.nil_append, List.length_nil, List.length_cons, List.length_append] at hcs hls hcsl hlsl
                  have HCS2 := Lib.hid hcs; clear hcs
                  have HLS2 := Lib.hid hls; clear hls
                  clear htt
                  go_wp2_with fail
                  refine HCT.out.mono ?_
                  rintro e w2 ⟨rfl, hb2⟩
                  have HI2 := Lib.hid (HI1.out.still hb2)
                  clear hb2
                  have hol3 := HI2.out.ol
                  have hbl3 : (ls).length + 1 ≤ 4000000 := by first | omega | (simp; omega)
                  have hltG3 := HI2.out.lt
                  go_wp2_with (at_builtin; refine wpList_append_own _ rfl _ _ 27 rfl (G + 1) 42 iL (.agg #[.int .i64 0, .int .i64 0, .int .i64 0, .int .i64 0, .string { data := #[] }]) 5 48 Tryd.underlying27 hiL hz0L hz1L hz2L rfl (by decide) u14 (ls).length ((ls).flatMap lossV) rfl (hol3.alloc _) ⟨w2.heap.size, 0, none⟩ 1 1 (lossV ⟨5, i, j, row[j]⟩) rfl rfl (news_alloc _ _ _) (lossV_one _) (by unfold maxLen; omega) (by omega) (by simp; omega) ?_)
                  intro v3 w3 hown3 hgrow3 _
                  have HI3 := Lib.hid (HI2.out.loss ⟨5, i, j, row[j]⟩ (by simpa [List.append_assoc] using hown3) hgrow3)
                  clear hown3 hgrow3 hol3 hbl3 hltG3
                  have hoc4 := HI3.out.oc
                  have c24 := Lib.cell_of_heap HI3.out.g.heap 2
                  simp at c24
                  have hbc4 : (cs).length + 1 ≤ 4000000 := by first | omega | (simp; omega)
                  have hltG4 := HI3.out.lt
                  go_wp2_with (at_builtin; refine wpList_append_own _ rfl _ _ 23 rfl (G + 1) 40 iC (.agg #[.int .i64 0, .int .i64 0, .string { data := #[] }, .int .i64 0, .slice none 0 0]) 5 64 Tryd.underlying23 hiC hz0C hz1C hz2C rfl (by decide) vc (cs).length ((cs).flatMap cellV) rfl (hoc4.alloc _) ⟨w3.heap.size, 0, none⟩ 1 1 (cellV ⟨i, j, tt⟩) rfl rfl (news_alloc _ _ _) (cellV_one _) (by unfold maxLen; omega) (by omega) (by simp; omega) ?_)
                  intro v4 w4 hown4 hgrow4 _
                  have hG4 := HI3.out.cellG hgrow4
                  have HI4 := Lib.hid (HI3.out.cell ⟨i, j, tt⟩ hown4 hgrow4)
                  have k24 := Lib.cell_of_heap hG4 2
                  have kf4 := Lib.frozen_of_heap hG4 2
                  simp at k24
                  have hform4 : ∃ a cap, v4 = .slice a ((cs).length + 1) cap := owns_form5 hown4
                  obtain ⟨av4, cv4, rfl⟩ := hform4
                  clear hown4 hgrow4 hoc4 hbc4 hltG4 c24 hG4
                  go_wp2
                  go_roundg (gk - 1)
                  case measure => omega
                  case rel => exact ⟨j + 1, cs ++ [CellE.mk i j tt], ls ++ [LossE.mk 5 i j row[j]], (.slice av4 (cs.length + 1) cv4), by omega, by go_num, HI4.out, by simpa using HCS2.out, by simpa using HLS2.out⟩
              · by_cases htt : tt = []
                · subst htt
                  have hem : (ba ([] : Csv.Bytes)).toList.isEmpty = true := by rw [Lib.toList_data]; rfl
                  simp only [if_false, if_true, Bool.false_eq_true, List.append_nil, List.nil_append, List.length_nil, List.length_cons, List.length_append] at hcs hls hcsl hlsl
                  have HCS2 := Lib.hid hcs; clear hcs
                  have HLS2 := Lib.hid hls; clear hls
                  go_wp2_with fail
                  refine HCT.out.mono ?_
                  rintro e w2 ⟨rfl, hb2⟩
                  have HI2 := Lib.hid (HI1.out.still hb2)
                  clear hb2
                  have hol3 := HI2.out.ol
                  have hbl3 : (ls).length + 1 ≤ 4000000 := by first | omega | (simp; omega)
                  have hltG3 := HI2.out.lt
                  go_wp2_with (at_builtin; refine wpList_append_own _ rfl _ _ 27 rfl (G + 1) 42 iL (.agg #[.int .i64 0, .int .i64 0, .int .i64 0, .int .i64 0, .string { data := #[] }]) 5 48 Tryd.underlying27 hiL hz0L hz1L hz2L rfl (by decide) u14 (ls).length ((ls).flatMap lossV) rfl (hol3.alloc _) ⟨w2.heap.size, 0, none⟩ 1 1 (lossV ⟨5, i, j, row[j]⟩) rfl rfl (news_alloc _ _ _) (lossV_one _) (by unfold maxLen; omega) (by omega) (by simp; omega) ?_)
                  intro v3 w3 hown3 hgrow3 _
                  have HI3 := Lib.hid (HI2.out.loss ⟨5, i, j, row[j]⟩ (by simpa [List.append_assoc] using hown3) hgrow3)
                  clear hown3 hgrow3 hol3 hbl3 hltG3
                  have hol4 := HI3.out.ol
                  have hbl4 : (ls ++ [LossE.mk 5 i j row[j]]).length + 1 ≤ 4000000 := by first | omega | (simp; omega)
                  have hltG4 := HI3.out.lt
                  go_wp2_with (at_builtin; refine wpList_append_own _ rfl _ _ 27 rfl (G + 1) 42 iL (.agg #[.int .i64 0, .int .i64 0, .int .i64 0, .int .i64 0, .string { data := #[] }]) 5 48 Tryd.underlying27 hiL hz0L hz1L hz2L rfl (by decide) v3 (ls ++ [LossE.mk 5 i j row[j]]).length ((ls ++ [LossE.mk 5 i j row[j]]).flatMap lossV) rfl (hol4.alloc _) ⟨w3.heap.size, 0, none⟩ 1 1 (lossV ⟨6, i, j, row[j]⟩) rfl rfl (news_alloc _ _ _) (lossV_one _) (by unfold maxLen; omega) (by omega) (by simp; omega) ?_)
                  intro v4 w4 hown4 hgrow4 _
                  have HI4 := Lib.hid (HI3.out.loss ⟨6, i, j, row[j]⟩ (by simpa [List.append_assoc] using hown4) hgrow4)
                  clear hown4 hgrow4 hol4 hbl4 hltG4
                  go_wp2
                  go_roundg (gk - 1)
                  case measure => omega
                  case rel => exact ⟨j + 1, cs, ls ++ [LossE.mk 5 i j row[j]] ++ [LossE.mk 6 i j row[j]], vc, by omega, by go_num, HI4.out, by simpa using HCS2.out, by simpa using HLS2.out⟩
                · have hem : (ba tt).toList.isEmpty = false := by rw [Lib.toList_data]; cases tt with
                    | nil => exact absurd rfl htt
                    | cons _ _ => rfl
                  simp only [htt, if_false, if_true, Bool.false_eq_true, List.append_nil, List.nil_append, List.length_nil, List.length_cons, List.length_append] at hcs hls hcsl hlsl
                  have HCS2 := Lib.hid hcs; clear hcs
                  have HLS2 := Lib.hid hls; clear hls
                  clear htt
                  go_wp2_with fail
                  refine HCT.out.mono ?_
                  rintro e w2 ⟨rfl, hb2⟩
                  have HI2 := Lib.hid (HI1.out.still hb2)
                  clear hb2
                  have hol3 := HI2.out.ol
                  have hbl3 : (ls).length + 1 ≤ 4000000 := by first | omega | (simp; omega)
                  have hltG3 := HI2.out.lt
                  go_wp2_with (at_builtin; refine wpList_append_own _ rfl _ _ 27 rfl (G + 1) 42 iL (.agg #[.int .i64 0, .int .i64 0, .int .i64 0, .int .i64 0, .string { data := #[] }]) 5 48 Tryd.underlying27 hiL hz0L hz1L hz2L rfl (by decide) u14 (ls).length ((ls).flatMap lossV) rfl (hol3.alloc _) ⟨w2.heap.size, 0, none⟩ 1 1 (lossV ⟨5, i, j, row[j]⟩) rfl rfl (news_alloc _ _ _) (lossV_one _) (by unfold maxLen; omega) (by omega) (by simp; omega) ?_)
                  intro v3 w3 hown3 hgrow3 _
                  have HI3 := Lib.hid (HI2.out.loss ⟨5, i, j, row[j]⟩ (by simpa [List.append_assoc] using hown3) hgrow3)
                  clear hown3 hgrow3 hol3 hbl3 hltG3
                  have hol4 := HI3.out.ol
                  have hbl4 : (ls ++ [LossE.mk 5 i j row[j]]).length + 1 ≤ 4000000 := by first | omega | (simp; omega)
                  have hltG4 := HI3.out.lt
                  go_wp2_with (at_builtin; refine wpList_append_own _ rfl _ _ 27 rfl (G + 1) 42 iL (.agg #[.int .i64 0, .int .i64 0, .int .i64 0, .int .i64 0, .string { data := #[] }]) 5 48 Tryd.underlying27 hiL hz0L hz1L hz2L rfl (by decide) v3 (ls ++ [LossE.mk 5 i j row[j]]).length ((ls ++ [LossE.mk 5 i j row[j]]).flatMap lossV) rfl (hol4.alloc _) ⟨w3.heap.size, 0, none⟩ 1 1 (lossV ⟨6, i, j, row[j]⟩) rfl rfl (news_alloc _ _ _) (lossV_one _) (by unfold maxLen; omega) (by omega) (by simp; omega) ?_)
                  intro v4 w4 hown4 hgrow4 _
                  have HI4 := Lib.hid (HI3.out.loss ⟨6, i, j, row[j]⟩ (by simpa [List.append_assoc] using hown4) hgrow4)
                  clear hown4 hgrow4 hol4 hbl4 hltG4
                  have hoc5 := HI4.out.oc
                  have c25 := Lib.cell_of_heap HI4.out.g.heap 2
                  simp at c25
                  have hbc5 : (cs).length + 1 ≤ 4000000 := by first | omega | (simp; omega)
                  have hltG5 := HI4.out.lt
                  go_wp2_with (at_builtin; refine wpList_append_own _ rfl _ _ 23 rfl (G + 1) 40 iC (.agg #[.int .i64 0, .int .i64 0, .string { data := #[] }, .int .i64 0, .slice none 0 0]) 5 64 Tryd.underlying23 hiC hz0C hz1C hz2C rfl (by decide) vc (cs).length ((cs).flatMap cellV) rfl (hoc5.alloc _) ⟨w4.heap.size, 0, none⟩ 1 1 (cellV ⟨i, j, tt⟩) rfl rfl (news_alloc _ _ _) (cellV_one _) (by unfold maxLen; omega) (by omega) (by simp; omega) ?_)
                  intro v5 w5 hown5 hgrow5 _
                  have hG5 := HI4.out.cellG hgrow5
                  have HI5 := Lib.hid (HI4.out.cell ⟨i, j, tt⟩ hown5 hgrow5)
                  have k25 := Lib.cell_of_heap hG5 2
                  have kf5 := Lib.frozen_of_heap hG5 2
                  simp at k25
                  have hform5 : ∃ a cap, v5 = .slice a ((cs).length + 1) cap := owns_form5 hown5
                  obtain ⟨av5, cv5, rfl⟩ := hform5
                  clear hown5 hgrow5 hoc5 hbc5 hltG5 c25 hG5
                  go_wp2
                  go_roundg (gk - 1)
                  case measure => omega
                  case rel => exact ⟨j + 1, cs ++ [CellE.mk i j tt], ls ++ [LossE.mk 5 i j row[j]] ++ [LossE.mk 6 i j row[j]], (.slice av5 (cs.length + 1) cv5), by omega, by go_num, HI5.out, by simpa using HCS2.out, by simpa using HLS2.out⟩
            · have hltb2 : decide ((j : Int) < (row.length : Int)) = false := decide_eq_false (by omega)
              have hltn2 : decide (j < row.length) = false := decide_eq_false hltj
              have hjr : j = row.length := by omega
              rw [hjr, List.drop_length] at hcs hls
              simp only [fieldsC, fieldsL, List.append_nil] at hcs hls
              subst hcs
              subst hls
              go_wp2
              go_roundg (gkO - 1)
              case measure => omega
              case rel => exact ⟨i + 1, cs, ls, vc, by omega, by go_num, HI1.out, HC1.out, HL1.out⟩
        · have hltb : decide ((i : Int) < (rows.length : Int)) = false := decide_eq_false (by omega)
          have hltn : decide (i < rows.length) = false := decide_eq_false hlt
          have hin : i = rows.length := by omega
          have hcs := HC0.out
          have hls := HL0.out
          rw [hin, List.drop_length] at hcs hls
          simp only [rowsC, rowsL, List.append_nil] at hcs hls
          have HCF := Lib.hid hcs; clear hcs
          have HLF := Lib.hid hls; clear hls
          have hkk : wr.heap[K]? = some (.cells #[.int .i64 0, .int .i64 0, .slice none 0 0, .slice none 0 0] 26 (0, 0)) := (HI0.out.g.below.block K hKG).trans HBK.out
          have q0 := Lib.cell_of_heap HI0.out.g.heap 0
          have q1 := Lib.cell_of_heap HI0.out.g.heap 1
          have q2 := Lib.cell_of_heap HI0.out.g.heap 2
          have q3 := Lib.cell_of_heap HI0.out.g.heap 3
          have p0 := Lib.cell_of_heap hkk 0
          have p1 := Lib.cell_of_heap hkk 1
          have p2 := Lib.cell_of_heap hkk 2
          have p3 := Lib.cell_of_heap hkk 3
          have pf0 := Lib.frozen_of_heap hkk 0
          have pf1 := Lib.frozen_of_heap hkk 1
          have pf2 := Lib.frozen_of_heap hkk 2
          have pf3 := Lib.frozen_of_heap hkk 3
          simp at q0 q1 q2 q3 p0 p1 p2 p3
          obtain ⟨avc, cvc, hvc⟩ := owns_form5 HI0.out.oc
          have HVC := Lib.hid hvc
          rw [hvc] at q2
          clear hvc
          have HKK := Lib.hid hkk; clear hkk
          clear hin
          go_wp2
          have hbw : Below K w wr := HBK2.out.trans (HI0.out.g.below.mono (Nat.le_of_lt hKG))
          have h4 := four_sets HKK.out (.int .i64 rows.length) (.int .i64 m) (.slice avc cs0.length cvc) (.slice none 0 0)
          generalize (((wr.setCell ⟨K, 0, none⟩ (.int .i64 rows.length)).setCell ⟨K, 1, none⟩ (.int .i64 m)).setCell ⟨K, 2, none⟩ (.slice avc cs0.length cvc)).setCell ⟨K, 3, none⟩ (.slice none 0 0) = W4 at h4 ⊢
          obtain ⟨hk4, ho4⟩ := h4
          have hb4 : Below K w W4 := hbw.trans (below_of_only ho4 (Nat.le_refl _) (Nat.le_of_lt (heap_lt HKK.out)))
          have s0 := Lib.cell_of_heap hk4 0
          have s1 := Lib.cell_of_heap hk4 1
          have s2 := Lib.cell_of_heap hk4 2
          have s3 := Lib.cell_of_heap hk4 3
          simp at s0 s1 s2 s3
          refine bodyPost_ret (v := .tuple #[gridV rows.length m (.slice avc cs0.length cvc), u14, .int .i64 0]) (by simp [results, Tryd.results7, go_sem, gridV, s0, s1, s2, s3]) rfl ?_
          unfold ImportPost
          rw [HCS.out, HLS.out, HK.out, HMM.out, ← HCF.out, ← HLF.out]
          have kc : KeepKind 40 wr W4 := KeepKind.only ho4 (fun g e _ => by cases e; exact ⟨_, _, HKK.out⟩) (by decide)
          have kl : KeepKind 42 wr W4 := KeepKind.only ho4 (fun g e _ => by cases e; exact ⟨_, _, HKK.out⟩) (by decide)
          refine ⟨hb4, _, _, rfl, ?_, ?_⟩
          · rw [← HVC.out]; exact owns_mono (kc.owns HI0.out.oc) (by omega)
          · exact owns_mono (kl.owns HI0.out.ol) (by omega)
end Go.Proofs.YtjndiielolphgaaDoor
