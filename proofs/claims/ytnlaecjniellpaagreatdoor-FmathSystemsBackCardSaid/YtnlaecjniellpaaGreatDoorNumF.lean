/- Numbers as texts of digits, fractions, values and the functions of fmath: contracts of the program's functions, joined from smaller texts. Conditions stand at each theorem. -/
import Derived.Test.YtnlaecjniellpaaGreatDoorNumE
import Derived.Defers
import Derived.Recover
import Derived.Lib.MinMax

/- package fmath's table of functions. No conditions. -/
namespace Go.Proofs.YtnlaecjniellpaaGreatDoor.Num
open Go.RowKit Go.Lib Go.MapKept

/-- what fmath.num and fmath.entry leave -/
def RowRet (w : World) (r : Row) (e : Ending) (w' : World) : Prop := ∃ v, e = .returned (.agg #[.int .i64 r.least, .int .i64 r.most, .string r.kinds, v]) ∧ RowFn w' v r ∧ Below w.heap.size w w'
/-- a block of four cells -/
def Quad (W : World) (b : Nat) (x y z u : Value) : Prop :=
  (W.cell? ⟨b, 0, none⟩ = some x ∧ W.cell? ⟨b, 1, none⟩ = some y ∧ W.cell? ⟨b, 2, none⟩ = some z ∧ W.cell? ⟨b, 3, none⟩ = some u) ∧ W.frozen? ⟨b, 0, none⟩ = false ∧ W.frozen? ⟨b, 1, none⟩ = false ∧ W.frozen? ⟨b, 2, none⟩ = false ∧ W.frozen? ⟨b, 3, none⟩ = false
theorem quad_at {W : World} {b : Nat} {x y z u : Value} {T : TypeId} (h : W.heap[b]? = some (.cells #[x, y, z, u] T (0, 0))) : Quad W b x y z u :=
  ⟨⟨Lib.cell_of_heap h 0, Lib.cell_of_heap h 1, Lib.cell_of_heap h 2, Lib.cell_of_heap h 3⟩, by rw [Lib.frozen_of_heap h 0], by rw [Lib.frozen_of_heap h 1], by rw [Lib.frozen_of_heap h 2], by rw [Lib.frozen_of_heap h 3]⟩
theorem set4_at {W : World} {b : Nat} {x0 y0 z0 u0 : Value} {T : TypeId} (h : W.heap[b]? = some (.cells #[x0, y0, z0, u0] T (0, 0))) (x y z u : Value) :
    ((((W.setCell ⟨b, 0, none⟩ x).setCell ⟨b, 1, none⟩ y).setCell ⟨b, 2, none⟩ z).setCell ⟨b, 3, none⟩ u).heap[b]? = some (.cells #[x, y, z, u] T (0, 0)) := by
  have h1 := heap_setCell_at h 0 x
  have h2 := heap_setCell_at h1 1 y
  have h3 := heap_setCell_at h2 2 z
  have h4 := heap_setCell_at h3 3 u
  rw [h4]; rfl
theorem set4_other (W : World) (b : Nat) (x y z u : Value) {k : Nat} (hk : k ≠ b) : ((((W.setCell ⟨b, 0, none⟩ x).setCell ⟨b, 1, none⟩ y).setCell ⟨b, 2, none⟩ z).setCell ⟨b, 3, none⟩ u).heap[k]? = W.heap[k]? :=
  (Below.heap_setCell _ ⟨b, 3, none⟩ u k hk).trans ((Below.heap_setCell _ ⟨b, 2, none⟩ z k hk).trans ((Below.heap_setCell _ ⟨b, 1, none⟩ y k hk).trans (Below.heap_setCell W ⟨b, 0, none⟩ x k hk)))
attribute [local go_sem] run_store_func

theorem entry_row (r : Row) (hr : r.num = false) (w : World) : Calls Tryz.prog 89 #[.int .i64 r.least, .int .i64 r.most, .string r.kinds, .func (.func r.fn) #[] #[]] w (RowRet w r) :=
  (entry_any r.least r.most r.kinds _ w ⟨_, _, _, rfl⟩).mono fun e w' ⟨he, hc, hb⟩ => ⟨_, he, by unfold RowFn; rw [hr, if_neg (by decide)]; exact ⟨_, rfl, hc⟩, hb⟩

set_option maxHeartbeats 1000000 in
theorem num_row (r : Row) (hr : r.num = true) (w : World) : Calls Tryz.prog 61 #[.int .i64 r.least, .int .i64 r.most, .string r.kinds, .func (.func r.fn) #[] #[]] w (RowRet w r) := by
  obtain ⟨name, least, most, kinds, num, F⟩ := r
  simp only at hr
  subst hr
  have hmf : ∀ (fn : Fn) (first cap : Array Value) (w : World), (Instr.makeFunc fn first cap).run Tryz.prog w = .ok (.func fn first cap) w := fun _ _ _ _ => rfl
  obtain ⟨hx, hr, hb⟩ := two_new w (.cells #[.func (.func F) #[] #[]] 68) (.cells #[.int .i64 0, .int .i64 0, .string { data := #[] }, .nilFunc] 44)
  have HX := Lib.hid hx
  have HR := Lib.hid hr
  have HL := Lib.hid hb
  have TE := Lib.hid (fun W => entry_any least most kinds (.func (.func 137) #[] #[.pointer (some ⟨w.heap.size, 0, none⟩)]) W ⟨_, _, _, rfl⟩)
  clear hx hr hb
  go_enter Tryz.func61, Tryz.ntmps61
  go_wp2_with fail
  refine (TE.out _).mono ?_
  rintro e W1 ⟨rfl, hc, hb⟩
  have HC := Lib.hid hc
  clear hc
  replace HX := Lib.hid (keep_block HX.out hb)
  replace HR := Lib.hid (keep_block HR.out hb)
  replace HL := Lib.hid (HL.out.trans (hb.mono HL.out.size))
  clear hb
  obtain ⟨⟨r0, r1, r2, r3⟩, f0, f1, f2, f3⟩ := quad_at HR.out
  go_wp2
  have hpos : ((w.alloc (.cells #[.func (.func F) #[] #[]] 68)).alloc (.cells #[.int .i64 0, .int .i64 0, .string { data := #[] }, .nilFunc] 44)).heap.size = w.heap.size + 1 + 1 := by simp
  rw [hpos] at HC
  have hF := set4_at HR.out (.int .i64 least) (.int .i64 most) (.string kinds) (.func (.func 150) #[] #[.pointer (some ⟨w.heap.size + 1 + 1, 0, none⟩)])
  obtain ⟨⟨e0, e1, e2, e3⟩, _⟩ := quad_at hF
  refine bodyPost_ret (v := .agg #[.int .i64 least, .int .i64 most, .string kinds, .func (.func 150) #[] #[.pointer (some ⟨w.heap.size + 1 + 1, 0, none⟩)]]) (by simp [results, Tryz.results61, go_sem, e0, e1, e2, e3]) rfl ⟨_, rfl, ?_, ?_⟩
  · unfold RowFn
    rw [if_pos rfl]
    refine ⟨_, _, rfl, but_cell HC.out (fun k hk => set4_other _ _ _ _ _ _ hk) (by simp only []; omega), ?_⟩
    exact but_cell (Lib.cell_of_heap HX.out 0) (fun k hk => set4_other _ _ _ _ _ _ hk) (by simp only []; omega)
  · have hge : w.heap.size ≤ w.heap.size + 1 := Nat.le_succ _
    exact (((HL.out.setCell (p := ⟨w.heap.size + 1, 0, none⟩) hge _).setCell (p := ⟨w.heap.size + 1, 1, none⟩) hge _).setCell (p := ⟨w.heap.size + 1, 2, none⟩) hge _).setCell (p := ⟨w.heap.size + 1, 3, none⟩) hge _

theorem num_lit (name : ByteArray) (least most : Int) (kinds : ByteArray) (F : FuncId) (w : World) : Calls Tryz.prog 61 #[.int .i64 least, .int .i64 most, .string kinds, .func (.func F) #[] #[]] w fun e w' => ∃ v, e = .returned (.agg #[.int .i64 least, .int .i64 most, .string kinds, v]) ∧ RowFn w' v ⟨name, least, most, kinds, true, F⟩ ∧ Below w.heap.size w w' := num_row ⟨name, least, most, kinds, true, F⟩ rfl w
theorem entry_lit (name : ByteArray) (least most : Int) (kinds : ByteArray) (F : FuncId) (w : World) : Calls Tryz.prog 89 #[.int .i64 least, .int .i64 most, .string kinds, .func (.func F) #[] #[]] w fun e w' => ∃ v, e = .returned (.agg #[.int .i64 least, .int .i64 most, .string kinds, v]) ∧ RowFn w' v ⟨name, least, most, kinds, false, F⟩ ∧ Below w.heap.size w w' := entry_row ⟨name, least, most, kinds, false, F⟩ rfl w
def freshB (s : ByteArray) (l : List Row) : Bool := l.all fun r => !(s == r.name)
theorem fresh_of {s : ByteArray} {l : List Row} (h : freshB s l = true) : Fresh s l := by
  intro r hr
  unfold freshB at h
  have := List.all_eq_true.1 h r hr
  simpa using this
theorem below_map {w W W' : World} {b : Nat} (h : Below w.heap.size w W) (hb : w.heap.size ≤ b) (hg : W.grownBy W' (some b)) : Below w.heap.size w W' := h.trans (below_of_only hg hb h.size)

def allRows : List Row := [⟨{ data := #[65, 66, 83] }, 1, 1, { data := #[115] }, true, 62⟩,
  ⟨{ data := #[83, 73, 71, 78] }, 1, 1, { data := #[115] }, true, 64⟩,
  ⟨{ data := #[73, 78, 84] }, 1, 1, { data := #[115] }, true, 66⟩,
  ⟨{ data := #[82, 79, 85, 78, 68] }, 2, 2, { data := #[115] }, true, 68⟩,
  ⟨{ data := #[82, 79, 85, 78, 68, 85, 80] }, 2, 2, { data := #[115] }, true, 69⟩,
  ⟨{ data := #[82, 79, 85, 78, 68, 68, 79, 87, 78] }, 2, 2, { data := #[115] }, true, 71⟩,
  ⟨{ data := #[84, 82, 85, 78, 67] }, 1, 2, { data := #[115] }, true, 72⟩,
  ⟨{ data := #[77, 82, 79, 85, 78, 68] }, 2, 2, { data := #[115] }, true, 73⟩,
  ⟨{ data := #[67, 69, 73, 76, 73, 78, 71] }, 2, 2, { data := #[115] }, true, 76⟩,
  ⟨{ data := #[70, 76, 79, 79, 82] }, 2, 2, { data := #[115] }, true, 78⟩,
  ⟨{ data := #[69, 86, 69, 78] }, 1, 1, { data := #[115] }, true, 79⟩,
  ⟨{ data := #[79, 68, 68] }, 1, 1, { data := #[115] }, true, 81⟩,
  ⟨{ data := #[77, 79, 68] }, 2, 2, { data := #[115] }, true, 82⟩,
  ⟨{ data := #[81, 85, 79, 84, 73, 69, 78, 84] }, 2, 2, { data := #[115] }, true, 83⟩,
  ⟨{ data := #[80, 79, 87, 69, 82] }, 2, 2, { data := #[115] }, true, 86⟩,
  ⟨{ data := #[83, 81, 82, 84] }, 1, 1, { data := #[115] }, true, 88⟩,
  ⟨{ data := #[78] }, 1, 1, { data := #[115] }, false, 90⟩,
  ⟨{ data := #[83, 85, 77] }, 1, 255, { data := #[97] }, true, 151⟩,
  ⟨{ data := #[80, 82, 79, 68, 85, 67, 84] }, 1, 255, { data := #[97] }, true, 154⟩,
  ⟨{ data := #[83, 85, 77, 83, 81] }, 1, 255, { data := #[97] }, true, 155⟩,
  ⟨{ data := #[83, 85, 77, 80, 82, 79, 68, 85, 67, 84] }, 1, 255, { data := #[97] }, true, 156⟩,
  ⟨{ data := #[83, 85, 77, 88, 50, 77, 89, 50] }, 2, 2, { data := #[97] }, true, 157⟩,
  ⟨{ data := #[83, 85, 77, 88, 50, 80, 89, 50] }, 2, 2, { data := #[97] }, true, 160⟩,
  ⟨{ data := #[83, 85, 77, 88, 77, 89, 50] }, 2, 2, { data := #[97] }, true, 162⟩,
  ⟨{ data := #[83, 69, 82, 73, 69, 83, 83, 85, 77] }, 4, 4, { data := #[115, 115, 115, 97] }, true, 164⟩,
  ⟨{ data := #[71, 67, 68] }, 1, 255, { data := #[97] }, true, 165⟩,
  ⟨{ data := #[76, 67, 77] }, 1, 255, { data := #[97] }, true, 168⟩,
  ⟨{ data := #[70, 65, 67, 84] }, 1, 1, { data := #[115] }, true, 169⟩,
  ⟨{ data := #[67, 79, 77, 66, 73, 78] }, 2, 2, { data := #[115] }, true, 172⟩,
  ⟨{ data := #[80, 69, 82, 77, 85, 84] }, 2, 2, { data := #[115] }, true, 174⟩,
  ⟨{ data := #[77, 85, 76, 84, 73, 78, 79, 77, 73, 65, 76] }, 1, 255, { data := #[97] }, true, 175⟩,
  ⟨{ data := #[83, 69, 81, 85, 69, 78, 67, 69] }, 1, 4, { data := #[115] }, false, 176⟩,
  ⟨{ data := #[77, 85, 78, 73, 84] }, 1, 1, { data := #[115] }, false, 177⟩,
  ⟨{ data := #[77, 77, 85, 76, 84] }, 2, 2, { data := #[97] }, false, 180⟩,
  ⟨{ data := #[77, 68, 69, 84, 69, 82, 77] }, 1, 1, { data := #[97] }, true, 181⟩,
  ⟨{ data := #[77, 73, 78, 86, 69, 82, 83, 69] }, 1, 1, { data := #[97] }, false, 184⟩,
  ⟨{ data := #[66, 65, 83, 69] }, 2, 3, { data := #[115] }, false, 185⟩,
  ⟨{ data := #[68, 69, 67, 73, 77, 65, 76] }, 2, 2, { data := #[115] }, true, 186⟩,
  ⟨{ data := #[82, 79, 77, 65, 78] }, 1, 1, { data := #[115] }, false, 187⟩,
  ⟨{ data := #[65, 82, 65, 66, 73, 67] }, 1, 1, { data := #[115] }, true, 189⟩]
set_option maxHeartbeats 8000000 in
set_option maxRecDepth 100000 in
theorem sums_part (b : Nat) (w : World) (h : TableAt w b (allRows.take 17)) : Calls Tryz.prog 91 #[.map (some b)] w fun e w' => e = .returned (.tuple #[]) ∧ TableAt w' b (allRows.take 25) ∧ w.grownBy w' (some b) := by
  have TA := Lib.hid h
  have HL := Lib.hid (only_refl w (some b))
  clear h
  go_enter Tryz.func91, Tryz.ntmps91
  go_wp2_with fail
  refine (num_lit { data := #[83, 85, 77] } 1 255 { data := #[97] } 151 _).mono ?_
  rintro e W17 ⟨v, rfl, hr, hb⟩
  have RF := Lib.hid hr
  replace TA := Lib.hid (TA.out.below hb)
  replace HL := Lib.hid (kept_trans HL.out (kept_below hb))
  clear hr hb
  go_wp2_with (first | (refine wpList_insert_row _ rfl _ _ _ _ (.inr rfl) rfl TA.out ⟨{ data := #[83, 85, 77] }, 1, 255, { data := #[97] }, true, 151⟩ v rfl rfl RF.out (fresh_of (by kernel_rfl)) Tryz.underlying36 Tryz.underlying9 ?_; intro V17 ta hg; replace TA := Lib.hid (show TableAt V17 _ (allRows.take 18) from ta); replace HL := Lib.hid (kept_trans HL.out hg); clear ta hg RF))
  go_wp2_with fail
  refine (num_lit { data := #[80, 82, 79, 68, 85, 67, 84] } 1 255 { data := #[97] } 154 _).mono ?_
  rintro e W18 ⟨v, rfl, hr, hb⟩
  have RF := Lib.hid hr
  replace TA := Lib.hid (TA.out.below hb)
  replace HL := Lib.hid (kept_trans HL.out (kept_below hb))
  clear hr hb
  go_wp2_with (first | (refine wpList_insert_row _ rfl _ _ _ _ (.inr rfl) rfl TA.out ⟨{ data := #[80, 82, 79, 68, 85, 67, 84] }, 1, 255, { data := #[97] }, true, 154⟩ v rfl rfl RF.out (fresh_of (by kernel_rfl)) Tryz.underlying36 Tryz.underlying9 ?_; intro V18 ta hg; replace TA := Lib.hid (show TableAt V18 _ (allRows.take 19) from ta); replace HL := Lib.hid (kept_trans HL.out hg); clear ta hg RF))
  go_wp2_with fail
  refine (num_lit { data := #[83, 85, 77, 83, 81] } 1 255 { data := #[97] } 155 _).mono ?_
  rintro e W19 ⟨v, rfl, hr, hb⟩
  have RF := Lib.hid hr
  replace TA := Lib.hid (TA.out.below hb)
  replace HL := Lib.hid (kept_trans HL.out (kept_below hb))
  clear hr hb
  go_wp2_with (first | (refine wpList_insert_row _ rfl _ _ _ _ (.inr rfl) rfl TA.out ⟨{ data := #[83, 85, 77, 83, 81] }, 1, 255, { data := #[97] }, true, 155⟩ v rfl rfl RF.out (fresh_of (by kernel_rfl)) Tryz.underlying36 Tryz.underlying9 ?_; intro V19 ta hg; replace TA := Lib.hid (show TableAt V19 _ (allRows.take 20) from ta); replace HL := Lib.hid (kept_trans HL.out hg); clear ta hg RF))
  go_wp2_with fail
  refine (num_lit { data := #[83, 85, 77, 80, 82, 79, 68, 85, 67, 84] } 1 255 { data := #[97] } 156 _).mono ?_
  rintro e W20 ⟨v, rfl, hr, hb⟩
  have RF := Lib.hid hr
  replace TA := Lib.hid (TA.out.below hb)
  replace HL := Lib.hid (kept_trans HL.out (kept_below hb))
  clear hr hb
  go_wp2_with (first | (refine wpList_insert_row _ rfl _ _ _ _ (.inr rfl) rfl TA.out ⟨{ data := #[83, 85, 77, 80, 82, 79, 68, 85, 67, 84] }, 1, 255, { data := #[97] }, true, 156⟩ v rfl rfl RF.out (fresh_of (by kernel_rfl)) Tryz.underlying36 Tryz.underlying9 ?_; intro V20 ta hg; replace TA := Lib.hid (show TableAt V20 _ (allRows.take 21) from ta); replace HL := Lib.hid (kept_trans HL.out hg); clear ta hg RF))
  go_wp2_with fail
  refine (num_lit { data := #[83, 85, 77, 88, 50, 77, 89, 50] } 2 2 { data := #[97] } 157 _).mono ?_
  rintro e W21 ⟨v, rfl, hr, hb⟩
  have RF := Lib.hid hr
  replace TA := Lib.hid (TA.out.below hb)
  replace HL := Lib.hid (kept_trans HL.out (kept_below hb))
  clear hr hb
  go_wp2_with (first | (refine wpList_insert_row _ rfl _ _ _ _ (.inr rfl) rfl TA.out ⟨{ data := #[83, 85, 77, 88, 50, 77, 89, 50] }, 2, 2, { data := #[97] }, true, 157⟩ v rfl rfl RF.out (fresh_of (by kernel_rfl)) Tryz.underlying36 Tryz.underlying9 ?_; intro V21 ta hg; replace TA := Lib.hid (show TableAt V21 _ (allRows.take 22) from ta); replace HL := Lib.hid (kept_trans HL.out hg); clear ta hg RF))
  go_wp2_with fail
  refine (num_lit { data := #[83, 85, 77, 88, 50, 80, 89, 50] } 2 2 { data := #[97] } 160 _).mono ?_
  rintro e W22 ⟨v, rfl, hr, hb⟩
  have RF := Lib.hid hr
  replace TA := Lib.hid (TA.out.below hb)
  replace HL := Lib.hid (kept_trans HL.out (kept_below hb))
  clear hr hb
  go_wp2_with (first | (refine wpList_insert_row _ rfl _ _ _ _ (.inr rfl) rfl TA.out ⟨{ data := #[83, 85, 77, 88, 50, 80, 89, 50] }, 2, 2, { data := #[97] }, true, 160⟩ v rfl rfl RF.out (fresh_of (by kernel_rfl)) Tryz.underlying36 Tryz.underlying9 ?_; intro V22 ta hg; replace TA := Lib.hid (show TableAt V22 _ (allRows.take 23) from ta); replace HL := Lib.hid (kept_trans HL.out hg); clear ta hg RF))
  go_wp2_with fail
  refine (num_lit { data := #[83, 85, 77, 88, 77, 89, 50] } 2 2 { data := #[97] } 162 _).mono ?_
  rintro e W23 ⟨v, rfl, hr, hb⟩
  have RF := Lib.hid hr
  replace TA := Lib.hid (TA.out.below hb)
  replace HL := Lib.hid (kept_trans HL.out (kept_below hb))
  clear hr hb
  go_wp2_with (first | (refine wpList_insert_row _ rfl _ _ _ _ (.inr rfl) rfl TA.out ⟨{ data := #[83, 85, 77, 88, 77, 89, 50] }, 2, 2, { data := #[97] }, true, 162⟩ v rfl rfl RF.out (fresh_of (by kernel_rfl)) Tryz.underlying36 Tryz.underlying9 ?_; intro V23 ta hg; replace TA := Lib.hid (show TableAt V23 _ (allRows.take 24) from ta); replace HL := Lib.hid (kept_trans HL.out hg); clear ta hg RF))
  go_wp2_with fail
  refine (num_lit { data := #[83, 69, 82, 73, 69, 83, 83, 85, 77] } 4 4 { data := #[115, 115, 115, 97] } 164 _).mono ?_
  rintro e W24 ⟨v, rfl, hr, hb⟩
  have RF := Lib.hid hr
  replace TA := Lib.hid (TA.out.below hb)
  replace HL := Lib.hid (kept_trans HL.out (kept_below hb))
  clear hr hb
  go_wp2_with (first | (refine wpList_insert_row _ rfl _ _ _ _ (.inr rfl) rfl TA.out ⟨{ data := #[83, 69, 82, 73, 69, 83, 83, 85, 77] }, 4, 4, { data := #[115, 115, 115, 97] }, true, 164⟩ v rfl rfl RF.out (fresh_of (by kernel_rfl)) Tryz.underlying36 Tryz.underlying9 ?_; intro V24 ta hg; replace TA := Lib.hid (show TableAt V24 _ (allRows.take 25) from ta); replace HL := Lib.hid (kept_trans HL.out hg); clear ta hg RF))
  go_wp2
  go_end0
  exact ⟨rfl, TA.out, HL.out⟩

set_option maxHeartbeats 8000000 in
set_option maxRecDepth 100000 in
theorem counts_part (b : Nat) (w : World) (h : TableAt w b (allRows.take 25)) : Calls Tryz.prog 92 #[.map (some b)] w fun e w' => e = .returned (.tuple #[]) ∧ TableAt w' b (allRows.take 31) ∧ w.grownBy w' (some b) := by
  have TA := Lib.hid h
  have HL := Lib.hid (only_refl w (some b))
  clear h
  go_enter Tryz.func92, Tryz.ntmps92
  go_wp2_with fail
  refine (num_lit { data := #[71, 67, 68] } 1 255 { data := #[97] } 165 _).mono ?_
  rintro e W25 ⟨v, rfl, hr, hb⟩
  have RF := Lib.hid hr
  replace TA := Lib.hid (TA.out.below hb)
  replace HL := Lib.hid (kept_trans HL.out (kept_below hb))
  clear hr hb
  go_wp2_with (first | (refine wpList_insert_row _ rfl _ _ _ _ (.inr rfl) rfl TA.out ⟨{ data := #[71, 67, 68] }, 1, 255, { data := #[97] }, true, 165⟩ v rfl rfl RF.out (fresh_of (by kernel_rfl)) Tryz.underlying36 Tryz.underlying9 ?_; intro V25 ta hg; replace TA := Lib.hid (show TableAt V25 _ (allRows.take 26) from ta); replace HL := Lib.hid (kept_trans HL.out hg); clear ta hg RF))
  go_wp2_with fail
  refine (num_lit { data := #[76, 67, 77] } 1 255 { data := #[97] } 168 _).mono ?_
  rintro e W26 ⟨v, rfl, hr, hb⟩
  have RF := Lib.hid hr
  replace TA := Lib.hid (TA.out.below hb)
  replace HL := Lib.hid (kept_trans HL.out (kept_below hb))
  clear hr hb
  go_wp2_with (first | (refine wpList_insert_row _ rfl _ _ _ _ (.inr rfl) rfl TA.out ⟨{ data := #[76, 67, 77] }, 1, 255, { data := #[97] }, true, 168⟩ v rfl rfl RF.out (fresh_of (by kernel_rfl)) Tryz.underlying36 Tryz.underlying9 ?_; intro V26 ta hg; replace TA := Lib.hid (show TableAt V26 _ (allRows.take 27) from ta); replace HL := Lib.hid (kept_trans HL.out hg); clear ta hg RF))
  go_wp2_with fail
  refine (num_lit { data := #[70, 65, 67, 84] } 1 1 { data := #[115] } 169 _).mono ?_
  rintro e W27 ⟨v, rfl, hr, hb⟩
  have RF := Lib.hid hr
  replace TA := Lib.hid (TA.out.below hb)
  replace HL := Lib.hid (kept_trans HL.out (kept_below hb))
  clear hr hb
  go_wp2_with (first | (refine wpList_insert_row _ rfl _ _ _ _ (.inr rfl) rfl TA.out ⟨{ data := #[70, 65, 67, 84] }, 1, 1, { data := #[115] }, true, 169⟩ v rfl rfl RF.out (fresh_of (by kernel_rfl)) Tryz.underlying36 Tryz.underlying9 ?_; intro V27 ta hg; replace TA := Lib.hid (show TableAt V27 _ (allRows.take 28) from ta); replace HL := Lib.hid (kept_trans HL.out hg); clear ta hg RF))
  go_wp2_with fail
  refine (num_lit { data := #[67, 79, 77, 66, 73, 78] } 2 2 { data := #[115] } 172 _).mono ?_
  rintro e W28 ⟨v, rfl, hr, hb⟩
  have RF := Lib.hid hr
  replace TA := Lib.hid (TA.out.below hb)
  replace HL := Lib.hid (kept_trans HL.out (kept_below hb))
  clear hr hb
  go_wp2_with (first | (refine wpList_insert_row _ rfl _ _ _ _ (.inr rfl) rfl TA.out ⟨{ data := #[67, 79, 77, 66, 73, 78] }, 2, 2, { data := #[115] }, true, 172⟩ v rfl rfl RF.out (fresh_of (by kernel_rfl)) Tryz.underlying36 Tryz.underlying9 ?_; intro V28 ta hg; replace TA := Lib.hid (show TableAt V28 _ (allRows.take 29) from ta); replace HL := Lib.hid (kept_trans HL.out hg); clear ta hg RF))
  go_wp2_with fail
  refine (num_lit { data := #[80, 69, 82, 77, 85, 84] } 2 2 { data := #[115] } 174 _).mono ?_
  rintro e W29 ⟨v, rfl, hr, hb⟩
  have RF := Lib.hid hr
  replace TA := Lib.hid (TA.out.below hb)
  replace HL := Lib.hid (kept_trans HL.out (kept_below hb))
  clear hr hb
  go_wp2_with (first | (refine wpList_insert_row _ rfl _ _ _ _ (.inr rfl) rfl TA.out ⟨{ data := #[80, 69, 82, 77, 85, 84] }, 2, 2, { data := #[115] }, true, 174⟩ v rfl rfl RF.out (fresh_of (by kernel_rfl)) Tryz.underlying36 Tryz.underlying9 ?_; intro V29 ta hg; replace TA := Lib.hid (show TableAt V29 _ (allRows.take 30) from ta); replace HL := Lib.hid (kept_trans HL.out hg); clear ta hg RF))
  go_wp2_with fail
  refine (num_lit { data := #[77, 85, 76, 84, 73, 78, 79, 77, 73, 65, 76] } 1 255 { data := #[97] } 175 _).mono ?_
  rintro e W30 ⟨v, rfl, hr, hb⟩
  have RF := Lib.hid hr
  replace TA := Lib.hid (TA.out.below hb)
  replace HL := Lib.hid (kept_trans HL.out (kept_below hb))
  clear hr hb
  go_wp2_with (first | (refine wpList_insert_row _ rfl _ _ _ _ (.inr rfl) rfl TA.out ⟨{ data := #[77, 85, 76, 84, 73, 78, 79, 77, 73, 65, 76] }, 1, 255, { data := #[97] }, true, 175⟩ v rfl rfl RF.out (fresh_of (by kernel_rfl)) Tryz.underlying36 Tryz.underlying9 ?_; intro V30 ta hg; replace TA := Lib.hid (show TableAt V30 _ (allRows.take 31) from ta); replace HL := Lib.hid (kept_trans HL.out hg); clear ta hg RF))
  go_wp2
  go_end0
  exact ⟨rfl, TA.out, HL.out⟩

set_option maxHeartbeats 8000000 in
set_option maxRecDepth 100000 in
theorem matrices_part (b : Nat) (w : World) (h : TableAt w b (allRows.take 31)) : Calls Tryz.prog 93 #[.map (some b)] w fun e w' => e = .returned (.tuple #[]) ∧ TableAt w' b (allRows.take 36) ∧ w.grownBy w' (some b) := by
  have TA := Lib.hid h
  have HL := Lib.hid (only_refl w (some b))
  clear h
  go_enter Tryz.func93, Tryz.ntmps93
  go_wp2_with fail
  refine (entry_lit { data := #[83, 69, 81, 85, 69, 78, 67, 69] } 1 4 { data := #[115] } 176 _).mono ?_
  rintro e W31 ⟨v, rfl, hr, hb⟩
  have RF := Lib.hid hr
  replace TA := Lib.hid (TA.out.below hb)
  replace HL := Lib.hid (kept_trans HL.out (kept_below hb))
  clear hr hb
  go_wp2_with (first | (refine wpList_insert_row _ rfl _ _ _ _ (.inr rfl) rfl TA.out ⟨{ data := #[83, 69, 81, 85, 69, 78, 67, 69] }, 1, 4, { data := #[115] }, false, 176⟩ v rfl rfl RF.out (fresh_of (by kernel_rfl)) Tryz.underlying36 Tryz.underlying9 ?_; intro V31 ta hg; replace TA := Lib.hid (show TableAt V31 _ (allRows.take 32) from ta); replace HL := Lib.hid (kept_trans HL.out hg); clear ta hg RF))
  go_wp2_with fail
  refine (entry_lit { data := #[77, 85, 78, 73, 84] } 1 1 { data := #[115] } 177 _).mono ?_
  rintro e W32 ⟨v, rfl, hr, hb⟩
  have RF := Lib.hid hr
  replace TA := Lib.hid (TA.out.below hb)
  replace HL := Lib.hid (kept_trans HL.out (kept_below hb))
  clear hr hb
  go_wp2_with (first | (refine wpList_insert_row _ rfl _ _ _ _ (.inr rfl) rfl TA.out ⟨{ data := #[77, 85, 78, 73, 84] }, 1, 1, { data := #[115] }, false, 177⟩ v rfl rfl RF.out (fresh_of (by kernel_rfl)) Tryz.underlying36 Tryz.underlying9 ?_; intro V32 ta hg; replace TA := Lib.hid (show TableAt V32 _ (allRows.take 33) from ta); replace HL := Lib.hid (kept_trans HL.out hg); clear ta hg RF))
  go_wp2_with fail
  refine (entry_lit { data := #[77, 77, 85, 76, 84] } 2 2 { data := #[97] } 180 _).mono ?_
  rintro e W33 ⟨v, rfl, hr, hb⟩
  have RF := Lib.hid hr
  replace TA := Lib.hid (TA.out.below hb)
  replace HL := Lib.hid (kept_trans HL.out (kept_below hb))
  clear hr hb
  go_wp2_with (first | (refine wpList_insert_row _ rfl _ _ _ _ (.inr rfl) rfl TA.out ⟨{ data := #[77, 77, 85, 76, 84] }, 2, 2, { data := #[97] }, false, 180⟩ v rfl rfl RF.out (fresh_of (by kernel_rfl)) Tryz.underlying36 Tryz.underlying9 ?_; intro V33 ta hg; replace TA := Lib.hid (show TableAt V33 _ (allRows.take 34) from ta); replace HL := Lib.hid (kept_trans HL.out hg); clear ta hg RF))
  go_wp2_with fail
  refine (num_lit { data := #[77, 68, 69, 84, 69, 82, 77] } 1 1 { data := #[97] } 181 _).mono ?_
  rintro e W34 ⟨v, rfl, hr, hb⟩
  have RF := Lib.hid hr
  replace TA := Lib.hid (TA.out.below hb)
  replace HL := Lib.hid (kept_trans HL.out (kept_below hb))
  clear hr hb
  go_wp2_with (first | (refine wpList_insert_row _ rfl _ _ _ _ (.inr rfl) rfl TA.out ⟨{ data := #[77, 68, 69, 84, 69, 82, 77] }, 1, 1, { data := #[97] }, true, 181⟩ v rfl rfl RF.out (fresh_of (by kernel_rfl)) Tryz.underlying36 Tryz.underlying9 ?_; intro V34 ta hg; replace TA := Lib.hid (show TableAt V34 _ (allRows.take 35) from ta); replace HL := Lib.hid (kept_trans HL.out hg); clear ta hg RF))
  go_wp2_with fail
  refine (entry_lit { data := #[77, 73, 78, 86, 69, 82, 83, 69] } 1 1 { data := #[97] } 184 _).mono ?_
  rintro e W35 ⟨v, rfl, hr, hb⟩
  have RF := Lib.hid hr
  replace TA := Lib.hid (TA.out.below hb)
  replace HL := Lib.hid (kept_trans HL.out (kept_below hb))
  clear hr hb
  go_wp2_with (first | (refine wpList_insert_row _ rfl _ _ _ _ (.inr rfl) rfl TA.out ⟨{ data := #[77, 73, 78, 86, 69, 82, 83, 69] }, 1, 1, { data := #[97] }, false, 184⟩ v rfl rfl RF.out (fresh_of (by kernel_rfl)) Tryz.underlying36 Tryz.underlying9 ?_; intro V35 ta hg; replace TA := Lib.hid (show TableAt V35 _ (allRows.take 36) from ta); replace HL := Lib.hid (kept_trans HL.out hg); clear ta hg RF))
  go_wp2
  go_end0
  exact ⟨rfl, TA.out, HL.out⟩

set_option maxHeartbeats 8000000 in
set_option maxRecDepth 100000 in
theorem texts_part (b : Nat) (w : World) (h : TableAt w b (allRows.take 36)) : Calls Tryz.prog 94 #[.map (some b)] w fun e w' => e = .returned (.tuple #[]) ∧ TableAt w' b (allRows.take 40) ∧ w.grownBy w' (some b) := by
  have TA := Lib.hid h
  have HL := Lib.hid (only_refl w (some b))
  clear h
  go_enter Tryz.func94, Tryz.ntmps94
  go_wp2_with fail
  refine (entry_lit { data := #[66, 65, 83, 69] } 2 3 { data := #[115] } 185 _).mono ?_
  rintro e W36 ⟨v, rfl, hr, hb⟩
  have RF := Lib.hid hr
  replace TA := Lib.hid (TA.out.below hb)
  replace HL := Lib.hid (kept_trans HL.out (kept_below hb))
  clear hr hb
  go_wp2_with (first | (refine wpList_insert_row _ rfl _ _ _ _ (.inr rfl) rfl TA.out ⟨{ data := #[66, 65, 83, 69] }, 2, 3, { data := #[115] }, false, 185⟩ v rfl rfl RF.out (fresh_of (by kernel_rfl)) Tryz.underlying36 Tryz.underlying9 ?_; intro V36 ta hg; replace TA := Lib.hid (show TableAt V36 _ (allRows.take 37) from ta); replace HL := Lib.hid (kept_trans HL.out hg); clear ta hg RF))
  go_wp2_with fail
  refine (num_lit { data := #[68, 69, 67, 73, 77, 65, 76] } 2 2 { data := #[115] } 186 _).mono ?_
  rintro e W37 ⟨v, rfl, hr, hb⟩
  have RF := Lib.hid hr
  replace TA := Lib.hid (TA.out.below hb)
  replace HL := Lib.hid (kept_trans HL.out (kept_below hb))
  clear hr hb
  go_wp2_with (first | (refine wpList_insert_row _ rfl _ _ _ _ (.inr rfl) rfl TA.out ⟨{ data := #[68, 69, 67, 73, 77, 65, 76] }, 2, 2, { data := #[115] }, true, 186⟩ v rfl rfl RF.out (fresh_of (by kernel_rfl)) Tryz.underlying36 Tryz.underlying9 ?_; intro V37 ta hg; replace TA := Lib.hid (show TableAt V37 _ (allRows.take 38) from ta); replace HL := Lib.hid (kept_trans HL.out hg); clear ta hg RF))
  go_wp2_with fail
  refine (entry_lit { data := #[82, 79, 77, 65, 78] } 1 1 { data := #[115] } 187 _).mono ?_
  rintro e W38 ⟨v, rfl, hr, hb⟩
  have RF := Lib.hid hr
  replace TA := Lib.hid (TA.out.below hb)
  replace HL := Lib.hid (kept_trans HL.out (kept_below hb))
  clear hr hb
  go_wp2_with (first | (refine wpList_insert_row _ rfl _ _ _ _ (.inr rfl) rfl TA.out ⟨{ data := #[82, 79, 77, 65, 78] }, 1, 1, { data := #[115] }, false, 187⟩ v rfl rfl RF.out (fresh_of (by kernel_rfl)) Tryz.underlying36 Tryz.underlying9 ?_; intro V38 ta hg; replace TA := Lib.hid (show TableAt V38 _ (allRows.take 39) from ta); replace HL := Lib.hid (kept_trans HL.out hg); clear ta hg RF))
  go_wp2_with fail
  refine (num_lit { data := #[65, 82, 65, 66, 73, 67] } 1 1 { data := #[115] } 189 _).mono ?_
  rintro e W39 ⟨v, rfl, hr, hb⟩
  have RF := Lib.hid hr
  replace TA := Lib.hid (TA.out.below hb)
  replace HL := Lib.hid (kept_trans HL.out (kept_below hb))
  clear hr hb
  go_wp2_with (first | (refine wpList_insert_row _ rfl _ _ _ _ (.inr rfl) rfl TA.out ⟨{ data := #[65, 82, 65, 66, 73, 67] }, 1, 1, { data := #[115] }, true, 189⟩ v rfl rfl RF.out (fresh_of (by kernel_rfl)) Tryz.underlying36 Tryz.underlying9 ?_; intro V39 ta hg; replace TA := Lib.hid (show TableAt V39 _ (allRows.take 40) from ta); replace HL := Lib.hid (kept_trans HL.out hg); clear ta hg RF))
  go_wp2
  go_end0
  exact ⟨rfl, TA.out, HL.out⟩

set_option maxHeartbeats 8000000 in
set_option maxRecDepth 100000 in
theorem table_any (w : World) : Calls Tryz.prog 14 #[] w fun e w' => ∃ b, e = .returned (.map (some b)) ∧ TableAt w' b allRows ∧ Below w.heap.size w w' := by
  have hmm := @run_makeMap Tryz.prog
  have TA := Lib.hid (show TableAt (w.alloc (.map #[] 0)) w.heap.size (allRows.take 0) from TableAt.made w)
  have HL := Lib.hid (show Below w.heap.size w (w.alloc (.map #[] 0)) from (Below.refl _ _).alloc (Nat.le_refl _) _)
  go_enter Tryz.func14, Tryz.ntmps14
  go_wp2_with fail
  refine (num_lit { data := #[65, 66, 83] } 1 1 { data := #[115] } 62 _).mono ?_
  rintro e W0 ⟨v, rfl, hr, hb⟩
  have RF := Lib.hid hr
  replace TA := Lib.hid (TA.out.below hb)
  replace HL := Lib.hid (HL.out.trans (hb.mono HL.out.size))
  clear hr hb
  go_wp2_with (first | (refine wpList_insert_row _ rfl _ _ _ _ (.inl rfl) rfl TA.out ⟨{ data := #[65, 66, 83] }, 1, 1, { data := #[115] }, true, 62⟩ v rfl rfl RF.out (fresh_of (by kernel_rfl)) Tryz.underlying36 Tryz.underlying9 ?_; intro V0 ta hg; replace TA := Lib.hid (show TableAt V0 _ (allRows.take 1) from ta); replace HL := Lib.hid (below_map HL.out (Nat.le_refl _) hg); clear ta hg RF))
  go_wp2_with fail
  refine (num_lit { data := #[83, 73, 71, 78] } 1 1 { data := #[115] } 64 _).mono ?_
  rintro e W1 ⟨v, rfl, hr, hb⟩
  have RF := Lib.hid hr
  replace TA := Lib.hid (TA.out.below hb)
  replace HL := Lib.hid (HL.out.trans (hb.mono HL.out.size))
  clear hr hb
  go_wp2_with (first | (refine wpList_insert_row _ rfl _ _ _ _ (.inl rfl) rfl TA.out ⟨{ data := #[83, 73, 71, 78] }, 1, 1, { data := #[115] }, true, 64⟩ v rfl rfl RF.out (fresh_of (by kernel_rfl)) Tryz.underlying36 Tryz.underlying9 ?_; intro V1 ta hg; replace TA := Lib.hid (show TableAt V1 _ (allRows.take 2) from ta); replace HL := Lib.hid (below_map HL.out (Nat.le_refl _) hg); clear ta hg RF))
  go_wp2_with fail
  refine (num_lit { data := #[73, 78, 84] } 1 1 { data := #[115] } 66 _).mono ?_
  rintro e W2 ⟨v, rfl, hr, hb⟩
  have RF := Lib.hid hr
  replace TA := Lib.hid (TA.out.below hb)
  replace HL := Lib.hid (HL.out.trans (hb.mono HL.out.size))
  clear hr hb
  go_wp2_with (first | (refine wpList_insert_row _ rfl _ _ _ _ (.inl rfl) rfl TA.out ⟨{ data := #[73, 78, 84] }, 1, 1, { data := #[115] }, true, 66⟩ v rfl rfl RF.out (fresh_of (by kernel_rfl)) Tryz.underlying36 Tryz.underlying9 ?_; intro V2 ta hg; replace TA := Lib.hid (show TableAt V2 _ (allRows.take 3) from ta); replace HL := Lib.hid (below_map HL.out (Nat.le_refl _) hg); clear ta hg RF))
  go_wp2_with fail
  refine (num_lit { data := #[82, 79, 85, 78, 68] } 2 2 { data := #[115] } 68 _).mono ?_
  rintro e W3 ⟨v, rfl, hr, hb⟩
  have RF := Lib.hid hr
  replace TA := Lib.hid (TA.out.below hb)
  replace HL := Lib.hid (HL.out.trans (hb.mono HL.out.size))
  clear hr hb
  go_wp2_with (first | (refine wpList_insert_row _ rfl _ _ _ _ (.inl rfl) rfl TA.out ⟨{ data := #[82, 79, 85, 78, 68] }, 2, 2, { data := #[115] }, true, 68⟩ v rfl rfl RF.out (fresh_of (by kernel_rfl)) Tryz.underlying36 Tryz.underlying9 ?_; intro V3 ta hg; replace TA := Lib.hid (show TableAt V3 _ (allRows.take 4) from ta); replace HL := Lib.hid (below_map HL.out (Nat.le_refl _) hg); clear ta hg RF))
  go_wp2_with fail
  refine (num_lit { data := #[82, 79, 85, 78, 68, 85, 80] } 2 2 { data := #[115] } 69 _).mono ?_
  rintro e W4 ⟨v, rfl, hr, hb⟩
  have RF := Lib.hid hr
  replace TA := Lib.hid (TA.out.below hb)
  replace HL := Lib.hid (HL.out.trans (hb.mono HL.out.size))
  clear hr hb
  go_wp2_with (first | (refine wpList_insert_row _ rfl _ _ _ _ (.inl rfl) rfl TA.out ⟨{ data := #[82, 79, 85, 78, 68, 85, 80] }, 2, 2, { data := #[115] }, true, 69⟩ v rfl rfl RF.out (fresh_of (by kernel_rfl)) Tryz.underlying36 Tryz.underlying9 ?_; intro V4 ta hg; replace TA := Lib.hid (show TableAt V4 _ (allRows.take 5) from ta); replace HL := Lib.hid (below_map HL.out (Nat.le_refl _) hg); clear ta hg RF))
  go_wp2_with fail
  refine (num_lit { data := #[82, 79, 85, 78, 68, 68, 79, 87, 78] } 2 2 { data := #[115] } 71 _).mono ?_
  rintro e W5 ⟨v, rfl, hr, hb⟩
  have RF := Lib.hid hr
  replace TA := Lib.hid (TA.out.below hb)
  replace HL := Lib.hid (HL.out.trans (hb.mono HL.out.size))
  clear hr hb
  go_wp2_with (first | (refine wpList_insert_row _ rfl _ _ _ _ (.inl rfl) rfl TA.out ⟨{ data := #[82, 79, 85, 78, 68, 68, 79, 87, 78] }, 2, 2, { data := #[115] }, true, 71⟩ v rfl rfl RF.out (fresh_of (by kernel_rfl)) Tryz.underlying36 Tryz.underlying9 ?_; intro V5 ta hg; replace TA := Lib.hid (show TableAt V5 _ (allRows.take 6) from ta); replace HL := Lib.hid (below_map HL.out (Nat.le_refl _) hg); clear ta hg RF))
  go_wp2_with fail
  refine (num_lit { data := #[84, 82, 85, 78, 67] } 1 2 { data := #[115] } 72 _).mono ?_
  rintro e W6 ⟨v, rfl, hr, hb⟩
  have RF := Lib.hid hr
  replace TA := Lib.hid (TA.out.below hb)
  replace HL := Lib.hid (HL.out.trans (hb.mono HL.out.size))
  clear hr hb
  go_wp2_with (first | (refine wpList_insert_row _ rfl _ _ _ _ (.inl rfl) rfl TA.out ⟨{ data := #[84, 82, 85, 78, 67] }, 1, 2, { data := #[115] }, true, 72⟩ v rfl rfl RF.out (fresh_of (by kernel_rfl)) Tryz.underlying36 Tryz.underlying9 ?_; intro V6 ta hg; replace TA := Lib.hid (show TableAt V6 _ (allRows.take 7) from ta); replace HL := Lib.hid (below_map HL.out (Nat.le_refl _) hg); clear ta hg RF))
  go_wp2_with fail
  refine (num_lit { data := #[77, 82, 79, 85, 78, 68] } 2 2 { data := #[115] } 73 _).mono ?_
  rintro e W7 ⟨v, rfl, hr, hb⟩
  have RF := Lib.hid hr
  replace TA := Lib.hid (TA.out.below hb)
  replace HL := Lib.hid (HL.out.trans (hb.mono HL.out.size))
  clear hr hb
  go_wp2_with (first | (refine wpList_insert_row _ rfl _ _ _ _ (.inl rfl) rfl TA.out ⟨{ data := #[77, 82, 79, 85, 78, 68] }, 2, 2, { data := #[115] }, true, 73⟩ v rfl rfl RF.out (fresh_of (by kernel_rfl)) Tryz.underlying36 Tryz.underlying9 ?_; intro V7 ta hg; replace TA := Lib.hid (show TableAt V7 _ (allRows.take 8) from ta); replace HL := Lib.hid (below_map HL.out (Nat.le_refl _) hg); clear ta hg RF))
  go_wp2_with fail
  refine (num_lit { data := #[67, 69, 73, 76, 73, 78, 71] } 2 2 { data := #[115] } 76 _).mono ?_
  rintro e W8 ⟨v, rfl, hr, hb⟩
  have RF := Lib.hid hr
  replace TA := Lib.hid (TA.out.below hb)
  replace HL := Lib.hid (HL.out.trans (hb.mono HL.out.size))
  clear hr hb
  go_wp2_with (first | (refine wpList_insert_row _ rfl _ _ _ _ (.inl rfl) rfl TA.out ⟨{ data := #[67, 69, 73, 76, 73, 78, 71] }, 2, 2, { data := #[115] }, true, 76⟩ v rfl rfl RF.out (fresh_of (by kernel_rfl)) Tryz.underlying36 Tryz.underlying9 ?_; intro V8 ta hg; replace TA := Lib.hid (show TableAt V8 _ (allRows.take 9) from ta); replace HL := Lib.hid (below_map HL.out (Nat.le_refl _) hg); clear ta hg RF))
  go_wp2_with fail
  refine (num_lit { data := #[70, 76, 79, 79, 82] } 2 2 { data := #[115] } 78 _).mono ?_
  rintro e W9 ⟨v, rfl, hr, hb⟩
  have RF := Lib.hid hr
  replace TA := Lib.hid (TA.out.below hb)
  replace HL := Lib.hid (HL.out.trans (hb.mono HL.out.size))
  clear hr hb
  go_wp2_with (first | (refine wpList_insert_row _ rfl _ _ _ _ (.inl rfl) rfl TA.out ⟨{ data := #[70, 76, 79, 79, 82] }, 2, 2, { data := #[115] }, true, 78⟩ v rfl rfl RF.out (fresh_of (by kernel_rfl)) Tryz.underlying36 Tryz.underlying9 ?_; intro V9 ta hg; replace TA := Lib.hid (show TableAt V9 _ (allRows.take 10) from ta); replace HL := Lib.hid (below_map HL.out (Nat.le_refl _) hg); clear ta hg RF))
  go_wp2_with fail
  refine (num_lit { data := #[69, 86, 69, 78] } 1 1 { data := #[115] } 79 _).mono ?_
  rintro e W10 ⟨v, rfl, hr, hb⟩
  have RF := Lib.hid hr
  replace TA := Lib.hid (TA.out.below hb)
  replace HL := Lib.hid (HL.out.trans (hb.mono HL.out.size))
  clear hr hb
  go_wp2_with (first | (refine wpList_insert_row _ rfl _ _ _ _ (.inl rfl) rfl TA.out ⟨{ data := #[69, 86, 69, 78] }, 1, 1, { data := #[115] }, true, 79⟩ v rfl rfl RF.out (fresh_of (by kernel_rfl)) Tryz.underlying36 Tryz.underlying9 ?_; intro V10 ta hg; replace TA := Lib.hid (show TableAt V10 _ (allRows.take 11) from ta); replace HL := Lib.hid (below_map HL.out (Nat.le_refl _) hg); clear ta hg RF))
  go_wp2_with fail
  refine (num_lit { data := #[79, 68, 68] } 1 1 { data := #[115] } 81 _).mono ?_
  rintro e W11 ⟨v, rfl, hr, hb⟩
  have RF := Lib.hid hr
  replace TA := Lib.hid (TA.out.below hb)
  replace HL := Lib.hid (HL.out.trans (hb.mono HL.out.size))
  clear hr hb
  go_wp2_with (first | (refine wpList_insert_row _ rfl _ _ _ _ (.inl rfl) rfl TA.out ⟨{ data := #[79, 68, 68] }, 1, 1, { data := #[115] }, true, 81⟩ v rfl rfl RF.out (fresh_of (by kernel_rfl)) Tryz.underlying36 Tryz.underlying9 ?_; intro V11 ta hg; replace TA := Lib.hid (show TableAt V11 _ (allRows.take 12) from ta); replace HL := Lib.hid (below_map HL.out (Nat.le_refl _) hg); clear ta hg RF))
  go_wp2_with fail
  refine (num_lit { data := #[77, 79, 68] } 2 2 { data := #[115] } 82 _).mono ?_
  rintro e W12 ⟨v, rfl, hr, hb⟩
  have RF := Lib.hid hr
  replace TA := Lib.hid (TA.out.below hb)
  replace HL := Lib.hid (HL.out.trans (hb.mono HL.out.size))
  clear hr hb
  go_wp2_with (first | (refine wpList_insert_row _ rfl _ _ _ _ (.inl rfl) rfl TA.out ⟨{ data := #[77, 79, 68] }, 2, 2, { data := #[115] }, true, 82⟩ v rfl rfl RF.out (fresh_of (by kernel_rfl)) Tryz.underlying36 Tryz.underlying9 ?_; intro V12 ta hg; replace TA := Lib.hid (show TableAt V12 _ (allRows.take 13) from ta); replace HL := Lib.hid (below_map HL.out (Nat.le_refl _) hg); clear ta hg RF))
  go_wp2_with fail
  refine (num_lit { data := #[81, 85, 79, 84, 73, 69, 78, 84] } 2 2 { data := #[115] } 83 _).mono ?_
  rintro e W13 ⟨v, rfl, hr, hb⟩
  have RF := Lib.hid hr
  replace TA := Lib.hid (TA.out.below hb)
  replace HL := Lib.hid (HL.out.trans (hb.mono HL.out.size))
  clear hr hb
  go_wp2_with (first | (refine wpList_insert_row _ rfl _ _ _ _ (.inl rfl) rfl TA.out ⟨{ data := #[81, 85, 79, 84, 73, 69, 78, 84] }, 2, 2, { data := #[115] }, true, 83⟩ v rfl rfl RF.out (fresh_of (by kernel_rfl)) Tryz.underlying36 Tryz.underlying9 ?_; intro V13 ta hg; replace TA := Lib.hid (show TableAt V13 _ (allRows.take 14) from ta); replace HL := Lib.hid (below_map HL.out (Nat.le_refl _) hg); clear ta hg RF))
  go_wp2_with fail
  refine (num_lit { data := #[80, 79, 87, 69, 82] } 2 2 { data := #[115] } 86 _).mono ?_
  rintro e W14 ⟨v, rfl, hr, hb⟩
  have RF := Lib.hid hr
  replace TA := Lib.hid (TA.out.below hb)
  replace HL := Lib.hid (HL.out.trans (hb.mono HL.out.size))
  clear hr hb
  go_wp2_with (first | (refine wpList_insert_row _ rfl _ _ _ _ (.inl rfl) rfl TA.out ⟨{ data := #[80, 79, 87, 69, 82] }, 2, 2, { data := #[115] }, true, 86⟩ v rfl rfl RF.out (fresh_of (by kernel_rfl)) Tryz.underlying36 Tryz.underlying9 ?_; intro V14 ta hg; replace TA := Lib.hid (show TableAt V14 _ (allRows.take 15) from ta); replace HL := Lib.hid (below_map HL.out (Nat.le_refl _) hg); clear ta hg RF))
  go_wp2_with fail
  refine (num_lit { data := #[83, 81, 82, 84] } 1 1 { data := #[115] } 88 _).mono ?_
  rintro e W15 ⟨v, rfl, hr, hb⟩
  have RF := Lib.hid hr
  replace TA := Lib.hid (TA.out.below hb)
  replace HL := Lib.hid (HL.out.trans (hb.mono HL.out.size))
  clear hr hb
  go_wp2_with (first | (refine wpList_insert_row _ rfl _ _ _ _ (.inl rfl) rfl TA.out ⟨{ data := #[83, 81, 82, 84] }, 1, 1, { data := #[115] }, true, 88⟩ v rfl rfl RF.out (fresh_of (by kernel_rfl)) Tryz.underlying36 Tryz.underlying9 ?_; intro V15 ta hg; replace TA := Lib.hid (show TableAt V15 _ (allRows.take 16) from ta); replace HL := Lib.hid (below_map HL.out (Nat.le_refl _) hg); clear ta hg RF))
  go_wp2_with fail
  refine (entry_lit { data := #[78] } 1 1 { data := #[115] } 90 _).mono ?_
  rintro e W16 ⟨v, rfl, hr, hb⟩
  have RF := Lib.hid hr
  replace TA := Lib.hid (TA.out.below hb)
  replace HL := Lib.hid (HL.out.trans (hb.mono HL.out.size))
  clear hr hb
  go_wp2_with (first | (refine wpList_insert_row _ rfl _ _ _ _ (.inl rfl) rfl TA.out ⟨{ data := #[78] }, 1, 1, { data := #[115] }, false, 90⟩ v rfl rfl RF.out (fresh_of (by kernel_rfl)) Tryz.underlying36 Tryz.underlying9 ?_; intro V16 ta hg; replace TA := Lib.hid (show TableAt V16 _ (allRows.take 17) from ta); replace HL := Lib.hid (below_map HL.out (Nat.le_refl _) hg); clear ta hg RF))
  go_wp2_with fail
  refine (sums_part _ _ TA.out).mono ?_
  rintro e W_sums ⟨rfl, ta, hg⟩
  replace TA := Lib.hid ta
  replace HL := Lib.hid (below_map HL.out (Nat.le_refl _) hg)
  clear ta hg
  go_wp2_with fail
  refine (counts_part _ _ TA.out).mono ?_
  rintro e W_counts ⟨rfl, ta, hg⟩
  replace TA := Lib.hid ta
  replace HL := Lib.hid (below_map HL.out (Nat.le_refl _) hg)
  clear ta hg
  go_wp2_with fail
  refine (matrices_part _ _ TA.out).mono ?_
  rintro e W_matrices ⟨rfl, ta, hg⟩
  replace TA := Lib.hid ta
  replace HL := Lib.hid (below_map HL.out (Nat.le_refl _) hg)
  clear ta hg
  go_wp2_with fail
  refine (texts_part _ _ TA.out).mono ?_
  rintro e W_texts ⟨rfl, ta, hg⟩
  replace TA := Lib.hid ta
  replace HL := Lib.hid (below_map HL.out (Nat.le_refl _) hg)
  clear ta hg
  go_wp2
  go_ret
  exact ⟨_, rfl, TA.out, HL.out⟩

end Go.Proofs.YtnlaecjniellpaaGreatDoor.Num

/- package value's Run: its deferred closure. Conditions: the tables lie as they are laid. -/
namespace Go.Proofs.YtnlaecjniellpaaGreatDoor.Num
open Go.RowKit Go.Lib

theorem set9_own {w W : World} {R : Nat} (h : w.grownBy W (some R)) (x0 x1 x2 x3 x4 x5 x6 x7 x8 : Value) : w.grownBy (((((((((W.setCell ⟨R, 0, none⟩ x0).setCell ⟨R, 1, none⟩ x1).setCell ⟨R, 2, none⟩ x2).setCell ⟨R, 3, none⟩ x3).setCell ⟨R, 4, none⟩ x4).setCell ⟨R, 5, none⟩ x5).setCell ⟨R, 6, none⟩ x6).setCell ⟨R, 7, none⟩ x7).setCell ⟨R, 8, none⟩ x8) (some R) := (only_setCell (p := ⟨R, 8, none⟩) (only_setCell (p := ⟨R, 7, none⟩) (only_setCell (p := ⟨R, 6, none⟩) (only_setCell (p := ⟨R, 5, none⟩) (only_setCell (p := ⟨R, 4, none⟩) (only_setCell (p := ⟨R, 3, none⟩) (only_setCell (p := ⟨R, 2, none⟩) (only_setCell (p := ⟨R, 1, none⟩) (only_setCell (p := ⟨R, 0, none⟩) h (.inl rfl) x0) (.inl rfl) x1) (.inl rfl) x2) (.inl rfl) x3) (.inl rfl) x4) (.inl rfl) x5) (.inl rfl) x6) (.inl rfl) x7) (.inl rfl) x8)
theorem idle_any (p : Addr) (w : World) : CallsD Tryz.prog 18 #[.pointer (some p)] .returning w fun e u' w' => e = .returned (.tuple #[]) ∧ u' = .returning ∧ w' = w := by
  refine callsD_of_wpS Tryz.func18 rfl fun c₀ cs hu => ?_
  apply wpS_seq
  apply wpS_region
  simp [wpOpsS, go_sem, recoverD, hu, Tryz.ntmps18, Exit.thenS]
  refine wpS_of_wp ?_
  have hnil : ∀ w : World, (binOp BinOp.eql 20 .nilIface .nilIface).run Tryz.prog w = .ok (.bool true) w := fun _ => by kernel_rfl
  go_wp2
  cases c₀
  simp_all [bodyPostS, results, Tryz.results18]

set_option maxHeartbeats 4000000 in
set_option maxRecDepth 100000 in
theorem caught_any (R : Nat) (c : Int) (h1 : 1 ≤ c) (h2 : c ≤ 8) (x0 x1 x2 x3 x4 x5 x6 x7 x8 : Value) (w : World) (hR : w.heap[R]? = some (.cells #[x0, x1, x2, x3, x4, x5, x6, x7, x8] 27 (0, 0))) (hE : Env w) :
    CallsD Tryz.prog 18 #[.pointer (some ⟨R, 0, none⟩)] (.panicking ({ v := .iface 47 (.int .i64 c), recovered := false } :: [])) w fun e u' w' =>
      e = .returned (.tuple #[]) ∧ u' = .panicking ({ v := .iface 47 (.int .i64 c), recovered := true } :: []) ∧ w'.heap[R]? = some (.cells #[.int .i64 4, .string { data := #[] }, .string { data := #[] }, .string { data := #[] }, .bool false, .int .i64 c, .int .i64 0, .int .i64 0, .slice none 0 0] 27 (0, 0)) ∧ w.grownBy w' (some R) := by
  have TF := Lib.hid (fun W g => faultv_any c W h1 h2 g)
  rw [faultVal_is c] at TF
  refine callsD_of_wpS Tryz.func18 rfl fun c₀ cs hu => ?_
  apply wpS_seq
  apply wpS_region
  simp [wpOpsS, go_sem, recoverD, hu, Tryz.ntmps18, Exit.thenS]
  refine wpS_of_wp ?_
  have hnil : ∀ (w : World) (x : Value), (binOp BinOp.eql 20 (.iface 47 x) .nilIface).run Tryz.prog w = .ok (.bool false) w := fun _ _ => by kernel_rfl
  have hta : ∀ (w : World), (Instr.typeAssert (.iface 47 (.int .i64 c)) 20 47 true).run Tryz.prog w = .ok (.tuple #[.int .i64 c, .bool true]) w := fun _ => by kernel_rfl
  have HR := Lib.hid hR
  have HE := Lib.hid hE
  clear hR hE
  go_wp2_with fail
  refine (TF.out _ HE.out).mono ?_
  rintro e W1 ⟨rfl, hb⟩
  replace HR := Lib.hid (keep_block HR.out hb)
  have HG := Lib.hid (kept_below (b := R) hb)
  clear hb
  obtain ⟨⟨r0, r1, r2, r3, r4, r5, r6, r7, r8⟩, g0, g1, g2, g3, g4, g5, g6, g7, g8⟩ := nine_at HR.out
  have HF := Lib.hid (set9_at HR.out (.int .i64 4) (.string { data := #[] }) (.string { data := #[] }) (.string { data := #[] }) (.bool false) (.int .i64 c) (.int .i64 0) (.int .i64 0) (.slice none 0 0))
  go_wp2
  have HG2 := Lib.hid (set9_own HG.out (.int .i64 4) (.string { data := #[] }) (.string { data := #[] }) (.string { data := #[] }) (.bool false) (.int .i64 c) (.int .i64 0) (.int .i64 0) (.slice none 0 0))
  obtain ⟨W9, hW9⟩ : ∃ W9, (((((((((W1.setCell ⟨R, 0, none⟩ (.int .i64 4)).setCell ⟨R, 1, none⟩ (.string { data := #[] })).setCell ⟨R, 2, none⟩ (.string { data := #[] })).setCell ⟨R, 3, none⟩ (.string { data := #[] })).setCell ⟨R, 4, none⟩ (.bool false)).setCell ⟨R, 5, none⟩ (.int .i64 c)).setCell ⟨R, 6, none⟩ (.int .i64 0)).setCell ⟨R, 7, none⟩ (.int .i64 0)).setCell ⟨R, 8, none⟩ (.slice none 0 0)) = W9 := ⟨_, rfl⟩
  rw [hW9] at HF HG2 ⊢
  refine ⟨rfl, _, rfl, .tuple #[], results_none rfl _ _ _, rfl, rfl, HF.out, HG2.out⟩
end Go.Proofs.YtnlaecjniellpaaGreatDoor.Num

/- package value: the closure that Run hands to Lift. Conditions: the tables lie as they are laid. -/
namespace Go.Proofs.YtnlaecjniellpaaGreatDoor.Num
open Go.RowKit Go.Lib

set_option maxHeartbeats 4000000 in
set_option maxRecDepth 100000 in
theorem run1_value (pb _ e : Nat) (sl : Value) (k : Int) (n d t : ByteArray) (on : Bool) (c : Int) (A : Option Addr) (L C : Nat) (w : World) (hs : ∃ a l c, sl = .slice a l c) (hc : w.cell? ⟨pb, 3, none⟩ = some (.func (.func 150) #[] #[.pointer (some ⟨e, 0, none⟩)])) (hE : Env w)
    (hF : ∀ W, Below w.heap.size w W → Calls Tryz.prog 150 #[sl, .pointer (some ⟨e, 0, none⟩)] W fun e w' => e = .returned (.agg #[.int .i64 k, .string n, .string d, .string t, .bool on, .int .i64 c, .int .i64 0, .int .i64 0, .slice A L C]) ∧ Below W.heap.size W w') :
    Calls Tryz.prog 17 #[sl, .pointer (some ⟨pb, 0, none⟩)] w fun e w' => e = .returned (.agg #[.int .i64 k, .string n, .string d, .string t, .bool on, .int .i64 c, .int .i64 0, .int .i64 0, .slice A L C]) ∧ Below w.heap.size w w' := by
  obtain ⟨sa, slen, sc, rfl⟩ := hs
  have hmf : ∀ (fn : Fn) (first cap : Array Value) (w : World), (Instr.makeFunc fn first cap).run Tryz.prog w = .ok (.func fn first cap) w := fun _ _ _ _ => rfl
  have hb : Below w.heap.size w (w.alloc (.cells #[.int .i64 0, .string { data := #[] }, .string { data := #[] }, .string { data := #[] }, .bool false, .int .i64 0, .int .i64 0, .int .i64 0, .slice none 0 0] 27)) := (Below.refl _ _).alloc (Nat.le_refl _) _
  have HR := Lib.hid (heap_alloc_new w (.cells #[.int .i64 0, .string { data := #[] }, .string { data := #[] }, .string { data := #[] }, .bool false, .int .i64 0, .int .i64 0, .int .i64 0, .slice none 0 0] 27))
  have HX := Lib.hid (cell_below hc hb)
  have HL := Lib.hid hb
  have HE := Lib.hid (hE.below hb)
  have TF := Lib.hid (hF _ hb)
  clear hb hc hE hF
  obtain x3 := HX.out
  go_enter_defers Tryz.func17, Tryz.ntmps17
  go_wp2_with fail
  refine TF.out.mono ?_
  rintro e w1 ⟨rfl, hb⟩
  replace HR := Lib.hid (keep_block HR.out hb)
  replace HE := Lib.hid (HE.out.below hb)
  replace HL := Lib.hid (HL.out.trans (hb.mono HL.out.size))
  clear hb
  obtain ⟨⟨r0, r1, r2, r3, r4, r5, r6, r7, r8⟩, g0, g1, g2, g3, g4, g5, g6, g7, g8⟩ := nine_at HR.out
  have HR2 := Lib.hid (set9_at HR.out (.int .i64 k) (.string n) (.string d) (.string t) (.bool on) (.int .i64 c) (.int .i64 0) (.int .i64 0) (.slice A L C))
  have HL2 := Lib.hid (nine_end (x0 := (.int .i64 k)) (x1 := (.string n)) (x2 := (.string d)) (x3 := (.string t)) (x4 := (.bool on)) (x5 := (.int .i64 c)) (x6 := (.int .i64 0)) (x7 := (.int .i64 0)) (x8 := (.slice A L C)) HR.out HL.out (Nat.le_refl _)).1
  go_wp2_with fail
  obtain ⟨W2, hW2⟩ : ∃ W2, (((((((((w1.setCell ⟨w.heap.size, 0, none⟩ (.int .i64 k)).setCell ⟨w.heap.size, 1, none⟩ (.string n)).setCell ⟨w.heap.size, 2, none⟩ (.string d)).setCell ⟨w.heap.size, 3, none⟩ (.string t)).setCell ⟨w.heap.size, 4, none⟩ (.bool on)).setCell ⟨w.heap.size, 5, none⟩ (.int .i64 c)).setCell ⟨w.heap.size, 6, none⟩ (.int .i64 0)).setCell ⟨w.heap.size, 7, none⟩ (.int .i64 0)).setCell ⟨w.heap.size, 8, none⟩ (.slice A L C)) = W2 := ⟨_, rfl⟩
  rw [hW2] at HR2 HL2 ⊢
  clear hW2 r0 r1 r2 r3 r4 r5 r6 r7 r8 g0 g1 g2 g3 g4 g5 g6 g7 g8
  obtain ⟨⟨r0, r1, r2, r3, r4, r5, r6, r7, r8⟩, g0, g1, g2, g3, g4, g5, g6, g7, g8⟩ := nine_at HR2.out
  go_quiet (fail)
  have HR3 := Lib.hid (show (W2.drewN nq).heap[w.heap.size]? = _ from HR2.out)
  obtain ⟨nb, e0, e1, e2, e3, e4, e5, e6, e7, e8⟩ := nine_end (x0 := (.int .i64 k)) (x1 := (.string n)) (x2 := (.string d)) (x3 := (.string t)) (x4 := (.bool on)) (x5 := (.int .i64 c)) (x6 := (.int .i64 0)) (x7 := (.int .i64 0)) (x8 := (.slice A L C)) HR3.out (below_drewN HL2.out nq) (Nat.le_refl _)
  go_wp2
  refine leaves_cons (f := 18) (args := #[.pointer (some ⟨w.heap.size, 0, none⟩)]) (by simp) (by simp [go_sem]) ?_
  refine (idle_any _ _).mono ?_
  rintro e u' w3 ⟨rfl, rfl, rfl⟩
  exact ⟨_, (by simp [results, Tryz.results17, go_sem, e0, e1, e2, e3, e4, e5, e6, e7, e8]), rfl, nb⟩

set_option maxHeartbeats 4000000 in
set_option maxRecDepth 100000 in
theorem run1_stop (pb e : Nat) (sl : Value) (c : Int) (w : World) (hs : ∃ a l c, sl = .slice a l c) (h1 : 1 ≤ c) (h2 : c ≤ 8) (hc : w.cell? ⟨pb, 3, none⟩ = some (.func (.func 150) #[] #[.pointer (some ⟨e, 0, none⟩)])) (hE : Env w)
    (hF : ∀ W, Below w.heap.size w W → Calls Tryz.prog 150 #[sl, .pointer (some ⟨e, 0, none⟩)] W fun e w' => e = stopped c ∧ Below W.heap.size W w') :
    Calls Tryz.prog 17 #[sl, .pointer (some ⟨pb, 0, none⟩)] w fun e w' => e = .returned (faultVal c) ∧ Below w.heap.size w w' := by
  obtain ⟨sa, slen, sc, rfl⟩ := hs
  have TC := Lib.hid (fun R x0 x1 x2 x3 x4 x5 x6 x7 x8 W g g' => caught_any R c h1 h2 x0 x1 x2 x3 x4 x5 x6 x7 x8 W g g')
  rw [faultVal_is c]
  have hmf : ∀ (fn : Fn) (first cap : Array Value) (w : World), (Instr.makeFunc fn first cap).run Tryz.prog w = .ok (.func fn first cap) w := fun _ _ _ _ => rfl
  have hb : Below w.heap.size w (w.alloc (.cells #[.int .i64 0, .string { data := #[] }, .string { data := #[] }, .string { data := #[] }, .bool false, .int .i64 0, .int .i64 0, .int .i64 0, .slice none 0 0] 27)) := (Below.refl _ _).alloc (Nat.le_refl _) _
  have HR := Lib.hid (heap_alloc_new w (.cells #[.int .i64 0, .string { data := #[] }, .string { data := #[] }, .string { data := #[] }, .bool false, .int .i64 0, .int .i64 0, .int .i64 0, .slice none 0 0] 27))
  have HX := Lib.hid (cell_below hc hb)
  have HL := Lib.hid hb
  have HE := Lib.hid (hE.below hb)
  have TF := Lib.hid (hF _ hb)
  clear hb hc hE hF
  obtain x3 := HX.out
  go_enter_defers Tryz.func17, Tryz.ntmps17
  go_wp2_with fail
  refine TF.out.mono ?_
  rintro e w1 ⟨rfl, hb⟩
  replace HR := Lib.hid (keep_block HR.out hb)
  replace HE := Lib.hid (HE.out.below hb)
  replace HL := Lib.hid (HL.out.trans (hb.mono HL.out.size))
  clear hb
  unfold stopped
  go_wp2
  refine leaves_cons (f := 18) (args := #[.pointer (some ⟨w.heap.size, 0, none⟩)]) (by simp) (by simp [go_sem]) ?_
  refine (TC.out _ _ _ _ _ _ _ _ _ _ _ HR.out HE.out).mono ?_
  rintro e u' w3 ⟨rfl, rfl, hr, hg⟩
  obtain ⟨⟨e0, e1, e2, e3, e4, e5, e6, e7, e8⟩, _⟩ := nine_at hr
  exact ⟨_, (by simp [results, Tryz.results17, go_sem, e0, e1, e2, e3, e4, e5, e6, e7, e8]), rfl, HL.out.trans (below_of_only hg (Nat.le_refl _) HL.out.size)⟩
end Go.Proofs.YtnlaecjniellpaaGreatDoor.Num

/- package value: values in slices, and the letter of an argument. Conditions: the table of kinds has one letter. -/
namespace Go.Proofs.YtnlaecjniellpaaGreatDoor.Num
open Go.RowKit Go.Lib

/-- a value, field by field -/
structure Val where
  k : Int
  n : ByteArray
  d : ByteArray
  t : ByteArray
  on : Bool
  c : Int
  r : Int
  s : Int
  A : Option Addr
  L : Nat
  C : Nat
def Val.cells (v : Val) : List Value := [.int .i64 v.k, .string v.n, .string v.d, .string v.t, .bool v.on, .int .i64 v.c, .int .i64 v.r, .int .i64 v.s, .slice v.A v.L v.C]
def Val.agg (v : Val) : Value := .agg #[.int .i64 v.k, .string v.n, .string v.d, .string v.t, .bool v.on, .int .i64 v.c, .int .i64 v.r, .int .i64 v.s, .slice v.A v.L v.C]
def numVal' (q : Rat) : Val := ⟨1, numS q, denS q, { data := #[] }, false, 0, 0, 0, none, 0, 0⟩
theorem numVal'_agg (q : Rat) : (numVal' q).agg = numVal q := rfl
def faultVal' (c : Int) : Val := ⟨4, { data := #[] }, { data := #[] }, { data := #[] }, false, c, 0, 0, none, 0, 0⟩
theorem faultVal'_agg (c : Int) : (faultVal' c).agg = faultVal c := rfl
def flat (vs : List Val) : List Value := vs.flatMap Val.cells
theorem flat_len : ∀ vs : List Val, (flat vs).length = vs.length * 9
  | [] => rfl
  | v :: r => by
    have := flat_len r
    unfold flat at this ⊢
    rw [List.flatMap_cons, List.length_append, this, List.length_cons]
    show 9 + _ = _
    omega
theorem flat_get : ∀ (vs : List Val) (i j : Nat) (h : i < vs.length), j < 9 → (flat vs)[i * 9 + j]? = vs[i].cells[j]?
  | v :: r, 0, j, _, hj => by
    unfold flat
    rw [List.flatMap_cons, Nat.zero_mul, Nat.zero_add, List.getElem?_append_left (by show j < 9; exact hj)]
    rfl
  | v :: r, i + 1, j, h, hj => by
    have := flat_get r i j (by simpa using h) hj
    unfold flat at this ⊢
    rw [List.flatMap_cons, List.getElem?_append_right (by show 9 ≤ _; omega)]
    rw [show (i + 1) * 9 + j - v.cells.length = i * 9 + j by show (i + 1) * 9 + j - 9 = _; omega, this]
    rfl
theorem addr_add (b o j : Nat) : (⟨b, o, none⟩ : Addr).add j = ⟨b, o + j, none⟩ := by
  unfold Addr.add
  split
  · rename_i h; subst h; rfl
  · rfl
/-- values one behind the other in memory -/
def ValsAt (w : World) (ab ao : Nat) (vs : List Val) : Prop := ∀ j u, (flat vs)[j]? = some u → w.cell? ((⟨ab, ao, none⟩ : Addr).add j) = some u
theorem ValsAt.below {w w' : World} {ab ao : Nat} {vs : List Val} (h : ValsAt w ab ao vs) (hb : Below w.heap.size w w') : ValsAt w' ab ao vs := fun j u hj => cell_below (h j u hj) hb
theorem ValsAt.at {w : World} {ab ao : Nat} {vs : List Val} (h : ValsAt w ab ao vs) (i : Nat) (hi : i < vs.length) :
    CellsAt w ab (ao + i * 9) (.int .i64 vs[i].k) (.string vs[i].n) (.string vs[i].d) (.string vs[i].t) (.bool vs[i].on) (.int .i64 vs[i].c) (.int .i64 vs[i].r) (.int .i64 vs[i].s) (.slice vs[i].A vs[i].L vs[i].C) := by
  have H : ∀ j (hj : j < 9) u, vs[i].cells[j]? = some u → w.cell? ⟨ab, ao + i * 9 + j, none⟩ = some u := by
    intro j hj u hu
    have := h (i * 9 + j) u (by rw [flat_get vs i j hi hj]; exact hu)
    rw [addr_add] at this
    rw [show ao + i * 9 + j = ao + (i * 9 + j) by omega]
    exact this
  exact ⟨H 0 (by decide) _ rfl, H 1 (by decide) _ rfl, H 2 (by decide) _ rfl, H 3 (by decide) _ rfl, H 4 (by decide) _ rfl, H 5 (by decide) _ rfl, H 6 (by decide) _ rfl, H 7 (by decide) _ rfl, H 8 (by decide) _ rfl⟩
theorem flat_one (vs : List Val) : ∀ u ∈ flat vs, u.oneCell' = true := by
  intro u hu
  unfold flat at hu
  obtain ⟨v, _, hv⟩ := List.mem_flatMap.1 hu
  simp only [Val.cells, List.mem_cons, List.not_mem_nil, or_false] at hv
  rcases hv with rfl | rfl | rfl | rfl | rfl | rfl | rfl | rfl | rfl <;> rfl
theorem vals_of_owns {w : World} {B n : Nat} {T : TypeId} {v : Value} {vs : List Val} (h : w.ownsRow B T 9 v n (flat vs)) (hn : vs.length = n) (h0 : 0 < n) : ∃ g cap, v = .slice (some ⟨g, 0, none⟩) n cap ∧ B ≤ g ∧ n ≤ cap ∧ ValsAt w g 0 vs := by
  rcases h.2 with ⟨_, h0'⟩ | ⟨g, cap, cur, rfl, hb, hg, hc1, hc2, hcs, htk⟩
  · omega
  · refine ⟨g, cap, rfl, hb, hc1, fun j u hj => ?_⟩
    have hlt : j < (flat vs).length := (List.getElem?_eq_some_iff.1 hj).1
    rw [← htk] at hj
    have hl : j < n * 9 := by rw [flat_len] at hlt; omega
    rw [List.getElem?_take_of_lt hl] at hj
    rw [addr_add, Nat.zero_add]
    rw [Lib.cell_of_heap hg j]
    simpa using hj

set_option maxHeartbeats 1000000 in
theorem letter_one (c : UInt8) (i : Nat) (hi : i ≤ 1000000) (w : World) : Calls Tryz.prog 98 #[.string { data := #[c] }, .int .i64 (i : Int)] w fun e w' => e = .returned (.int .u8 (c.toNat : Int)) ∧ w' = w := by
  have hm : min (i : Int) 0 = 0 := by omega
  go_enter Tryz.func98, Tryz.ntmps98
  go_wp2
  go_ret
  exact ⟨by first | rfl | simp, rfl⟩
end Go.Proofs.YtnlaecjniellpaaGreatDoor.Num

/- package value: Lift where no argument is lifted. Conditions: the tables lie as they are laid. -/
namespace Go.Proofs.YtnlaecjniellpaaGreatDoor.Num
open Go.RowKit Go.Lib
/-- what stays while the arguments are looked through -/
def LiftI (w : World) (ab ao : Nat) (vs : List Val) (W : World) : Prop := W.heap[w.heap.size]? = some (.cells #[.int .i64 0, .string { data := #[] }, .string { data := #[] }, .string { data := #[] }, .bool false, .int .i64 0, .int .i64 0, .int .i64 0, .slice none 0 0] 27 (0, 0)) ∧ ValsAt W ab ao vs ∧ Env W ∧ Below w.heap.size w W
theorem LiftI.step {w W W' : World} {ab ao : Nat} {vs : List Val} (h : LiftI w ab ao vs W) (hb : Below W.heap.size W W') : LiftI w ab ao vs W' := ⟨keep_block h.1 hb, h.2.1.below hb, h.2.2.1.below hb, h.2.2.2.trans (hb.mono h.2.2.2.size)⟩
theorem info_val : ∃ i, Tryz.prog.info? 27 = some i ∧ i.zero = some (.agg #[.int .i64 0, .string { data := #[] }, .string { data := #[] }, .string { data := #[] }, .bool false, .int .i64 0, .int .i64 0, .int .i64 0, .slice none 0 0]) ∧ i.size = 9 ∧ i.bytes = 112 := info_parts (by kernel_rfl : (Tryz.prog.info? 27).map (fun i => (i.zero, i.size, i.bytes)) = some (some (.agg #[.int .i64 0, .string { data := #[] }, .string { data := #[] }, .string { data := #[] }, .bool false, .int .i64 0, .int .i64 0, .int .i64 0, .slice none 0 0]), 9, 112))

set_option maxHeartbeats 8000000 in
set_option maxRecDepth 100000 in
theorem lift_a (vs : List Val) (ab ao C pb : Nat) (q : Val) (w : World) (h0 : 0 < vs.length) (h9 : vs.length ≤ 300) (hv : ValsAt w ab ao vs) (hE : Env w) (hq : q.A = none ∧ q.L = 0 ∧ q.C = 0)
    (hC : ∀ v ∈ vs, ∀ W, Below w.heap.size w W → Calls Tryz.prog 97 #[v.agg] W fun e w' => e = .returned (.int .i64 0) ∧ Below W.heap.size W w')
    (hO : ∀ W, Env W → Calls Tryz.prog 97 #[q.agg] W fun e w' => e = .returned (.int .i64 0) ∧ Below W.heap.size W w')
    (hF : ∀ W g cap, Below w.heap.size w W → ValsAt W g 0 vs → Calls Tryz.prog 17 #[.slice (some ⟨g, 0, none⟩) vs.length cap, .pointer (some ⟨pb, 0, none⟩)] W fun e w' => e = .returned q.agg ∧ Below W.heap.size W w') :
    Calls Tryz.prog 16 #[.string { data := #[97] }, .slice (some ⟨ab, ao, none⟩) vs.length C, .func (.func 17) #[] #[.pointer (some ⟨pb, 0, none⟩)]] w fun e w' => e = .returned (.tuple #[q.agg, .int .i64 0]) ∧ Below w.heap.size w w' := by
  obtain ⟨qk, qn, qd, qt, qon, qc, qr, qs, qA, qL, qC⟩ := q
  obtain ⟨rfl, rfl, rfl⟩ := hq
  have hb : Below w.heap.size w (w.alloc (.cells #[.int .i64 0, .string { data := #[] }, .string { data := #[] }, .string { data := #[] }, .bool false, .int .i64 0, .int .i64 0, .int .i64 0, .slice none 0 0] 27)) := (Below.refl _ _).alloc (Nat.le_refl _) _
  have HR := Lib.hid (heap_alloc_new w (.cells #[.int .i64 0, .string { data := #[] }, .string { data := #[] }, .string { data := #[] }, .bool false, .int .i64 0, .int .i64 0, .int .i64 0, .slice none 0 0] 27))
  have HV := Lib.hid (hv.below hb)
  have HE := Lib.hid (hE.below hb)
  have HL := Lib.hid hb
  have HC := Lib.hid hC
  have HO := Lib.hid (fun W g => valid_of qk qn qd qt qon qc qr qs none 0 0 W hO g)
  have HF := Lib.hid hF
  obtain ⟨L, hL⟩ : ∃ L, vs.length = L := ⟨_, rfl⟩
  have HLL := Lib.hid hL
  rw [hL] at h0 h9 HF ⊢
  have htr := fun W => Any.strings_Trim_laid Tryz.lays160 (by kernel_rfl) { data := #[97] } { data := #[115, 97] } W (by decide) (by decide) (ascii_of_all (by decide))
  rw [show Lib.trimS ({ data := #[97] } : ByteArray).data.toList ({ data := #[115, 97] } : ByteArray).data.toList = [] from by decide] at htr
  have HTR := Lib.hid htr
  have hem : ({ data := #[] } : ByteArray).toList.isEmpty = true := by rw [Lib.toList_data]; rfl
  obtain ⟨B, hB⟩ : ∃ B, w.heap.size = B := ⟨_, rfl⟩
  have HB := Lib.hid hB
  clear hb hv hE hC hO hF hL htr hB
  go_enter Tryz.func16, Tryz.ntmps16
  go_wp2_with fail
  refine (HTR.out _).mono ?_
  rintro e w1 ⟨rfl, hb⟩
  replace HR := Lib.hid (keep_block HR.out hb)
  replace HV := Lib.hid (HV.out.below hb)
  replace HE := Lib.hid (HE.out.below hb)
  replace HL := Lib.hid (HL.out.trans (hb.mono HL.out.size))
  clear hb
  have LI := Lib.hid (show LiftI w ab ao vs w1 from ⟨HR.out, HV.out, HE.out, HL.out⟩)
  clear HR HV HE HL
  go_wp2_with fail
  go_loopg [29] L (fun g v29 wx => ∃ i : Nat, v29 = .int .i64 (i : Int) ∧ i ≤ L ∧ g = L - i ∧ LiftI w ab ao vs wx)
  case atStart => exact ⟨0, rfl, Nat.zero_le _, rfl, LI.out⟩
  case round =>
    obtain ⟨i, rfl, hi, rfl, hli⟩ := hrel
    have HLI := Lib.hid hli
    clear hli LI
    by_cases hlt : i < L
    · have hd : decide ((i : Int) < (L : Int)) = true := decide_eq_true (by omega)
      have hd2 : decide (i < L) = true := decide_eq_true hlt
      have hii : i < vs.length := by rw [HLL.out]; exact hlt
      obtain ⟨c0, c1, c2, c3, c4, c5, c6, c7, c8⟩ := HLI.out.2.1.at i hii
      have hi0 : (0 : Int) ≤ (i : Int) := by omega
      have hi1 : (i : Int) < (L : Int) := by omega
      have TC := Lib.hid (HC.out vs[i] (List.getElem_mem hii))
      have HA := Lib.hid (HLI.out.2.2.2.trans ((Below.refl wr.heap.size wr).alloc (Nat.le_refl _) (.cells #[.int .i64 vs[i].k, .string vs[i].n, .string vs[i].d, .string vs[i].t, .bool vs[i].on, .int .i64 vs[i].c, .int .i64 vs[i].r, .int .i64 vs[i].s, .slice vs[i].A vs[i].L vs[i].C] 27) |>.mono HLI.out.2.2.2.size))
      go_wp2_with fail
      refine (TC.out _ HA.out).mono ?_
      rintro e w2 ⟨rfl, hb⟩
      have HLI2 := Lib.hid ((HLI.out.step ((Below.refl wr.heap.size wr).alloc (Nat.le_refl _) (.cells #[.int .i64 vs[i].k, .string vs[i].n, .string vs[i].d, .string vs[i].t, .bool vs[i].on, .int .i64 vs[i].c, .int .i64 vs[i].r, .int .i64 vs[i].s, .slice vs[i].A vs[i].L vs[i].C] 27))).step hb)
      clear hb c0 c1 c2 c3 c4 c5 c6 c7 c8
      go_wp2
      go_roundg (L - (i + 1))
      case measure => omega
      case rel => exact ⟨i + 1, by go_num, by omega, by omega, HLI2.out⟩
    · have hd : decide ((i : Int) < (L : Int)) = false := decide_eq_false (by omega)
      have hd2 : decide (i < L) = false := decide_eq_false hlt
      clear hlt
      go_wp2_with fail
      go_loopg [11, 12, 42] L (fun g v11 v12 v42 wx => ∃ i : Nat, v11 = .int .i64 0 ∧ v12 = .int .i64 0 ∧ v42 = .int .i64 (i : Int) ∧ i ≤ L ∧ g = L - i ∧ LiftI w ab ao vs wx)
      case atStart => exact ⟨0, rfl, rfl, rfl, Nat.zero_le _, rfl, HLI.out⟩
      case round =>
        clear HLI hd hd2 hi
        obtain ⟨i, rfl, rfl, rfl, hi, rfl, hli⟩ := hrel
        have HLI := Lib.hid hli
        clear hli
        by_cases hlt : i < L
        · have hd : decide ((i : Int) < (L : Int)) = true := decide_eq_true (by omega)
          have hd2 : decide (i < L) = true := decide_eq_true hlt
          have hii : i < vs.length := by rw [HLL.out]; exact hlt
          obtain ⟨c0, c1, c2, c3, c4, c5, c6, c7, c8⟩ := HLI.out.2.1.at i hii
          have hi0 : (0 : Int) ≤ (i : Int) := by omega
          have hi1 : (i : Int) < (L : Int) := by omega
          skip
          go_wp2_with fail
          refine (letter_one 97 i (by omega) _).mono ?_
          rintro e w2 ⟨rfl, rfl⟩
          have HLI2 := Lib.hid (HLI.out.step ((Below.refl wr.heap.size wr).alloc (Nat.le_refl _) (.cells #[.int .i64 vs[i].k, .string vs[i].n, .string vs[i].d, .string vs[i].t, .bool vs[i].on, .int .i64 vs[i].c, .int .i64 vs[i].r, .int .i64 vs[i].s, .slice vs[i].A vs[i].L vs[i].C] 27)))
          go_wp2
          go_roundg (L - (i + 1))
          case measure => omega
          case rel => exact ⟨i + 1, rfl, rfl, by go_num, by omega, by omega, HLI2.out⟩
        · have hd : decide ((i : Int) < (L : Int)) = false := decide_eq_false (by omega)
          have hd2 : decide (i < L) = false := decide_eq_false hlt
          clear hlt
          obtain ⟨i0, hi0', hz0, hz1, hz2⟩ := info_val
          have hfl : (flat vs).length = L * 9 := by rw [flat_len, HLL.out]
          have hvals := HLI.out.2.1
          have hml : 0 + L ≤ maxLen := by unfold maxLen; omega
          clear hi
          go_wp2_with (at_builtin; refine wpList_append_own _ rfl _ _ 25 rfl w.heap.size 27 i0 _ 9 112 Tryz.underlying25 hi0' hz0 hz1 hz2 rfl (by decide) (.slice none 0 0) 0 [] rfl (World.ownsRow_nil _ _ _ _) ⟨ab, ao, none⟩ L C (flat vs) rfl hfl hvals (flat_one vs) hml (by omega) HLI.out.2.2.2.size ?_)
          intro v5 w5 hown5 hgrow5 _
          obtain ⟨g, cap, rfl, hg, hcap, hva⟩ := vals_of_owns hown5 HLL.out h0
          have HLI5 := Lib.hid (HLI.out.step (below_none hgrow5))
          have HVA := Lib.hid hva
          clear hown5 hgrow5 hg hcap hva hvals hfl hml hi0' hz0 hz1 hz2
          go_wp2_with fail
          refine (HF.out _ g cap HLI5.out.2.2.2 HVA.out).mono ?_
          rintro e w6 ⟨rfl, hb⟩
          have HLI6 := Lib.hid (HLI5.out.step hb)
          clear hb
          unfold Val.agg
          simp only []
          go_wp2_with fail
          refine (HO.out _ HLI6.out.2.2.1).mono ?_
          rintro e w7 ⟨rfl, hb⟩
          have HLI7 := Lib.hid (HLI6.out.step hb)
          clear hb
          have HLI8 := Lib.hid (HLI7.out.step ((Below.refl w7.heap.size w7).alloc (Nat.le_refl _) (.cells #[.int .i64 qk, .string qn, .string qd, .string qt, .bool qon, .int .i64 qc, .int .i64 qr, .int .i64 qs, .slice none 0 0] 27)))
          obtain ⟨⟨a0, a1, a2, a3, a4, a5, a6, a7, a8⟩, b0, b1, b2, b3, b4, b5, b6, b7, b8⟩ := nine_at HLI7.out.1
          obtain ⟨⟨r0, r1, r2, r3, r4, r5, r6, r7, r8⟩, g0, g1, g2, g3, g4, g5, g6, g7, g8⟩ := nine_at HLI8.out.1
          have hlt7 := heap_lt HLI7.out.1
          have HF1 := Lib.hid (set9_at HLI7.out.1 (.int .i64 qk) (.string qn) (.string qd) (.string qt) (.bool qon) (.int .i64 qc) (.int .i64 qr) (.int .i64 qs) (.slice none 0 0))
          have HF2 := Lib.hid ((Below.heap_alloc _ (.cells #[.int .i64 qk, .string qn, .string qd, .string qt, .bool qon, .int .i64 qc, .int .i64 qr, .int .i64 qs, .slice none 0 0] 27) _ (heap_lt HF1.out)).trans HF1.out)
          have HB2 := Lib.hid (nine_end (x0 := (.int .i64 qk)) (x1 := (.string qn)) (x2 := (.string qd)) (x3 := (.string qt)) (x4 := (.bool qon)) (x5 := (.int .i64 qc)) (x6 := (.int .i64 qr)) (x7 := (.int .i64 qs)) (x8 := (.slice none 0 0)) HLI7.out.1 HLI7.out.2.2.2 (Nat.le_refl _)).1
          have HZ2 := Lib.hid (HB2.out.alloc HB2.out.size (.cells #[.int .i64 qk, .string qn, .string qd, .string qt, .bool qon, .int .i64 qc, .int .i64 qr, .int .i64 qs, .slice none 0 0] 27))
          obtain ⟨⟨e0, e1, e2, e3, e4, e5, e6, e7, e8⟩, _⟩ := nine_at HF2.out
          go_wp2
          refine bodyPost_ret (v := .tuple #[.agg #[.int .i64 qk, .string qn, .string qd, .string qt, .bool qon, .int .i64 qc, .int .i64 qr, .int .i64 qs, .slice none 0 0], .int .i64 0]) (by simp [results, Tryz.results16, go_sem, e0, e1, e2, e3, e4, e5, e6, e7, e8]) rfl ⟨rfl, HZ2.out⟩

set_option maxHeartbeats 8000000 in
set_option maxRecDepth 100000 in
theorem lift_s (vs : List Val) (ab ao C pb : Nat) (q : Val) (w : World) (h0 : 0 < vs.length) (h9 : vs.length ≤ 300) (hno : ∀ v ∈ vs, (v.k == 5) = false) (hv : ValsAt w ab ao vs) (hE : Env w) (hq : q.A = none ∧ q.L = 0 ∧ q.C = 0)
    (hC : ∀ v ∈ vs, ∀ W, Below w.heap.size w W → Calls Tryz.prog 97 #[v.agg] W fun e w' => e = .returned (.int .i64 0) ∧ Below W.heap.size W w')
    (hO : ∀ W, Env W → Calls Tryz.prog 97 #[q.agg] W fun e w' => e = .returned (.int .i64 0) ∧ Below W.heap.size W w')
    (hF : ∀ W g cap, Below w.heap.size w W → ValsAt W g 0 vs → Calls Tryz.prog 17 #[.slice (some ⟨g, 0, none⟩) vs.length cap, .pointer (some ⟨pb, 0, none⟩)] W fun e w' => e = .returned q.agg ∧ Below W.heap.size W w') :
    Calls Tryz.prog 16 #[.string { data := #[115] }, .slice (some ⟨ab, ao, none⟩) vs.length C, .func (.func 17) #[] #[.pointer (some ⟨pb, 0, none⟩)]] w fun e w' => e = .returned (.tuple #[q.agg, .int .i64 0]) ∧ Below w.heap.size w w' := by
  obtain ⟨qk, qn, qd, qt, qon, qc, qr, qs, qA, qL, qC⟩ := q
  obtain ⟨rfl, rfl, rfl⟩ := hq
  have hb : Below w.heap.size w (w.alloc (.cells #[.int .i64 0, .string { data := #[] }, .string { data := #[] }, .string { data := #[] }, .bool false, .int .i64 0, .int .i64 0, .int .i64 0, .slice none 0 0] 27)) := (Below.refl _ _).alloc (Nat.le_refl _) _
  have HR := Lib.hid (heap_alloc_new w (.cells #[.int .i64 0, .string { data := #[] }, .string { data := #[] }, .string { data := #[] }, .bool false, .int .i64 0, .int .i64 0, .int .i64 0, .slice none 0 0] 27))
  have HV := Lib.hid (hv.below hb)
  have HE := Lib.hid (hE.below hb)
  have HL := Lib.hid hb
  have HC := Lib.hid hC
  have HO := Lib.hid (fun W g => valid_of qk qn qd qt qon qc qr qs none 0 0 W hO g)
  have HF := Lib.hid hF
  obtain ⟨L, hL⟩ : ∃ L, vs.length = L := ⟨_, rfl⟩
  have HLL := Lib.hid hL
  rw [hL] at h0 h9 HF ⊢
  have htr := fun W => Any.strings_Trim_laid Tryz.lays160 (by kernel_rfl) { data := #[115] } { data := #[115, 97] } W (by decide) (by decide) (ascii_of_all (by decide))
  rw [show Lib.trimS ({ data := #[115] } : ByteArray).data.toList ({ data := #[115, 97] } : ByteArray).data.toList = [] from by decide] at htr
  have HTR := Lib.hid htr
  have hem : ({ data := #[] } : ByteArray).toList.isEmpty = true := by rw [Lib.toList_data]; rfl
  obtain ⟨B, hB⟩ : ∃ B, w.heap.size = B := ⟨_, rfl⟩
  have HB := Lib.hid hB
  clear hb hv hE hC hO hF hL htr hB
  go_enter Tryz.func16, Tryz.ntmps16
  go_wp2_with fail
  refine (HTR.out _).mono ?_
  rintro e w1 ⟨rfl, hb⟩
  replace HR := Lib.hid (keep_block HR.out hb)
  replace HV := Lib.hid (HV.out.below hb)
  replace HE := Lib.hid (HE.out.below hb)
  replace HL := Lib.hid (HL.out.trans (hb.mono HL.out.size))
  clear hb
  have LI := Lib.hid (show LiftI w ab ao vs w1 from ⟨HR.out, HV.out, HE.out, HL.out⟩)
  clear HR HV HE HL
  go_wp2_with fail
  go_loopg [29] L (fun g v29 wx => ∃ i : Nat, v29 = .int .i64 (i : Int) ∧ i ≤ L ∧ g = L - i ∧ LiftI w ab ao vs wx)
  case atStart => exact ⟨0, rfl, Nat.zero_le _, rfl, LI.out⟩
  case round =>
    obtain ⟨i, rfl, hi, rfl, hli⟩ := hrel
    have HLI := Lib.hid hli
    clear hli LI
    by_cases hlt : i < L
    · have hd : decide ((i : Int) < (L : Int)) = true := decide_eq_true (by omega)
      have hd2 : decide (i < L) = true := decide_eq_true hlt
      have hii : i < vs.length := by rw [HLL.out]; exact hlt
      obtain ⟨c0, c1, c2, c3, c4, c5, c6, c7, c8⟩ := HLI.out.2.1.at i hii
      have hi0 : (0 : Int) ≤ (i : Int) := by omega
      have hi1 : (i : Int) < (L : Int) := by omega
      have TC := Lib.hid (HC.out vs[i] (List.getElem_mem hii))
      have HA := Lib.hid (HLI.out.2.2.2.trans ((Below.refl wr.heap.size wr).alloc (Nat.le_refl _) (.cells #[.int .i64 vs[i].k, .string vs[i].n, .string vs[i].d, .string vs[i].t, .bool vs[i].on, .int .i64 vs[i].c, .int .i64 vs[i].r, .int .i64 vs[i].s, .slice vs[i].A vs[i].L vs[i].C] 27) |>.mono HLI.out.2.2.2.size))
      go_wp2_with fail
      refine (TC.out _ HA.out).mono ?_
      rintro e w2 ⟨rfl, hb⟩
      have HLI2 := Lib.hid ((HLI.out.step ((Below.refl wr.heap.size wr).alloc (Nat.le_refl _) (.cells #[.int .i64 vs[i].k, .string vs[i].n, .string vs[i].d, .string vs[i].t, .bool vs[i].on, .int .i64 vs[i].c, .int .i64 vs[i].r, .int .i64 vs[i].s, .slice vs[i].A vs[i].L vs[i].C] 27))).step hb)
      clear hb c0 c1 c2 c3 c4 c5 c6 c7 c8
      go_wp2
      go_roundg (L - (i + 1))
      case measure => omega
      case rel => exact ⟨i + 1, by go_num, by omega, by omega, HLI2.out⟩
    · have hd : decide ((i : Int) < (L : Int)) = false := decide_eq_false (by omega)
      have hd2 : decide (i < L) = false := decide_eq_false hlt
      clear hlt
      go_wp2_with fail
      go_loopg [11, 12, 42] L (fun g v11 v12 v42 wx => ∃ i : Nat, v11 = .int .i64 0 ∧ v12 = .int .i64 0 ∧ v42 = .int .i64 (i : Int) ∧ i ≤ L ∧ g = L - i ∧ LiftI w ab ao vs wx)
      case atStart => exact ⟨0, rfl, rfl, rfl, Nat.zero_le _, rfl, HLI.out⟩
      case round =>
        clear HLI hd hd2 hi
        obtain ⟨i, rfl, rfl, rfl, hi, rfl, hli⟩ := hrel
        have HLI := Lib.hid hli
        clear hli
        by_cases hlt : i < L
        · have hd : decide ((i : Int) < (L : Int)) = true := decide_eq_true (by omega)
          have hd2 : decide (i < L) = true := decide_eq_true hlt
          have hii : i < vs.length := by rw [HLL.out]; exact hlt
          obtain ⟨c0, c1, c2, c3, c4, c5, c6, c7, c8⟩ := HLI.out.2.1.at i hii
          have hi0 : (0 : Int) ≤ (i : Int) := by omega
          have hi1 : (i : Int) < (L : Int) := by omega
          have hkf := hno vs[i] (List.getElem_mem hii)
          go_wp2_with fail
          refine (letter_one 115 i (by omega) _).mono ?_
          rintro e w2 ⟨rfl, rfl⟩
          have HLI2 := Lib.hid (HLI.out.step ((Below.refl wr.heap.size wr).alloc (Nat.le_refl _) (.cells #[.int .i64 vs[i].k, .string vs[i].n, .string vs[i].d, .string vs[i].t, .bool vs[i].on, .int .i64 vs[i].c, .int .i64 vs[i].r, .int .i64 vs[i].s, .slice vs[i].A vs[i].L vs[i].C] 27)))
          go_wp2
          go_roundg (L - (i + 1))
          case measure => omega
          case rel => exact ⟨i + 1, rfl, rfl, by go_num, by omega, by omega, HLI2.out⟩
        · have hd : decide ((i : Int) < (L : Int)) = false := decide_eq_false (by omega)
          have hd2 : decide (i < L) = false := decide_eq_false hlt
          clear hlt
          obtain ⟨i0, hi0', hz0, hz1, hz2⟩ := info_val
          have hfl : (flat vs).length = L * 9 := by rw [flat_len, HLL.out]
          have hvals := HLI.out.2.1
          have hml : 0 + L ≤ maxLen := by unfold maxLen; omega
          clear hi
          go_wp2_with (at_builtin; refine wpList_append_own _ rfl _ _ 25 rfl w.heap.size 27 i0 _ 9 112 Tryz.underlying25 hi0' hz0 hz1 hz2 rfl (by decide) (.slice none 0 0) 0 [] rfl (World.ownsRow_nil _ _ _ _) ⟨ab, ao, none⟩ L C (flat vs) rfl hfl hvals (flat_one vs) hml (by omega) HLI.out.2.2.2.size ?_)
          intro v5 w5 hown5 hgrow5 _
          obtain ⟨g, cap, rfl, hg, hcap, hva⟩ := vals_of_owns hown5 HLL.out h0
          have HLI5 := Lib.hid (HLI.out.step (below_none hgrow5))
          have HVA := Lib.hid hva
          clear hown5 hgrow5 hg hcap hva hvals hfl hml hi0' hz0 hz1 hz2
          go_wp2_with fail
          refine (HF.out _ g cap HLI5.out.2.2.2 HVA.out).mono ?_
          rintro e w6 ⟨rfl, hb⟩
          have HLI6 := Lib.hid (HLI5.out.step hb)
          clear hb
          unfold Val.agg
          simp only []
          go_wp2_with fail
          refine (HO.out _ HLI6.out.2.2.1).mono ?_
          rintro e w7 ⟨rfl, hb⟩
          have HLI7 := Lib.hid (HLI6.out.step hb)
          clear hb
          have HLI8 := Lib.hid (HLI7.out.step ((Below.refl w7.heap.size w7).alloc (Nat.le_refl _) (.cells #[.int .i64 qk, .string qn, .string qd, .string qt, .bool qon, .int .i64 qc, .int .i64 qr, .int .i64 qs, .slice none 0 0] 27)))
          obtain ⟨⟨a0, a1, a2, a3, a4, a5, a6, a7, a8⟩, b0, b1, b2, b3, b4, b5, b6, b7, b8⟩ := nine_at HLI7.out.1
          obtain ⟨⟨r0, r1, r2, r3, r4, r5, r6, r7, r8⟩, g0, g1, g2, g3, g4, g5, g6, g7, g8⟩ := nine_at HLI8.out.1
          have hlt7 := heap_lt HLI7.out.1
          have HF1 := Lib.hid (set9_at HLI7.out.1 (.int .i64 qk) (.string qn) (.string qd) (.string qt) (.bool qon) (.int .i64 qc) (.int .i64 qr) (.int .i64 qs) (.slice none 0 0))
          have HF2 := Lib.hid ((Below.heap_alloc _ (.cells #[.int .i64 qk, .string qn, .string qd, .string qt, .bool qon, .int .i64 qc, .int .i64 qr, .int .i64 qs, .slice none 0 0] 27) _ (heap_lt HF1.out)).trans HF1.out)
          have HB2 := Lib.hid (nine_end (x0 := (.int .i64 qk)) (x1 := (.string qn)) (x2 := (.string qd)) (x3 := (.string qt)) (x4 := (.bool qon)) (x5 := (.int .i64 qc)) (x6 := (.int .i64 qr)) (x7 := (.int .i64 qs)) (x8 := (.slice none 0 0)) HLI7.out.1 HLI7.out.2.2.2 (Nat.le_refl _)).1
          have HZ2 := Lib.hid (HB2.out.alloc HB2.out.size (.cells #[.int .i64 qk, .string qn, .string qd, .string qt, .bool qon, .int .i64 qc, .int .i64 qr, .int .i64 qs, .slice none 0 0] 27))
          obtain ⟨⟨e0, e1, e2, e3, e4, e5, e6, e7, e8⟩, _⟩ := nine_at HF2.out
          go_wp2
          refine bodyPost_ret (v := .tuple #[.agg #[.int .i64 qk, .string qn, .string qd, .string qt, .bool qon, .int .i64 qc, .int .i64 qr, .int .i64 qs, .slice none 0 0], .int .i64 0]) (by simp [results, Tryz.results16, go_sem, e0, e1, e2, e3, e4, e5, e6, e7, e8]) rfl ⟨rfl, HZ2.out⟩
end Go.Proofs.YtnlaecjniellpaaGreatDoor.Num
