/- Numbers as texts of digits, fractions, values and the functions of fmath: contracts of the program's functions, joined from smaller texts. Conditions stand at each theorem. -/
import Derived.Test.YtgponoogifeopaaGreatDoorFtaB
import Derived.Test.YtgponoogifeopaaGreatDoorNumH
import Derived.BigQuiet
import Derived.IntWalk

/- package fstat's table of functions. No conditions. -/
namespace Go.Proofs.YtgponoogifeopaaGreatDoor.Num.Ft
open Go.RowKit Go.Lib Go.MapKept Num

/-- what fstat.num and fstat.many leave -/
def RowRet (w : World) (r : Row) (e : Ending) (w' : World) : Prop := ∃ v, e = .returned (.agg #[.int .i64 r.least, .int .i64 r.most, .string r.kinds, v]) ∧ RowFn w' v r ∧ Below w.heap.size w w'
attribute [local go_sem] run_store_func
set_option maxHeartbeats 1000000 in
theorem num_any (least most : Int) (kinds : ByteArray) (F : Value) (w : World) (hF : ∃ f c d, F = .func f c d) :
    Calls Tryz.prog 74 #[.int .i64 least, .int .i64 most, .string kinds, F] w fun e w' => e = .returned (.agg #[.int .i64 least, .int .i64 most, .string kinds, .func (.func 180) #[] #[.pointer (some ⟨w.heap.size, 0, none⟩)]]) ∧ w'.cell? ⟨w.heap.size, 0, none⟩ = some F ∧ Below w.heap.size w w' := by
  obtain ⟨f, c, d, rfl⟩ := hF
  have hmf : ∀ (fn : Fn) (first cap : Array Value) (w : World), (Instr.makeFunc fn first cap).run Tryz.prog w = .ok (.func fn first cap) w := fun _ _ _ _ => rfl
  go_enter Tryz.func74, Tryz.ntmps74
  go_wp2
  have hc : (((w.alloc (.cells #[.func f c d] 71)).alloc (.cells #[.int .i64 least, .int .i64 most, .string kinds, .func (.func 180) #[] #[.pointer (some ⟨w.heap.size, 0, none⟩)]] 63))).cell? ⟨w.heap.size, 0, none⟩ = some (.func f c d) :=
    Lib.cell_of_heap ((Below.heap_alloc _ _ _ (by simp)).trans (heap_alloc_new w _)) 0
  exact bodyPost_ret (v := .agg #[.int .i64 least, .int .i64 most, .string kinds, .func (.func 180) #[] #[.pointer (some ⟨w.heap.size, 0, none⟩)]]) (by simp [results, Tryz.results74, go_sem]) rfl ⟨rfl, hc, ((Below.refl _ _).alloc (Nat.le_refl _) _).alloc (by simp) _⟩
theorem num_row (r : Row) (hr : r.num = false) (hraw : isRaw r.fn = false) (w : World) : Calls Tryz.prog 74 #[.int .i64 r.least, .int .i64 r.most, .string r.kinds, .func (.func r.fn) #[] #[]] w (RowRet w r) :=
  (num_any r.least r.most r.kinds _ w ⟨_, _, _, rfl⟩).mono fun e w' ⟨he, hc, hb⟩ => ⟨_, he, by unfold RowFn; rw [if_neg (by rw [hraw]; decide), hr, if_neg (by decide)]; exact ⟨_, rfl, hc⟩, hb⟩

set_option maxHeartbeats 1000000 in
theorem many_row (r : Row) (hr : r.num = true) (hl : r.least = 1) (hm : r.most = 255) (hk : r.kinds = { data := #[97] }) (hraw : isRaw r.fn = false) (w : World) : Calls Tryz.prog 90 #[.func (.func r.fn) #[] #[]] w (RowRet w r) := by
  obtain ⟨name, least, most, kinds, num, F⟩ := r
  simp only at hr hl hm hk hraw
  subst hr
  subst hl
  subst hm
  subst hk
  have hmf : ∀ (fn : Fn) (first cap : Array Value) (w : World), (Instr.makeFunc fn first cap).run Tryz.prog w = .ok (.func fn first cap) w := fun _ _ _ _ => rfl
  obtain ⟨hx, hr, hb⟩ := two_new w (.cells #[.func (.func F) #[] #[]] 83) (.cells #[.int .i64 0, .int .i64 0, .string { data := #[] }, .nilFunc] 63)
  have HX := Lib.hid hx
  have HR := Lib.hid hr
  have HL := Lib.hid hb
  have TE := Lib.hid (fun W => num_any 1 255 { data := #[97] } (.func (.func 185) #[] #[.pointer (some ⟨w.heap.size, 0, none⟩)]) W ⟨_, _, _, rfl⟩)
  clear hx hr hb
  go_enter Tryz.func90, Tryz.ntmps90
  go_wp2_with fail
  refine (TE.out _).mono ?_
  rintro e W1 ⟨rfl, hc, hb⟩
  have HC := Lib.hid hc
  clear hc
  replace HX := Lib.hid (keep_block HX.out hb)
  replace HR := Lib.hid (keep_block HR.out hb)
  replace HL := Lib.hid (HL.out.trans (hb.mono HL.out.size))
  clear hb
  obtain ⟨⟨r0, r1, r2, r3⟩, f0, f1, f2, f3⟩ := quad_at HR.out
  go_wp2
  have hpos : ((w.alloc (.cells #[.func (.func F) #[] #[]] 83)).alloc (.cells #[.int .i64 0, .int .i64 0, .string { data := #[] }, .nilFunc] 63)).heap.size = w.heap.size + 1 + 1 := by simp
  rw [hpos] at HC
  have hF := set4_at HR.out (.int .i64 1) (.int .i64 255) (.string { data := #[97] }) (.func (.func 180) #[] #[.pointer (some ⟨w.heap.size + 1 + 1, 0, none⟩)])
  obtain ⟨⟨e0, e1, e2, e3⟩, _⟩ := quad_at hF
  refine bodyPost_ret (v := .agg #[.int .i64 1, .int .i64 255, .string { data := #[97] }, .func (.func 180) #[] #[.pointer (some ⟨w.heap.size + 1 + 1, 0, none⟩)]]) (by simp [results, Tryz.results90, go_sem, e0, e1, e2, e3]) rfl ⟨_, rfl, ?_, ?_⟩
  · unfold RowFn
    rw [if_neg (by rw [hraw]; decide), if_pos rfl]
    refine ⟨_, _, rfl, but_cell HC.out (fun k hk => set4_other _ _ _ _ _ _ hk) (by simp only []; omega), ?_⟩
    exact but_cell (Lib.cell_of_heap HX.out 0) (fun k hk => set4_other _ _ _ _ _ _ hk) (by simp only []; omega)
  · have hge : w.heap.size ≤ w.heap.size + 1 := Nat.le_succ _
    exact (((HL.out.setCell (p := ⟨w.heap.size + 1, 0, none⟩) hge _).setCell (p := ⟨w.heap.size + 1, 1, none⟩) hge _).setCell (p := ⟨w.heap.size + 1, 2, none⟩) hge _).setCell (p := ⟨w.heap.size + 1, 3, none⟩) hge _

theorem many_lit (name : ByteArray) (F : FuncId) (hraw : isRaw F = false) (w : World) : Calls Tryz.prog 90 #[.func (.func F) #[] #[]] w fun e w' => ∃ v, e = .returned (.agg #[.int .i64 1, .int .i64 255, .string { data := #[97] }, v]) ∧ RowFn w' v ⟨name, 1, 255, { data := #[97] }, true, F⟩ ∧ Below w.heap.size w w' := many_row ⟨name, 1, 255, { data := #[97] }, true, F⟩ rfl rfl rfl rfl hraw w
theorem num_lit (name : ByteArray) (least most : Int) (kinds : ByteArray) (F : FuncId) (hraw : isRaw F = false) (w : World) : Calls Tryz.prog 74 #[.int .i64 least, .int .i64 most, .string kinds, .func (.func F) #[] #[]] w fun e w' => ∃ v, e = .returned (.agg #[.int .i64 least, .int .i64 most, .string kinds, v]) ∧ RowFn w' v ⟨name, least, most, kinds, false, F⟩ ∧ Below w.heap.size w w' := num_row ⟨name, least, most, kinds, false, F⟩ rfl hraw w

def allRows : List Row := [⟨{ data := #[67, 79, 85, 78, 84] }, 1, 255, { data := #[97] }, false, 75⟩,
  ⟨{ data := #[67, 79, 85, 78, 84, 65] }, 1, 255, { data := #[97] }, false, 76⟩,
  ⟨{ data := #[67, 79, 85, 78, 84, 66, 76, 65, 78, 75] }, 1, 1, { data := #[97] }, false, 78⟩,
  ⟨{ data := #[65, 86, 69, 82, 65, 71, 69] }, 1, 255, { data := #[97] }, false, 79⟩,
  ⟨{ data := #[77, 73, 78] }, 1, 255, { data := #[97] }, false, 83⟩,
  ⟨{ data := #[77, 65, 88] }, 1, 255, { data := #[97] }, false, 85⟩,
  ⟨{ data := #[65, 86, 69, 82, 65, 71, 69, 65] }, 1, 255, { data := #[97] }, false, 86⟩,
  ⟨{ data := #[77, 73, 78, 65] }, 1, 255, { data := #[97] }, false, 88⟩,
  ⟨{ data := #[77, 65, 88, 65] }, 1, 255, { data := #[97] }, false, 89⟩,
  ⟨{ data := #[77, 69, 68, 73, 65, 78] }, 1, 255, { data := #[97] }, true, 91⟩,
  ⟨{ data := #[77, 79, 68, 69] }, 1, 255, { data := #[97] }, true, 94⟩,
  ⟨{ data := #[76, 65, 82, 71, 69] }, 2, 2, { data := #[97, 115] }, false, 95⟩,
  ⟨{ data := #[83, 77, 65, 76, 76] }, 2, 2, { data := #[97, 115] }, false, 97⟩,
  ⟨{ data := #[82, 65, 78, 75] }, 2, 3, { data := #[115, 97, 115] }, false, 98⟩,
  ⟨{ data := #[80, 69, 82, 67, 69, 78, 84, 73, 76, 69] }, 2, 2, { data := #[97, 115] }, false, 99⟩,
  ⟨{ data := #[81, 85, 65, 82, 84, 73, 76, 69] }, 2, 2, { data := #[97, 115] }, false, 103⟩,
  ⟨{ data := #[80, 69, 82, 67, 69, 78, 84, 82, 65, 78, 75] }, 2, 3, { data := #[97, 115, 115] }, false, 104⟩,
  ⟨{ data := #[70, 82, 69, 81, 85, 69, 78, 67, 89] }, 2, 2, { data := #[97] }, false, 105⟩,
  ⟨{ data := #[68, 69, 86, 83, 81] }, 1, 255, { data := #[97] }, true, 202⟩,
  ⟨{ data := #[65, 86, 69, 68, 69, 86] }, 1, 255, { data := #[97] }, true, 203⟩,
  ⟨{ data := #[86, 65, 82] }, 1, 255, { data := #[97] }, true, 205⟩,
  ⟨{ data := #[86, 65, 82, 80] }, 1, 255, { data := #[97] }, true, 206⟩,
  ⟨{ data := #[83, 84, 68, 69, 86] }, 1, 255, { data := #[97] }, true, 207⟩,
  ⟨{ data := #[83, 84, 68, 69, 86, 80] }, 1, 255, { data := #[97] }, true, 209⟩,
  ⟨{ data := #[72, 65, 82, 77, 69, 65, 78] }, 1, 255, { data := #[97] }, true, 210⟩,
  ⟨{ data := #[84, 82, 73, 77, 77, 69, 65, 78] }, 2, 2, { data := #[97, 115] }, false, 213⟩,
  ⟨{ data := #[75, 85, 82, 84] }, 1, 255, { data := #[97] }, true, 214⟩,
  ⟨{ data := #[67, 79, 86, 65, 82] }, 2, 2, { data := #[97] }, false, 215⟩,
  ⟨{ data := #[83, 76, 79, 80, 69] }, 2, 2, { data := #[97] }, false, 217⟩,
  ⟨{ data := #[73, 78, 84, 69, 82, 67, 69, 80, 84] }, 2, 2, { data := #[97] }, false, 219⟩,
  ⟨{ data := #[70, 79, 82, 69, 67, 65, 83, 84] }, 3, 3, { data := #[115, 97] }, false, 220⟩,
  ⟨{ data := #[82, 83, 81] }, 2, 2, { data := #[97] }, false, 221⟩,
  ⟨{ data := #[67, 79, 82, 82, 69, 76] }, 2, 2, { data := #[97] }, false, 222⟩,
  ⟨{ data := #[66, 73, 78, 79, 77, 68, 73, 83, 84] }, 4, 4, { data := #[115] }, false, 223⟩,
  ⟨{ data := #[72, 89, 80, 71, 69, 79, 77, 68, 73, 83, 84] }, 4, 4, { data := #[115] }, false, 224⟩,
  ⟨{ data := #[83, 84, 65, 78, 68, 65, 82, 68, 73, 90, 69] }, 3, 3, { data := #[115] }, false, 225⟩,
  ⟨{ data := #[80, 82, 79, 66] }, 3, 4, { data := #[97, 97, 115, 115] }, false, 226⟩]
set_option maxHeartbeats 8000000 in
set_option maxRecDepth 100000 in
theorem spread_part (b : Nat) (w : World) (h : TableAt w b (allRows.take 18)) : Calls Tryz.prog 107 #[.map (some b)] w fun e w' => e = .returned (.tuple #[]) ∧ TableAt w' b (allRows.take 27) ∧ w.grownBy w' (some b) := by
  have TA := Lib.hid h
  have HL := Lib.hid (only_refl w (some b))
  clear h
  go_enter Tryz.func107, Tryz.ntmps107
  go_wp2_with fail
  refine (many_lit { data := #[68, 69, 86, 83, 81] } 202 (by kernel_rfl) _).mono ?_
  rintro e W18 ⟨v, rfl, hr, hb⟩
  have RF := Lib.hid hr
  replace TA := Lib.hid (TA.out.below hb)
  replace HL := Lib.hid (kept_trans HL.out (kept_below hb))
  clear hr hb
  go_wp2_with (first | (refine wpList_insert_row _ rfl _ _ _ _ (.inr rfl) rfl TA.out ⟨{ data := #[68, 69, 86, 83, 81] }, 1, 255, { data := #[97] }, true, 202⟩ v rfl rfl RF.out (fresh_of (by kernel_rfl)) Tryz.underlying50 Tryz.underlying9 ?_; intro V18 ta hg; replace TA := Lib.hid (show TableAt V18 _ (allRows.take 19) from ta); replace HL := Lib.hid (kept_trans HL.out hg); clear ta hg RF))
  go_wp2_with fail
  refine (many_lit { data := #[65, 86, 69, 68, 69, 86] } 203 (by kernel_rfl) _).mono ?_
  rintro e W19 ⟨v, rfl, hr, hb⟩
  have RF := Lib.hid hr
  replace TA := Lib.hid (TA.out.below hb)
  replace HL := Lib.hid (kept_trans HL.out (kept_below hb))
  clear hr hb
  go_wp2_with (first | (refine wpList_insert_row _ rfl _ _ _ _ (.inr rfl) rfl TA.out ⟨{ data := #[65, 86, 69, 68, 69, 86] }, 1, 255, { data := #[97] }, true, 203⟩ v rfl rfl RF.out (fresh_of (by kernel_rfl)) Tryz.underlying50 Tryz.underlying9 ?_; intro V19 ta hg; replace TA := Lib.hid (show TableAt V19 _ (allRows.take 20) from ta); replace HL := Lib.hid (kept_trans HL.out hg); clear ta hg RF))
  go_wp2_with fail
  refine (many_lit { data := #[86, 65, 82] } 205 (by kernel_rfl) _).mono ?_
  rintro e W20 ⟨v, rfl, hr, hb⟩
  have RF := Lib.hid hr
  replace TA := Lib.hid (TA.out.below hb)
  replace HL := Lib.hid (kept_trans HL.out (kept_below hb))
  clear hr hb
  go_wp2_with (first | (refine wpList_insert_row _ rfl _ _ _ _ (.inr rfl) rfl TA.out ⟨{ data := #[86, 65, 82] }, 1, 255, { data := #[97] }, true, 205⟩ v rfl rfl RF.out (fresh_of (by kernel_rfl)) Tryz.underlying50 Tryz.underlying9 ?_; intro V20 ta hg; replace TA := Lib.hid (show TableAt V20 _ (allRows.take 21) from ta); replace HL := Lib.hid (kept_trans HL.out hg); clear ta hg RF))
  go_wp2_with fail
  refine (many_lit { data := #[86, 65, 82, 80] } 206 (by kernel_rfl) _).mono ?_
  rintro e W21 ⟨v, rfl, hr, hb⟩
  have RF := Lib.hid hr
  replace TA := Lib.hid (TA.out.below hb)
  replace HL := Lib.hid (kept_trans HL.out (kept_below hb))
  clear hr hb
  go_wp2_with (first | (refine wpList_insert_row _ rfl _ _ _ _ (.inr rfl) rfl TA.out ⟨{ data := #[86, 65, 82, 80] }, 1, 255, { data := #[97] }, true, 206⟩ v rfl rfl RF.out (fresh_of (by kernel_rfl)) Tryz.underlying50 Tryz.underlying9 ?_; intro V21 ta hg; replace TA := Lib.hid (show TableAt V21 _ (allRows.take 22) from ta); replace HL := Lib.hid (kept_trans HL.out hg); clear ta hg RF))
  go_wp2_with fail
  refine (many_lit { data := #[83, 84, 68, 69, 86] } 207 (by kernel_rfl) _).mono ?_
  rintro e W22 ⟨v, rfl, hr, hb⟩
  have RF := Lib.hid hr
  replace TA := Lib.hid (TA.out.below hb)
  replace HL := Lib.hid (kept_trans HL.out (kept_below hb))
  clear hr hb
  go_wp2_with (first | (refine wpList_insert_row _ rfl _ _ _ _ (.inr rfl) rfl TA.out ⟨{ data := #[83, 84, 68, 69, 86] }, 1, 255, { data := #[97] }, true, 207⟩ v rfl rfl RF.out (fresh_of (by kernel_rfl)) Tryz.underlying50 Tryz.underlying9 ?_; intro V22 ta hg; replace TA := Lib.hid (show TableAt V22 _ (allRows.take 23) from ta); replace HL := Lib.hid (kept_trans HL.out hg); clear ta hg RF))
  go_wp2_with fail
  refine (many_lit { data := #[83, 84, 68, 69, 86, 80] } 209 (by kernel_rfl) _).mono ?_
  rintro e W23 ⟨v, rfl, hr, hb⟩
  have RF := Lib.hid hr
  replace TA := Lib.hid (TA.out.below hb)
  replace HL := Lib.hid (kept_trans HL.out (kept_below hb))
  clear hr hb
  go_wp2_with (first | (refine wpList_insert_row _ rfl _ _ _ _ (.inr rfl) rfl TA.out ⟨{ data := #[83, 84, 68, 69, 86, 80] }, 1, 255, { data := #[97] }, true, 209⟩ v rfl rfl RF.out (fresh_of (by kernel_rfl)) Tryz.underlying50 Tryz.underlying9 ?_; intro V23 ta hg; replace TA := Lib.hid (show TableAt V23 _ (allRows.take 24) from ta); replace HL := Lib.hid (kept_trans HL.out hg); clear ta hg RF))
  go_wp2_with fail
  refine (many_lit { data := #[72, 65, 82, 77, 69, 65, 78] } 210 (by kernel_rfl) _).mono ?_
  rintro e W24 ⟨v, rfl, hr, hb⟩
  have RF := Lib.hid hr
  replace TA := Lib.hid (TA.out.below hb)
  replace HL := Lib.hid (kept_trans HL.out (kept_below hb))
  clear hr hb
  go_wp2_with (first | (refine wpList_insert_row _ rfl _ _ _ _ (.inr rfl) rfl TA.out ⟨{ data := #[72, 65, 82, 77, 69, 65, 78] }, 1, 255, { data := #[97] }, true, 210⟩ v rfl rfl RF.out (fresh_of (by kernel_rfl)) Tryz.underlying50 Tryz.underlying9 ?_; intro V24 ta hg; replace TA := Lib.hid (show TableAt V24 _ (allRows.take 25) from ta); replace HL := Lib.hid (kept_trans HL.out hg); clear ta hg RF))
  go_wp2_with fail
  refine (num_lit { data := #[84, 82, 73, 77, 77, 69, 65, 78] } 2 2 { data := #[97, 115] } 213 (by kernel_rfl) _).mono ?_
  rintro e W25 ⟨v, rfl, hr, hb⟩
  have RF := Lib.hid hr
  replace TA := Lib.hid (TA.out.below hb)
  replace HL := Lib.hid (kept_trans HL.out (kept_below hb))
  clear hr hb
  go_wp2_with (first | (refine wpList_insert_row _ rfl _ _ _ _ (.inr rfl) rfl TA.out ⟨{ data := #[84, 82, 73, 77, 77, 69, 65, 78] }, 2, 2, { data := #[97, 115] }, false, 213⟩ v rfl rfl RF.out (fresh_of (by kernel_rfl)) Tryz.underlying50 Tryz.underlying9 ?_; intro V25 ta hg; replace TA := Lib.hid (show TableAt V25 _ (allRows.take 26) from ta); replace HL := Lib.hid (kept_trans HL.out hg); clear ta hg RF))
  go_wp2_with fail
  refine (many_lit { data := #[75, 85, 82, 84] } 214 (by kernel_rfl) _).mono ?_
  rintro e W26 ⟨v, rfl, hr, hb⟩
  have RF := Lib.hid hr
  replace TA := Lib.hid (TA.out.below hb)
  replace HL := Lib.hid (kept_trans HL.out (kept_below hb))
  clear hr hb
  go_wp2_with (first | (refine wpList_insert_row _ rfl _ _ _ _ (.inr rfl) rfl TA.out ⟨{ data := #[75, 85, 82, 84] }, 1, 255, { data := #[97] }, true, 214⟩ v rfl rfl RF.out (fresh_of (by kernel_rfl)) Tryz.underlying50 Tryz.underlying9 ?_; intro V26 ta hg; replace TA := Lib.hid (show TableAt V26 _ (allRows.take 27) from ta); replace HL := Lib.hid (kept_trans HL.out hg); clear ta hg RF))
  go_wp2
  go_end0
  exact ⟨rfl, TA.out, HL.out⟩

set_option maxHeartbeats 8000000 in
set_option maxRecDepth 100000 in
theorem lines_part (b : Nat) (w : World) (h : TableAt w b (allRows.take 27)) : Calls Tryz.prog 108 #[.map (some b)] w fun e w' => e = .returned (.tuple #[]) ∧ TableAt w' b (allRows.take 33) ∧ w.grownBy w' (some b) := by
  have TA := Lib.hid h
  have HL := Lib.hid (only_refl w (some b))
  clear h
  go_enter Tryz.func108, Tryz.ntmps108
  go_wp2_with fail
  refine (num_lit { data := #[67, 79, 86, 65, 82] } 2 2 { data := #[97] } 215 (by kernel_rfl) _).mono ?_
  rintro e W27 ⟨v, rfl, hr, hb⟩
  have RF := Lib.hid hr
  replace TA := Lib.hid (TA.out.below hb)
  replace HL := Lib.hid (kept_trans HL.out (kept_below hb))
  clear hr hb
  go_wp2_with (first | (refine wpList_insert_row _ rfl _ _ _ _ (.inr rfl) rfl TA.out ⟨{ data := #[67, 79, 86, 65, 82] }, 2, 2, { data := #[97] }, false, 215⟩ v rfl rfl RF.out (fresh_of (by kernel_rfl)) Tryz.underlying50 Tryz.underlying9 ?_; intro V27 ta hg; replace TA := Lib.hid (show TableAt V27 _ (allRows.take 28) from ta); replace HL := Lib.hid (kept_trans HL.out hg); clear ta hg RF))
  go_wp2_with fail
  refine (num_lit { data := #[83, 76, 79, 80, 69] } 2 2 { data := #[97] } 217 (by kernel_rfl) _).mono ?_
  rintro e W28 ⟨v, rfl, hr, hb⟩
  have RF := Lib.hid hr
  replace TA := Lib.hid (TA.out.below hb)
  replace HL := Lib.hid (kept_trans HL.out (kept_below hb))
  clear hr hb
  go_wp2_with (first | (refine wpList_insert_row _ rfl _ _ _ _ (.inr rfl) rfl TA.out ⟨{ data := #[83, 76, 79, 80, 69] }, 2, 2, { data := #[97] }, false, 217⟩ v rfl rfl RF.out (fresh_of (by kernel_rfl)) Tryz.underlying50 Tryz.underlying9 ?_; intro V28 ta hg; replace TA := Lib.hid (show TableAt V28 _ (allRows.take 29) from ta); replace HL := Lib.hid (kept_trans HL.out hg); clear ta hg RF))
  go_wp2_with fail
  refine (num_lit { data := #[73, 78, 84, 69, 82, 67, 69, 80, 84] } 2 2 { data := #[97] } 219 (by kernel_rfl) _).mono ?_
  rintro e W29 ⟨v, rfl, hr, hb⟩
  have RF := Lib.hid hr
  replace TA := Lib.hid (TA.out.below hb)
  replace HL := Lib.hid (kept_trans HL.out (kept_below hb))
  clear hr hb
  go_wp2_with (first | (refine wpList_insert_row _ rfl _ _ _ _ (.inr rfl) rfl TA.out ⟨{ data := #[73, 78, 84, 69, 82, 67, 69, 80, 84] }, 2, 2, { data := #[97] }, false, 219⟩ v rfl rfl RF.out (fresh_of (by kernel_rfl)) Tryz.underlying50 Tryz.underlying9 ?_; intro V29 ta hg; replace TA := Lib.hid (show TableAt V29 _ (allRows.take 30) from ta); replace HL := Lib.hid (kept_trans HL.out hg); clear ta hg RF))
  go_wp2_with fail
  refine (num_lit { data := #[70, 79, 82, 69, 67, 65, 83, 84] } 3 3 { data := #[115, 97] } 220 (by kernel_rfl) _).mono ?_
  rintro e W30 ⟨v, rfl, hr, hb⟩
  have RF := Lib.hid hr
  replace TA := Lib.hid (TA.out.below hb)
  replace HL := Lib.hid (kept_trans HL.out (kept_below hb))
  clear hr hb
  go_wp2_with (first | (refine wpList_insert_row _ rfl _ _ _ _ (.inr rfl) rfl TA.out ⟨{ data := #[70, 79, 82, 69, 67, 65, 83, 84] }, 3, 3, { data := #[115, 97] }, false, 220⟩ v rfl rfl RF.out (fresh_of (by kernel_rfl)) Tryz.underlying50 Tryz.underlying9 ?_; intro V30 ta hg; replace TA := Lib.hid (show TableAt V30 _ (allRows.take 31) from ta); replace HL := Lib.hid (kept_trans HL.out hg); clear ta hg RF))
  go_wp2_with fail
  refine (num_lit { data := #[82, 83, 81] } 2 2 { data := #[97] } 221 (by kernel_rfl) _).mono ?_
  rintro e W31 ⟨v, rfl, hr, hb⟩
  have RF := Lib.hid hr
  replace TA := Lib.hid (TA.out.below hb)
  replace HL := Lib.hid (kept_trans HL.out (kept_below hb))
  clear hr hb
  go_wp2_with (first | (refine wpList_insert_row _ rfl _ _ _ _ (.inr rfl) rfl TA.out ⟨{ data := #[82, 83, 81] }, 2, 2, { data := #[97] }, false, 221⟩ v rfl rfl RF.out (fresh_of (by kernel_rfl)) Tryz.underlying50 Tryz.underlying9 ?_; intro V31 ta hg; replace TA := Lib.hid (show TableAt V31 _ (allRows.take 32) from ta); replace HL := Lib.hid (kept_trans HL.out hg); clear ta hg RF))
  go_wp2_with fail
  refine (num_lit { data := #[67, 79, 82, 82, 69, 76] } 2 2 { data := #[97] } 222 (by kernel_rfl) _).mono ?_
  rintro e W32 ⟨v, rfl, hr, hb⟩
  have RF := Lib.hid hr
  replace TA := Lib.hid (TA.out.below hb)
  replace HL := Lib.hid (kept_trans HL.out (kept_below hb))
  clear hr hb
  go_wp2_with (first | (refine wpList_insert_row _ rfl _ _ _ _ (.inr rfl) rfl TA.out ⟨{ data := #[67, 79, 82, 82, 69, 76] }, 2, 2, { data := #[97] }, false, 222⟩ v rfl rfl RF.out (fresh_of (by kernel_rfl)) Tryz.underlying50 Tryz.underlying9 ?_; intro V32 ta hg; replace TA := Lib.hid (show TableAt V32 _ (allRows.take 33) from ta); replace HL := Lib.hid (kept_trans HL.out hg); clear ta hg RF))
  go_wp2
  go_end0
  exact ⟨rfl, TA.out, HL.out⟩

set_option maxHeartbeats 8000000 in
set_option maxRecDepth 100000 in
theorem chances_part (b : Nat) (w : World) (h : TableAt w b (allRows.take 33)) : Calls Tryz.prog 109 #[.map (some b)] w fun e w' => e = .returned (.tuple #[]) ∧ TableAt w' b (allRows.take 37) ∧ w.grownBy w' (some b) := by
  have TA := Lib.hid h
  have HL := Lib.hid (only_refl w (some b))
  clear h
  go_enter Tryz.func109, Tryz.ntmps109
  go_wp2_with fail
  refine (num_lit { data := #[66, 73, 78, 79, 77, 68, 73, 83, 84] } 4 4 { data := #[115] } 223 (by kernel_rfl) _).mono ?_
  rintro e W33 ⟨v, rfl, hr, hb⟩
  have RF := Lib.hid hr
  replace TA := Lib.hid (TA.out.below hb)
  replace HL := Lib.hid (kept_trans HL.out (kept_below hb))
  clear hr hb
  go_wp2_with (first | (refine wpList_insert_row _ rfl _ _ _ _ (.inr rfl) rfl TA.out ⟨{ data := #[66, 73, 78, 79, 77, 68, 73, 83, 84] }, 4, 4, { data := #[115] }, false, 223⟩ v rfl rfl RF.out (fresh_of (by kernel_rfl)) Tryz.underlying50 Tryz.underlying9 ?_; intro V33 ta hg; replace TA := Lib.hid (show TableAt V33 _ (allRows.take 34) from ta); replace HL := Lib.hid (kept_trans HL.out hg); clear ta hg RF))
  go_wp2_with fail
  refine (num_lit { data := #[72, 89, 80, 71, 69, 79, 77, 68, 73, 83, 84] } 4 4 { data := #[115] } 224 (by kernel_rfl) _).mono ?_
  rintro e W34 ⟨v, rfl, hr, hb⟩
  have RF := Lib.hid hr
  replace TA := Lib.hid (TA.out.below hb)
  replace HL := Lib.hid (kept_trans HL.out (kept_below hb))
  clear hr hb
  go_wp2_with (first | (refine wpList_insert_row _ rfl _ _ _ _ (.inr rfl) rfl TA.out ⟨{ data := #[72, 89, 80, 71, 69, 79, 77, 68, 73, 83, 84] }, 4, 4, { data := #[115] }, false, 224⟩ v rfl rfl RF.out (fresh_of (by kernel_rfl)) Tryz.underlying50 Tryz.underlying9 ?_; intro V34 ta hg; replace TA := Lib.hid (show TableAt V34 _ (allRows.take 35) from ta); replace HL := Lib.hid (kept_trans HL.out hg); clear ta hg RF))
  go_wp2_with fail
  refine (num_lit { data := #[83, 84, 65, 78, 68, 65, 82, 68, 73, 90, 69] } 3 3 { data := #[115] } 225 (by kernel_rfl) _).mono ?_
  rintro e W35 ⟨v, rfl, hr, hb⟩
  have RF := Lib.hid hr
  replace TA := Lib.hid (TA.out.below hb)
  replace HL := Lib.hid (kept_trans HL.out (kept_below hb))
  clear hr hb
  go_wp2_with (first | (refine wpList_insert_row _ rfl _ _ _ _ (.inr rfl) rfl TA.out ⟨{ data := #[83, 84, 65, 78, 68, 65, 82, 68, 73, 90, 69] }, 3, 3, { data := #[115] }, false, 225⟩ v rfl rfl RF.out (fresh_of (by kernel_rfl)) Tryz.underlying50 Tryz.underlying9 ?_; intro V35 ta hg; replace TA := Lib.hid (show TableAt V35 _ (allRows.take 36) from ta); replace HL := Lib.hid (kept_trans HL.out hg); clear ta hg RF))
  go_wp2_with fail
  refine (num_lit { data := #[80, 82, 79, 66] } 3 4 { data := #[97, 97, 115, 115] } 226 (by kernel_rfl) _).mono ?_
  rintro e W36 ⟨v, rfl, hr, hb⟩
  have RF := Lib.hid hr
  replace TA := Lib.hid (TA.out.below hb)
  replace HL := Lib.hid (kept_trans HL.out (kept_below hb))
  clear hr hb
  go_wp2_with (first | (refine wpList_insert_row _ rfl _ _ _ _ (.inr rfl) rfl TA.out ⟨{ data := #[80, 82, 79, 66] }, 3, 4, { data := #[97, 97, 115, 115] }, false, 226⟩ v rfl rfl RF.out (fresh_of (by kernel_rfl)) Tryz.underlying50 Tryz.underlying9 ?_; intro V36 ta hg; replace TA := Lib.hid (show TableAt V36 _ (allRows.take 37) from ta); replace HL := Lib.hid (kept_trans HL.out hg); clear ta hg RF))
  go_wp2
  go_end0
  exact ⟨rfl, TA.out, HL.out⟩

set_option maxHeartbeats 8000000 in
set_option maxRecDepth 100000 in
theorem table_any (w : World) : Calls Tryz.prog 27 #[] w fun e w' => ∃ b, e = .returned (.map (some b)) ∧ TableAt w' b allRows ∧ Below w.heap.size w w' := by
  have hmm := @run_makeMap Tryz.prog
  have TA := Lib.hid (show TableAt (w.alloc (.map #[] 0)) w.heap.size (allRows.take 0) from TableAt.made w)
  have HL := Lib.hid (show Below w.heap.size w (w.alloc (.map #[] 0)) from (Below.refl _ _).alloc (Nat.le_refl _) _)
  go_enter Tryz.func27, Tryz.ntmps27
  go_wp2_with fail
  refine (num_lit { data := #[67, 79, 85, 78, 84] } 1 255 { data := #[97] } 75 (by kernel_rfl) _).mono ?_
  rintro e W0 ⟨v, rfl, hr, hb⟩
  have RF := Lib.hid hr
  replace TA := Lib.hid (TA.out.below hb)
  replace HL := Lib.hid (HL.out.trans (hb.mono HL.out.size))
  clear hr hb
  go_wp2_with (first | (refine wpList_insert_row _ rfl _ _ _ _ (.inl rfl) rfl TA.out ⟨{ data := #[67, 79, 85, 78, 84] }, 1, 255, { data := #[97] }, false, 75⟩ v rfl rfl RF.out (fresh_of (by kernel_rfl)) Tryz.underlying50 Tryz.underlying9 ?_; intro V0 ta hg; replace TA := Lib.hid (show TableAt V0 _ (allRows.take 1) from ta); replace HL := Lib.hid (below_map HL.out (Nat.le_refl _) hg); clear ta hg RF))
  go_wp2_with fail
  refine (num_lit { data := #[67, 79, 85, 78, 84, 65] } 1 255 { data := #[97] } 76 (by kernel_rfl) _).mono ?_
  rintro e W1 ⟨v, rfl, hr, hb⟩
  have RF := Lib.hid hr
  replace TA := Lib.hid (TA.out.below hb)
  replace HL := Lib.hid (HL.out.trans (hb.mono HL.out.size))
  clear hr hb
  go_wp2_with (first | (refine wpList_insert_row _ rfl _ _ _ _ (.inl rfl) rfl TA.out ⟨{ data := #[67, 79, 85, 78, 84, 65] }, 1, 255, { data := #[97] }, false, 76⟩ v rfl rfl RF.out (fresh_of (by kernel_rfl)) Tryz.underlying50 Tryz.underlying9 ?_; intro V1 ta hg; replace TA := Lib.hid (show TableAt V1 _ (allRows.take 2) from ta); replace HL := Lib.hid (below_map HL.out (Nat.le_refl _) hg); clear ta hg RF))
  go_wp2_with fail
  refine (num_lit { data := #[67, 79, 85, 78, 84, 66, 76, 65, 78, 75] } 1 1 { data := #[97] } 78 (by kernel_rfl) _).mono ?_
  rintro e W2 ⟨v, rfl, hr, hb⟩
  have RF := Lib.hid hr
  replace TA := Lib.hid (TA.out.below hb)
  replace HL := Lib.hid (HL.out.trans (hb.mono HL.out.size))
  clear hr hb
  go_wp2_with (first | (refine wpList_insert_row _ rfl _ _ _ _ (.inl rfl) rfl TA.out ⟨{ data := #[67, 79, 85, 78, 84, 66, 76, 65, 78, 75] }, 1, 1, { data := #[97] }, false, 78⟩ v rfl rfl RF.out (fresh_of (by kernel_rfl)) Tryz.underlying50 Tryz.underlying9 ?_; intro V2 ta hg; replace TA := Lib.hid (show TableAt V2 _ (allRows.take 3) from ta); replace HL := Lib.hid (below_map HL.out (Nat.le_refl _) hg); clear ta hg RF))
  go_wp2_with fail
  refine (num_lit { data := #[65, 86, 69, 82, 65, 71, 69] } 1 255 { data := #[97] } 79 (by kernel_rfl) _).mono ?_
  rintro e W3 ⟨v, rfl, hr, hb⟩
  have RF := Lib.hid hr
  replace TA := Lib.hid (TA.out.below hb)
  replace HL := Lib.hid (HL.out.trans (hb.mono HL.out.size))
  clear hr hb
  go_wp2_with (first | (refine wpList_insert_row _ rfl _ _ _ _ (.inl rfl) rfl TA.out ⟨{ data := #[65, 86, 69, 82, 65, 71, 69] }, 1, 255, { data := #[97] }, false, 79⟩ v rfl rfl RF.out (fresh_of (by kernel_rfl)) Tryz.underlying50 Tryz.underlying9 ?_; intro V3 ta hg; replace TA := Lib.hid (show TableAt V3 _ (allRows.take 4) from ta); replace HL := Lib.hid (below_map HL.out (Nat.le_refl _) hg); clear ta hg RF))
  go_wp2_with fail
  refine (num_lit { data := #[77, 73, 78] } 1 255 { data := #[97] } 83 (by kernel_rfl) _).mono ?_
  rintro e W4 ⟨v, rfl, hr, hb⟩
  have RF := Lib.hid hr
  replace TA := Lib.hid (TA.out.below hb)
  replace HL := Lib.hid (HL.out.trans (hb.mono HL.out.size))
  clear hr hb
  go_wp2_with (first | (refine wpList_insert_row _ rfl _ _ _ _ (.inl rfl) rfl TA.out ⟨{ data := #[77, 73, 78] }, 1, 255, { data := #[97] }, false, 83⟩ v rfl rfl RF.out (fresh_of (by kernel_rfl)) Tryz.underlying50 Tryz.underlying9 ?_; intro V4 ta hg; replace TA := Lib.hid (show TableAt V4 _ (allRows.take 5) from ta); replace HL := Lib.hid (below_map HL.out (Nat.le_refl _) hg); clear ta hg RF))
  go_wp2_with fail
  refine (num_lit { data := #[77, 65, 88] } 1 255 { data := #[97] } 85 (by kernel_rfl) _).mono ?_
  rintro e W5 ⟨v, rfl, hr, hb⟩
  have RF := Lib.hid hr
  replace TA := Lib.hid (TA.out.below hb)
  replace HL := Lib.hid (HL.out.trans (hb.mono HL.out.size))
  clear hr hb
  go_wp2_with (first | (refine wpList_insert_row _ rfl _ _ _ _ (.inl rfl) rfl TA.out ⟨{ data := #[77, 65, 88] }, 1, 255, { data := #[97] }, false, 85⟩ v rfl rfl RF.out (fresh_of (by kernel_rfl)) Tryz.underlying50 Tryz.underlying9 ?_; intro V5 ta hg; replace TA := Lib.hid (show TableAt V5 _ (allRows.take 6) from ta); replace HL := Lib.hid (below_map HL.out (Nat.le_refl _) hg); clear ta hg RF))
  go_wp2_with fail
  refine (num_lit { data := #[65, 86, 69, 82, 65, 71, 69, 65] } 1 255 { data := #[97] } 86 (by kernel_rfl) _).mono ?_
  rintro e W6 ⟨v, rfl, hr, hb⟩
  have RF := Lib.hid hr
  replace TA := Lib.hid (TA.out.below hb)
  replace HL := Lib.hid (HL.out.trans (hb.mono HL.out.size))
  clear hr hb
  go_wp2_with (first | (refine wpList_insert_row _ rfl _ _ _ _ (.inl rfl) rfl TA.out ⟨{ data := #[65, 86, 69, 82, 65, 71, 69, 65] }, 1, 255, { data := #[97] }, false, 86⟩ v rfl rfl RF.out (fresh_of (by kernel_rfl)) Tryz.underlying50 Tryz.underlying9 ?_; intro V6 ta hg; replace TA := Lib.hid (show TableAt V6 _ (allRows.take 7) from ta); replace HL := Lib.hid (below_map HL.out (Nat.le_refl _) hg); clear ta hg RF))
  go_wp2_with fail
  refine (num_lit { data := #[77, 73, 78, 65] } 1 255 { data := #[97] } 88 (by kernel_rfl) _).mono ?_
  rintro e W7 ⟨v, rfl, hr, hb⟩
  have RF := Lib.hid hr
  replace TA := Lib.hid (TA.out.below hb)
  replace HL := Lib.hid (HL.out.trans (hb.mono HL.out.size))
  clear hr hb
  go_wp2_with (first | (refine wpList_insert_row _ rfl _ _ _ _ (.inl rfl) rfl TA.out ⟨{ data := #[77, 73, 78, 65] }, 1, 255, { data := #[97] }, false, 88⟩ v rfl rfl RF.out (fresh_of (by kernel_rfl)) Tryz.underlying50 Tryz.underlying9 ?_; intro V7 ta hg; replace TA := Lib.hid (show TableAt V7 _ (allRows.take 8) from ta); replace HL := Lib.hid (below_map HL.out (Nat.le_refl _) hg); clear ta hg RF))
  go_wp2_with fail
  refine (num_lit { data := #[77, 65, 88, 65] } 1 255 { data := #[97] } 89 (by kernel_rfl) _).mono ?_
  rintro e W8 ⟨v, rfl, hr, hb⟩
  have RF := Lib.hid hr
  replace TA := Lib.hid (TA.out.below hb)
  replace HL := Lib.hid (HL.out.trans (hb.mono HL.out.size))
  clear hr hb
  go_wp2_with (first | (refine wpList_insert_row _ rfl _ _ _ _ (.inl rfl) rfl TA.out ⟨{ data := #[77, 65, 88, 65] }, 1, 255, { data := #[97] }, false, 89⟩ v rfl rfl RF.out (fresh_of (by kernel_rfl)) Tryz.underlying50 Tryz.underlying9 ?_; intro V8 ta hg; replace TA := Lib.hid (show TableAt V8 _ (allRows.take 9) from ta); replace HL := Lib.hid (below_map HL.out (Nat.le_refl _) hg); clear ta hg RF))
  go_wp2_with fail
  refine (many_lit { data := #[77, 69, 68, 73, 65, 78] } 91 (by kernel_rfl) _).mono ?_
  rintro e W9 ⟨v, rfl, hr, hb⟩
  have RF := Lib.hid hr
  replace TA := Lib.hid (TA.out.below hb)
  replace HL := Lib.hid (HL.out.trans (hb.mono HL.out.size))
  clear hr hb
  go_wp2_with (first | (refine wpList_insert_row _ rfl _ _ _ _ (.inl rfl) rfl TA.out ⟨{ data := #[77, 69, 68, 73, 65, 78] }, 1, 255, { data := #[97] }, true, 91⟩ v rfl rfl RF.out (fresh_of (by kernel_rfl)) Tryz.underlying50 Tryz.underlying9 ?_; intro V9 ta hg; replace TA := Lib.hid (show TableAt V9 _ (allRows.take 10) from ta); replace HL := Lib.hid (below_map HL.out (Nat.le_refl _) hg); clear ta hg RF))
  go_wp2_with fail
  refine (many_lit { data := #[77, 79, 68, 69] } 94 (by kernel_rfl) _).mono ?_
  rintro e W10 ⟨v, rfl, hr, hb⟩
  have RF := Lib.hid hr
  replace TA := Lib.hid (TA.out.below hb)
  replace HL := Lib.hid (HL.out.trans (hb.mono HL.out.size))
  clear hr hb
  go_wp2_with (first | (refine wpList_insert_row _ rfl _ _ _ _ (.inl rfl) rfl TA.out ⟨{ data := #[77, 79, 68, 69] }, 1, 255, { data := #[97] }, true, 94⟩ v rfl rfl RF.out (fresh_of (by kernel_rfl)) Tryz.underlying50 Tryz.underlying9 ?_; intro V10 ta hg; replace TA := Lib.hid (show TableAt V10 _ (allRows.take 11) from ta); replace HL := Lib.hid (below_map HL.out (Nat.le_refl _) hg); clear ta hg RF))
  go_wp2_with fail
  refine (num_lit { data := #[76, 65, 82, 71, 69] } 2 2 { data := #[97, 115] } 95 (by kernel_rfl) _).mono ?_
  rintro e W11 ⟨v, rfl, hr, hb⟩
  have RF := Lib.hid hr
  replace TA := Lib.hid (TA.out.below hb)
  replace HL := Lib.hid (HL.out.trans (hb.mono HL.out.size))
  clear hr hb
  go_wp2_with (first | (refine wpList_insert_row _ rfl _ _ _ _ (.inl rfl) rfl TA.out ⟨{ data := #[76, 65, 82, 71, 69] }, 2, 2, { data := #[97, 115] }, false, 95⟩ v rfl rfl RF.out (fresh_of (by kernel_rfl)) Tryz.underlying50 Tryz.underlying9 ?_; intro V11 ta hg; replace TA := Lib.hid (show TableAt V11 _ (allRows.take 12) from ta); replace HL := Lib.hid (below_map HL.out (Nat.le_refl _) hg); clear ta hg RF))
  go_wp2_with fail
  refine (num_lit { data := #[83, 77, 65, 76, 76] } 2 2 { data := #[97, 115] } 97 (by kernel_rfl) _).mono ?_
  rintro e W12 ⟨v, rfl, hr, hb⟩
  have RF := Lib.hid hr
  replace TA := Lib.hid (TA.out.below hb)
  replace HL := Lib.hid (HL.out.trans (hb.mono HL.out.size))
  clear hr hb
  go_wp2_with (first | (refine wpList_insert_row _ rfl _ _ _ _ (.inl rfl) rfl TA.out ⟨{ data := #[83, 77, 65, 76, 76] }, 2, 2, { data := #[97, 115] }, false, 97⟩ v rfl rfl RF.out (fresh_of (by kernel_rfl)) Tryz.underlying50 Tryz.underlying9 ?_; intro V12 ta hg; replace TA := Lib.hid (show TableAt V12 _ (allRows.take 13) from ta); replace HL := Lib.hid (below_map HL.out (Nat.le_refl _) hg); clear ta hg RF))
  go_wp2_with fail
  refine (num_lit { data := #[82, 65, 78, 75] } 2 3 { data := #[115, 97, 115] } 98 (by kernel_rfl) _).mono ?_
  rintro e W13 ⟨v, rfl, hr, hb⟩
  have RF := Lib.hid hr
  replace TA := Lib.hid (TA.out.below hb)
  replace HL := Lib.hid (HL.out.trans (hb.mono HL.out.size))
  clear hr hb
  go_wp2_with (first | (refine wpList_insert_row _ rfl _ _ _ _ (.inl rfl) rfl TA.out ⟨{ data := #[82, 65, 78, 75] }, 2, 3, { data := #[115, 97, 115] }, false, 98⟩ v rfl rfl RF.out (fresh_of (by kernel_rfl)) Tryz.underlying50 Tryz.underlying9 ?_; intro V13 ta hg; replace TA := Lib.hid (show TableAt V13 _ (allRows.take 14) from ta); replace HL := Lib.hid (below_map HL.out (Nat.le_refl _) hg); clear ta hg RF))
  go_wp2_with fail
  refine (num_lit { data := #[80, 69, 82, 67, 69, 78, 84, 73, 76, 69] } 2 2 { data := #[97, 115] } 99 (by kernel_rfl) _).mono ?_
  rintro e W14 ⟨v, rfl, hr, hb⟩
  have RF := Lib.hid hr
  replace TA := Lib.hid (TA.out.below hb)
  replace HL := Lib.hid (HL.out.trans (hb.mono HL.out.size))
  clear hr hb
  go_wp2_with (first | (refine wpList_insert_row _ rfl _ _ _ _ (.inl rfl) rfl TA.out ⟨{ data := #[80, 69, 82, 67, 69, 78, 84, 73, 76, 69] }, 2, 2, { data := #[97, 115] }, false, 99⟩ v rfl rfl RF.out (fresh_of (by kernel_rfl)) Tryz.underlying50 Tryz.underlying9 ?_; intro V14 ta hg; replace TA := Lib.hid (show TableAt V14 _ (allRows.take 15) from ta); replace HL := Lib.hid (below_map HL.out (Nat.le_refl _) hg); clear ta hg RF))
  go_wp2_with fail
  refine (num_lit { data := #[81, 85, 65, 82, 84, 73, 76, 69] } 2 2 { data := #[97, 115] } 103 (by kernel_rfl) _).mono ?_
  rintro e W15 ⟨v, rfl, hr, hb⟩
  have RF := Lib.hid hr
  replace TA := Lib.hid (TA.out.below hb)
  replace HL := Lib.hid (HL.out.trans (hb.mono HL.out.size))
  clear hr hb
  go_wp2_with (first | (refine wpList_insert_row _ rfl _ _ _ _ (.inl rfl) rfl TA.out ⟨{ data := #[81, 85, 65, 82, 84, 73, 76, 69] }, 2, 2, { data := #[97, 115] }, false, 103⟩ v rfl rfl RF.out (fresh_of (by kernel_rfl)) Tryz.underlying50 Tryz.underlying9 ?_; intro V15 ta hg; replace TA := Lib.hid (show TableAt V15 _ (allRows.take 16) from ta); replace HL := Lib.hid (below_map HL.out (Nat.le_refl _) hg); clear ta hg RF))
  go_wp2_with fail
  refine (num_lit { data := #[80, 69, 82, 67, 69, 78, 84, 82, 65, 78, 75] } 2 3 { data := #[97, 115, 115] } 104 (by kernel_rfl) _).mono ?_
  rintro e W16 ⟨v, rfl, hr, hb⟩
  have RF := Lib.hid hr
  replace TA := Lib.hid (TA.out.below hb)
  replace HL := Lib.hid (HL.out.trans (hb.mono HL.out.size))
  clear hr hb
  have RG := Lib.hid (show ∀ W, RowFn W (.func (.func 105) #[] #[]) ⟨{ data := #[70, 82, 69, 81, 85, 69, 78, 67, 89] }, 2, 2, { data := #[97] }, false, 105⟩ from fun W => by unfold RowFn; rw [if_pos (by kernel_rfl)])
  go_wp2_with (first | (refine wpList_insert_row _ rfl _ _ _ _ (.inl rfl) rfl TA.out ⟨{ data := #[80, 69, 82, 67, 69, 78, 84, 82, 65, 78, 75] }, 2, 3, { data := #[97, 115, 115] }, false, 104⟩ v rfl rfl RF.out (fresh_of (by kernel_rfl)) Tryz.underlying50 Tryz.underlying9 ?_; intro V16 ta hg; replace TA := Lib.hid (show TableAt V16 _ (allRows.take 17) from ta); replace HL := Lib.hid (below_map HL.out (Nat.le_refl _) hg); clear ta hg RF) | (refine wpList_insert_row _ rfl _ _ _ _ (.inl rfl) rfl TA.out ⟨{ data := #[70, 82, 69, 81, 85, 69, 78, 67, 89] }, 2, 2, { data := #[97] }, false, 105⟩ (.func (.func 105) #[] #[]) rfl rfl (RG.out _) (fresh_of (by kernel_rfl)) Tryz.underlying50 Tryz.underlying9 ?_; intro V17 ta hg; replace TA := Lib.hid (show TableAt V17 _ (allRows.take 18) from ta); replace HL := Lib.hid (below_map HL.out (Nat.le_refl _) hg); clear ta hg))
  go_wp2_with fail
  refine (spread_part _ _ TA.out).mono ?_
  rintro e W_spread ⟨rfl, ta, hg⟩
  replace TA := Lib.hid ta
  replace HL := Lib.hid (below_map HL.out (Nat.le_refl _) hg)
  clear ta hg
  go_wp2_with fail
  refine (lines_part _ _ TA.out).mono ?_
  rintro e W_lines ⟨rfl, ta, hg⟩
  replace TA := Lib.hid ta
  replace HL := Lib.hid (below_map HL.out (Nat.le_refl _) hg)
  clear ta hg
  go_wp2_with fail
  refine (chances_part _ _ TA.out).mono ?_
  rintro e W_chances ⟨rfl, ta, hg⟩
  replace TA := Lib.hid ta
  replace HL := Lib.hid (below_map HL.out (Nat.le_refl _) hg)
  clear ta hg
  go_wp2
  go_ret
  exact ⟨_, rfl, TA.out, HL.out⟩

end Go.Proofs.YtgponoogifeopaaGreatDoor.Num.Ft

/- package value: Run at a row of fstat's table. Conditions: the tables lie as they are laid. -/
namespace Go.Proofs.YtgponoogifeopaaGreatDoor.Num.Ft
open Go.RowKit Go.Lib Go.MapKept Num

/-- cell e holds the row's function, wrapped or bare -/
def FnAt (W : World) (e : Nat) (r : Row) : Prop :=
  if r.num then ∃ f, W.cell? ⟨e, 0, none⟩ = some (.func (.func 185) #[] #[.pointer (some ⟨f, 0, none⟩)]) ∧ W.cell? ⟨f, 0, none⟩ = some (.func (.func r.fn) #[] #[])
  else W.cell? ⟨e, 0, none⟩ = some (.func (.func r.fn) #[] #[])
theorem rowFn_at {w : World} {v : Value} {r : Row} (h : RowFn w v r) (hraw : isRaw r.fn = false) : ∃ e, v = .func (.func 180) #[] #[.pointer (some ⟨e, 0, none⟩)] ∧ FnAt w e r := by
  unfold RowFn at h
  rw [if_neg (by rw [hraw]; decide)] at h
  unfold FnAt
  split at h
  · rename_i hn
    obtain ⟨e, f, h1, h2, h3⟩ := h
    exact ⟨e, h1, by rw [if_pos hn]; exact ⟨f, h2, h3⟩⟩
  · rename_i hn
    obtain ⟨e, h1, h2⟩ := h
    exact ⟨e, h1, by rw [if_neg hn]; exact h2⟩
theorem FnAt.below {w w' : World} {e : Nat} {r : Row} (h : FnAt w e r) (hb : Below w.heap.size w w') : FnAt w' e r := by
  unfold FnAt at h ⊢
  split at h
  · rename_i hn
    obtain ⟨f, h1, h2⟩ := h
    rw [if_pos hn]
    exact ⟨f, cell_below h1 hb, cell_below h2 hb⟩
  · rename_i hn
    rw [if_neg hn]
    exact cell_below h hb
attribute [local go_sem] run_store_func

set_option maxHeartbeats 8000000 in
set_option maxRecDepth 100000 in
theorem run_a_val (i : Nat) (r : Row) (hi : i < allRows.length) (hr : allRows[i] = r) (hraw : isRaw r.fn = false) (hkd : r.kinds = { data := #[97] }) (hfr : ∀ j (hj : j < i), (allRows[i].name == (allRows[j]'(by omega)).name) = false) (vs : List Val) (b ab ao C : Nat) (q : Val) (w : World) (h0 : 0 < vs.length) (h9 : vs.length ≤ 300) (hc1 : r.least ≤ vs.length) (hc2 : (vs.length : Int) ≤ r.most) (hv : ValsAt w ab ao vs) (hE : Env w) (hT : TableAt w b allRows) (hq : q.A = none ∧ q.L = 0 ∧ q.C = 0 ∧ q.r = 0 ∧ q.s = 0)
    (hO : ∀ W, Env W → Calls Tryz.prog 28 #[q.agg] W fun e w' => e = .returned (.int .i64 0) ∧ Below W.heap.size W w') 
    (hC : ∀ v ∈ vs, ∀ W, Below w.heap.size w W → Calls Tryz.prog 28 #[v.agg] W fun e w' => e = .returned (.int .i64 0) ∧ Below W.heap.size W w')
    (hK : ∀ W e g cap, Below w.heap.size w W → Env W → FnAt W e r → ValsAt W g 0 vs → Calls Tryz.prog 180 #[.slice (some ⟨g, 0, none⟩) vs.length cap, .pointer (some ⟨e, 0, none⟩)] W fun e w' => e = .returned q.agg ∧ Below W.heap.size W w') :
    Calls Tryz.prog 25 #[.map (some b), .string r.name, .slice (some ⟨ab, ao, none⟩) vs.length C] w fun e w' => e = .returned (.tuple #[(q).agg, .int .i64 0]) ∧ Below w.heap.size w w' := by
  have hb : Below w.heap.size w (w.alloc (.cells #[.int .i64 0, .string { data := #[] }, .string { data := #[] }, .string { data := #[] }, .bool false, .int .i64 0, .int .i64 0, .int .i64 0, .slice none 0 0] 27)) := (Below.refl _ _).alloc (Nat.le_refl _) _
  have HR := Lib.hid (heap_alloc_new w (.cells #[.int .i64 0, .string { data := #[] }, .string { data := #[] }, .string { data := #[] }, .bool false, .int .i64 0, .int .i64 0, .int .i64 0, .slice none 0 0] 27))
  obtain ⟨v, hrf, hrun⟩ := (hT.below hb).look i hi hfr Tryz.underlying50 Tryz.underlying9
  rw [hr] at hrf hrun
  obtain ⟨e0, rfl, hfn⟩ := rowFn_at hrf hraw
  obtain ⟨name, least, most, kinds, num, F⟩ := r
  simp only at hkd hc1 hc2
  subst hkd
  simp only at hrun ⊢
  have HV := Lib.hid (hv.below hb)
  have HE := Lib.hid (hE.below hb)
  have HL := Lib.hid hb
  have HFN := Lib.hid hfn
  have d1 : decide ((vs.length : Int) < least) = false := decide_eq_false (by omega)
  have d2 : decide (most < (vs.length : Int)) = false := decide_eq_false (by omega)
  have hmf : ∀ (fn : Fn) (first cap : Array Value) (w : World), (Instr.makeFunc fn first cap).run Tryz.prog w = .ok (.func fn first cap) w := fun _ _ _ _ => rfl
  have hb : Below (w.alloc (.cells #[.int .i64 0, .string { data := #[] }, .string { data := #[] }, .string { data := #[] }, .bool false, .int .i64 0, .int .i64 0, .int .i64 0, .slice none 0 0] 27)).heap.size (w.alloc (.cells #[.int .i64 0, .string { data := #[] }, .string { data := #[] }, .string { data := #[] }, .bool false, .int .i64 0, .int .i64 0, .int .i64 0, .slice none 0 0] 27)) ((w.alloc (.cells #[.int .i64 0, .string { data := #[] }, .string { data := #[] }, .string { data := #[] }, .bool false, .int .i64 0, .int .i64 0, .int .i64 0, .slice none 0 0] 27)).alloc (.cells #[.int .i64 least, .int .i64 most, .string { data := #[97] }, .func (.func 180) #[] #[.pointer (some ⟨e0, 0, none⟩)]] 63)) := (Below.refl _ _).alloc (Nat.le_refl _) _
  have HX := Lib.hid (Lib.cell_of_heap (heap_alloc_new (w.alloc (.cells #[.int .i64 0, .string { data := #[] }, .string { data := #[] }, .string { data := #[] }, .bool false, .int .i64 0, .int .i64 0, .int .i64 0, .slice none 0 0] 27)) (.cells #[.int .i64 least, .int .i64 most, .string { data := #[97] }, .func (.func 180) #[] #[.pointer (some ⟨e0, 0, none⟩)]] 63)) 3)
  replace HR := Lib.hid (keep_block HR.out hb)
  replace HV := Lib.hid (HV.out.below hb)
  replace HE := Lib.hid (HE.out.below hb)
  replace HL := Lib.hid (HL.out.trans (hb.mono HL.out.size))
  replace HFN := Lib.hid (HFN.out.below hb)
  have hpos : (w.alloc (.cells #[.int .i64 0, .string { data := #[] }, .string { data := #[] }, .string { data := #[] }, .bool false, .int .i64 0, .int .i64 0, .int .i64 0, .slice none 0 0] 27)).heap.size = w.heap.size + 1 := by simp
  rw [hpos] at HX
  have TL := Lib.hid (lift_a vs ab ao C (w.heap.size + 1) (q) ((w.alloc (.cells #[.int .i64 0, .string { data := #[] }, .string { data := #[] }, .string { data := #[] }, .bool false, .int .i64 0, .int .i64 0, .int .i64 0, .slice none 0 0] 27)).alloc (.cells #[.int .i64 least, .int .i64 most, .string { data := #[97] }, .func (.func 180) #[] #[.pointer (some ⟨e0, 0, none⟩)]] 63)) h0 h9 HV.out HE.out ⟨hq.1, hq.2.1, hq.2.2.1⟩
    (fun v hv W h => hC v hv W (HL.out.trans (h.mono HL.out.size))) (hO)
    (fun W g cap hbw hva => by
      have h := run1_value (w.heap.size + 1) 0 e0 (.slice (some ⟨g, 0, none⟩) vs.length cap) q.k q.n q.d q.t q.on q.c q.A q.L q.C W ⟨_, _, _, rfl⟩ (cell_below HX.out hbw) (HE.out.below hbw) (fun W' hb' => by
        have h2 := hK W' e0 g cap (HL.out.trans ((hbw.trans (hb'.mono hbw.size)).mono HL.out.size)) (HE.out.below (hbw.trans (hb'.mono hbw.size))) (HFN.out.below (hbw.trans (hb'.mono hbw.size))) (hva.below hb')
        unfold Val.agg at h2
        rw [hq.2.2.2.1, hq.2.2.2.2] at h2
        exact h2)
      unfold Val.agg
      rw [hq.2.2.2.1, hq.2.2.2.2]
      exact h))
  obtain ⟨qq, hqq⟩ : ∃ z, (q) = z := ⟨_, rfl⟩
  rw [hqq] at TL ⊢
  clear hqq hb hv hE hT hC hK hrf hfn hpos hfr hr hraw hi h0 h9 hc1 hc2
  go_enter Tryz.func25, Tryz.ntmps25
  unfold Val.agg at TL ⊢
  go_wp2_with fail
  refine TL.out.mono ?_
  rintro e w2 ⟨rfl, hb2⟩
  replace HR := Lib.hid (keep_block HR.out hb2)
  replace HL := Lib.hid (HL.out.trans (hb2.mono HL.out.size))
  clear hb2
  obtain ⟨⟨r0, r1, r2, r3, r4, r5, r6, r7, r8⟩, g0, g1, g2, g3, g4, g5, g6, g7, g8⟩ := nine_at HR.out
  obtain ⟨nb, z0, z1, z2, z3, z4, z5, z6, z7, z8⟩ := nine_end (x0 := (.int .i64 qq.k)) (x1 := (.string qq.n)) (x2 := (.string qq.d)) (x3 := (.string qq.t)) (x4 := (.bool qq.on)) (x5 := (.int .i64 qq.c)) (x6 := (.int .i64 qq.r)) (x7 := (.int .i64 qq.s)) (x8 := (.slice qq.A qq.L qq.C)) HR.out HL.out (Nat.le_refl _)
  go_wp2
  refine bodyPost_ret (v := .tuple #[.agg #[.int .i64 qq.k, .string qq.n, .string qq.d, .string qq.t, .bool qq.on, .int .i64 qq.c, .int .i64 qq.r, .int .i64 qq.s, .slice qq.A qq.L qq.C], .int .i64 0]) (by simp [results, Tryz.results25, go_sem, z0, z1, z2, z3, z4, z5, z6, z7, z8]) rfl ⟨rfl, nb⟩

end Go.Proofs.YtgponoogifeopaaGreatDoor.Num.Ft

/- package fstat's Call, the law's own call, the closures that wrap a function of the table. Conditions: the tables lie as they are laid. -/
namespace Go.Proofs.YtgponoogifeopaaGreatDoor.Num.Ft
open Go.RowKit Go.Lib Go.MapKept Num

set_option maxHeartbeats 4000000 in
set_option maxRecDepth 100000 in
theorem call_of (name : ByteArray) (sl : Value) (q : Val) (w : World) (hs : ∃ a l c, sl = .slice a l c)
    (hRun : ∀ W b, Below w.heap.size w W → TableAt W b allRows → Calls Tryz.prog 25 #[.map (some b), .string name, sl] W fun e w' => e = .returned (.tuple #[q.agg, .int .i64 0]) ∧ Below W.heap.size W w') :
    Calls Tryz.prog 17 #[.string name, sl] w fun e w' => e = .returned (.tuple #[q.agg, .int .i64 0]) ∧ Below w.heap.size w w' := by
  obtain ⟨sa, slen, sc, rfl⟩ := hs
  have hb : Below w.heap.size w (w.alloc (.cells #[.int .i64 0, .string { data := #[] }, .string { data := #[] }, .string { data := #[] }, .bool false, .int .i64 0, .int .i64 0, .int .i64 0, .slice none 0 0] 27)) := (Below.refl _ _).alloc (Nat.le_refl _) _
  have HR := Lib.hid (heap_alloc_new w (.cells #[.int .i64 0, .string { data := #[] }, .string { data := #[] }, .string { data := #[] }, .bool false, .int .i64 0, .int .i64 0, .int .i64 0, .slice none 0 0] 27))
  have HL := Lib.hid hb
  have TR := Lib.hid hRun
  unfold Val.agg at TR ⊢
  clear hRun hb
  go_enter Tryz.func17, Tryz.ntmps17
  go_wp2_with fail
  refine (table_any _).mono ?_
  rintro e W1 ⟨b, rfl, ht, hb⟩
  have HT := Lib.hid ht
  clear ht
  replace HR := Lib.hid (keep_block HR.out hb)
  replace HL := Lib.hid (HL.out.trans (hb.mono HL.out.size))
  clear hb
  go_wp2_with fail
  refine (TR.out _ _ HL.out HT.out).mono ?_
  rintro e W2 ⟨rfl, hb⟩
  replace HR := Lib.hid (keep_block HR.out hb)
  replace HL := Lib.hid (HL.out.trans (hb.mono HL.out.size))
  clear hb
  obtain ⟨⟨r0, r1, r2, r3, r4, r5, r6, r7, r8⟩, g0, g1, g2, g3, g4, g5, g6, g7, g8⟩ := nine_at HR.out
  obtain ⟨nb, z0, z1, z2, z3, z4, z5, z6, z7, z8⟩ := nine_end (x0 := (.int .i64 q.k)) (x1 := (.string q.n)) (x2 := (.string q.d)) (x3 := (.string q.t)) (x4 := (.bool q.on)) (x5 := (.int .i64 q.c)) (x6 := (.int .i64 q.r)) (x7 := (.int .i64 q.s)) (x8 := (.slice q.A q.L q.C)) HR.out HL.out (Nat.le_refl _)
  go_wp2
  refine bodyPost_ret (v := .tuple #[.agg #[.int .i64 q.k, .string q.n, .string q.d, .string q.t, .bool q.on, .int .i64 q.c, .int .i64 q.r, .int .i64 q.s, .slice q.A q.L q.C], .int .i64 0]) (by simp [results, Tryz.results17, go_sem, z0, z1, z2, z3, z4, z5, z6, z7, z8]) rfl ⟨rfl, nb⟩

set_option maxHeartbeats 4000000 in
set_option maxRecDepth 100000 in
theorem math_of (name : ByteArray) (sl : Value) (q : Val) (w : World) (hs : ∃ a l c, sl = .slice a l c)
    (hRun : ∀ W b, Below w.heap.size w W → TableAt W b allRows → Calls Tryz.prog 25 #[.map (some b), .string name, sl] W fun e w' => e = .returned (.tuple #[q.agg, .int .i64 0]) ∧ Below W.heap.size W w') :
    Calls Tryz.prog 10 #[.string name, sl] w fun e w' => e = .returned q.agg ∧ Below w.heap.size w w' := by
  have hb : Below w.heap.size w (w.alloc (.cells #[.int .i64 0, .string { data := #[] }, .string { data := #[] }, .string { data := #[] }, .bool false, .int .i64 0, .int .i64 0, .int .i64 0, .slice none 0 0] 27)) := (Below.refl _ _).alloc (Nat.le_refl _) _
  have HR := Lib.hid (heap_alloc_new w (.cells #[.int .i64 0, .string { data := #[] }, .string { data := #[] }, .string { data := #[] }, .bool false, .int .i64 0, .int .i64 0, .int .i64 0, .slice none 0 0] 27))
  have HL := Lib.hid hb
  have TC := Lib.hid (call_of name sl q (w.alloc (.cells #[.int .i64 0, .string { data := #[] }, .string { data := #[] }, .string { data := #[] }, .bool false, .int .i64 0, .int .i64 0, .int .i64 0, .slice none 0 0] 27)) hs (fun W b h => hRun W b (hb.trans (h.mono hb.size))))
  obtain ⟨sa, slen, sc, rfl⟩ := hs
  unfold Val.agg at TC ⊢
  clear hRun hb
  go_enter Tryz.func10, Tryz.ntmps10
  go_wp2_with fail
  refine TC.out.mono ?_
  rintro e W1 ⟨rfl, hb⟩
  replace HR := Lib.hid (keep_block HR.out hb)
  replace HL := Lib.hid (HL.out.trans (hb.mono HL.out.size))
  clear hb
  have hlt := heap_lt HR.out
  obtain ⟨⟨r0, r1, r2, r3, r4, r5, r6, r7, r8⟩, g0, g1, g2, g3, g4, g5, g6, g7, g8⟩ := nine_at HR.out
  have HF1 := Lib.hid (set9_at HR.out (.int .i64 q.k) (.string q.n) (.string q.d) (.string q.t) (.bool q.on) (.int .i64 q.c) (.int .i64 q.r) (.int .i64 q.s) (.slice q.A q.L q.C))
  have HF2 := Lib.hid ((Below.heap_alloc _ (.cells #[.int .i64 q.k, .string q.n, .string q.d, .string q.t, .bool q.on, .int .i64 q.c, .int .i64 q.r, .int .i64 q.s, .slice q.A q.L q.C] 27) _ (heap_lt HF1.out)).trans HF1.out)
  have HB2 := Lib.hid (nine_end (x0 := (.int .i64 q.k)) (x1 := (.string q.n)) (x2 := (.string q.d)) (x3 := (.string q.t)) (x4 := (.bool q.on)) (x5 := (.int .i64 q.c)) (x6 := (.int .i64 q.r)) (x7 := (.int .i64 q.s)) (x8 := (.slice q.A q.L q.C)) HR.out HL.out (Nat.le_refl _)).1
  have HZ2 := Lib.hid (HB2.out.alloc HB2.out.size (.cells #[.int .i64 q.k, .string q.n, .string q.d, .string q.t, .bool q.on, .int .i64 q.c, .int .i64 q.r, .int .i64 q.s, .slice q.A q.L q.C] 27))
  have HA := Lib.hid ((Below.heap_alloc W1 (.cells #[.int .i64 q.k, .string q.n, .string q.d, .string q.t, .bool q.on, .int .i64 q.c, .int .i64 q.r, .int .i64 q.s, .slice q.A q.L q.C] 27) _ hlt).trans HR.out)
  obtain ⟨⟨a0, a1, a2, a3, a4, a5, a6, a7, a8⟩, b0, b1, b2, b3, b4, b5, b6, b7, b8⟩ := nine_at HA.out
  obtain ⟨⟨z0, z1, z2, z3, z4, z5, z6, z7, z8⟩, _⟩ := nine_at HF2.out
  go_wp2
  refine bodyPost_ret (v := .agg #[.int .i64 q.k, .string q.n, .string q.d, .string q.t, .bool q.on, .int .i64 q.c, .int .i64 q.r, .int .i64 q.s, .slice q.A q.L q.C]) (by simp [results, Tryz.results10, go_sem, z0, z1, z2, z3, z4, z5, z6, z7, z8]) rfl ⟨rfl, HZ2.out⟩

end Go.Proofs.YtgponoogifeopaaGreatDoor.Num.Ft

/- package value: arrays of numbers: Check, List, Size, Inside. Conditions: the items are numbers that fit; the tables lie as they are laid. -/
namespace Go.Proofs.YtgponoogifeopaaGreatDoor.Num
open Go.RowKit Go.Lib

/-- an array as a value, field by field -/
def arrVal' (r s : Int) (g L C : Nat) : Val := ⟨5, { data := #[] }, { data := #[] }, { data := #[] }, false, 0, r, s, some ⟨g, 0, none⟩, L, C⟩
/-- what stays while the items of an array are gone through -/
structure RowI (w : World) (g : Nat) (qs : List Rat) (W : World) : Prop where
  row : ValsAt W g 0 (numVals qs)
  env : Env W
  low : Below w.heap.size w W
theorem RowI.step {w W W' : World} {g : Nat} {qs : List Rat} (h : RowI w g qs W) (hb : Below W.heap.size W W') : RowI w g qs W' :=
  ⟨h.row.below hb, h.env.below hb, h.low.trans (hb.mono h.low.size)⟩
/-- the cells of item i -/
theorem item_at {W : World} {g : Nat} {qs : List Rat} (h : ValsAt W g 0 (numVals qs)) (i : Nat) (hi : i < qs.length) (q : Rat) (hq : qs[i] = q) :
    W.cell? ⟨g, i * 9, none⟩ = some (.int .i64 1) ∧ W.cell? ⟨g, i * 9 + 1, none⟩ = some (.string (numS q)) ∧ W.cell? ⟨g, i * 9 + 2, none⟩ = some (.string (denS q)) ∧ W.cell? ⟨g, i * 9 + 3, none⟩ = some (.string { data := #[] }) ∧ W.cell? ⟨g, i * 9 + 4, none⟩ = some (.bool false) ∧ W.cell? ⟨g, i * 9 + 5, none⟩ = some (.int .i64 0) ∧ W.cell? ⟨g, i * 9 + 6, none⟩ = some (.int .i64 0) ∧ W.cell? ⟨g, i * 9 + 7, none⟩ = some (.int .i64 0) ∧ W.cell? ⟨g, i * 9 + 8, none⟩ = some (.slice none 0 0) := by
  have hl : i < (numVals qs).length := by rw [numVals_len]; exact hi
  have := h.at i hl
  rw [numVals_at qs i hl, hq, Nat.zero_add] at this
  exact this

set_option maxHeartbeats 4000000 in
set_option maxRecDepth 100000 in
theorem array_ok (qs : List Rat) (r s : Int) (g C : Nat) (w : World) (hr : 1 ≤ r) (hr9 : r ≤ 1000) (hs : 1 ≤ s) (hs9 : s ≤ 1000) (hrs : r * s = (qs.length : Int)) (hq : ∀ q ∈ qs, fits q = true) (h9 : qs.length ≤ 1000) (hv : ValsAt w g 0 (numVals qs)) (hE : Env w) :
    Calls Tryz.prog 114 #[.agg #[.int .i64 5, .string { data := #[] }, .string { data := #[] }, .string { data := #[] }, .bool false, .int .i64 0, .int .i64 r, .int .i64 s, .slice (some ⟨g, 0, none⟩) qs.length C]] w fun e w' => e = .returned (.int .i64 0) ∧ Below w.heap.size w w' := by
  have hb : Below w.heap.size w (w.alloc (.cells #[.int .i64 5, .string { data := #[] }, .string { data := #[] }, .string { data := #[] }, .bool false, .int .i64 0, .int .i64 r, .int .i64 s, .slice (some ⟨g, 0, none⟩) qs.length C] 27)) := (Below.refl _ _).alloc (Nat.le_refl _) _
  have HI0 := Lib.hid (show RowI w g qs (w.alloc (.cells #[.int .i64 5, .string { data := #[] }, .string { data := #[] }, .string { data := #[] }, .bool false, .int .i64 0, .int .i64 r, .int .i64 s, .slice (some ⟨g, 0, none⟩) qs.length C] 27)) from ⟨hv.below hb, hE.below hb, hb⟩)
  have HQ := Lib.hid hq
  have d1 : decide (r < 1) = false := decide_eq_false (by omega)
  have d2 : decide (100000 < r) = false := decide_eq_false (by omega)
  have d3 : decide (s < 1) = false := decide_eq_false (by omega)
  have d4 : decide (100000 < s) = false := decide_eq_false (by omega)
  obtain ⟨L, hL⟩ : ∃ L, qs.length = L := ⟨_, rfl⟩
  have HLL := Lib.hid hL
  rw [hL] at hrs h9 HI0 ⊢
  have d5 : decide (100000 < (L : Int)) = false := decide_eq_false (by omega)
  have hwr : IntKind.i64.wrap (L : Int) = (L : Int) := IntWalk.i64_in _ (by omega)
  clear hb hv hE hq hL
  go_enter Tryz.func114, Tryz.ntmps114
  go_wp2_with fail
  go_loopg [42] L (fun gh v42 wx => ∃ k : Nat, v42 = .int .i64 (k : Int) ∧ k ≤ L ∧ gh = L - k ∧ RowI w g qs wx)
  case atStart => exact ⟨0, rfl, Nat.zero_le _, rfl, HI0.out⟩
  case round =>
    clear HI0
    obtain ⟨k, rfl, hk, rfl, hti⟩ := hrel
    have HTI := Lib.hid hti
    clear hti hrs hwr
    by_cases hlt : k < L
    · have hd : decide ((k : Int) < (L : Int)) = true := decide_eq_true (by omega)
      have hd2 : decide (k < L) = true := decide_eq_true hlt
      have hkq : k < qs.length := by rw [HLL.out]; exact hlt
      obtain ⟨q, hqq⟩ : ∃ q, qs[k] = q := ⟨_, rfl⟩
      have hfq : fits q = true := by rw [← hqq]; exact HQ.out _ (List.getElem_mem hkq)
      obtain ⟨c0, c1, c2, c3, c4, c5, c6, c7, c8⟩ := item_at HTI.out.row k hkq q hqq
      have TC := Lib.hid (fun W gg => check_num q W hfq gg)
      have hi0 : (0 : Int) ≤ (k : Int) := by omega
      have hi1 : (k : Int) < (L : Int) := by omega
      clear hfq hkq hqq
      have HTA := Lib.hid (HTI.out.step ((Below.refl wr.heap.size wr).alloc (Nat.le_refl _) (.cells #[.int .i64 1, .string (numS q), .string (denS q), .string { data := #[] }, .bool false, .int .i64 0, .int .i64 0, .int .i64 0, .slice none 0 0] 27)))
      go_wp2_with fail
      refine (TC.out _ HTA.out.env).mono ?_
      rintro e w2 ⟨rfl, hb⟩
      have HT2 := Lib.hid (HTA.out.step hb)
      clear hb c0 c1 c2 c3 c4 c5 c6 c7 c8
      go_wp2
      go_roundg (L - (k + 1))
      case measure => omega
      case rel => exact ⟨k + 1, by go_num, by omega, by omega, HT2.out⟩
    · have hd : decide ((k : Int) < (L : Int)) = false := decide_eq_false (by omega)
      have hd2 : decide (k < L) = false := decide_eq_false hlt
      clear hlt
      go_wp2
      go_ret
      exact ⟨rfl, HTI.out.low⟩

set_option maxHeartbeats 4000000 in
set_option maxRecDepth 100000 in
theorem check_arr (qs : List Rat) (r s : Int) (g C : Nat) (w : World) (hr : 1 ≤ r) (hr9 : r ≤ 1000) (hs : 1 ≤ s) (hs9 : s ≤ 1000) (hrs : r * s = (qs.length : Int)) (hq : ∀ q ∈ qs, fits q = true) (h9 : qs.length ≤ 1000) (hv : ValsAt w g 0 (numVals qs)) (hE : Env w) :
    Calls Tryz.prog 28 #[.agg #[.int .i64 5, .string { data := #[] }, .string { data := #[] }, .string { data := #[] }, .bool false, .int .i64 0, .int .i64 r, .int .i64 s, .slice (some ⟨g, 0, none⟩) qs.length C]] w fun e w' => e = .returned (.int .i64 0) ∧ Below w.heap.size w w' := by
  have TA := Lib.hid (fun W hvv gg => array_ok qs r s g C W hr hr9 hs hs9 hrs hq h9 hvv gg)
  have HX := Lib.hid (heap_alloc_new w (.cells #[.int .i64 5, .string { data := #[] }, .string { data := #[] }, .string { data := #[] }, .bool false, .int .i64 0, .int .i64 r, .int .i64 s, .slice (some ⟨g, 0, none⟩) qs.length C] 27))
  have HL := Lib.hid (show Below w.heap.size w (w.alloc (.cells #[.int .i64 5, .string { data := #[] }, .string { data := #[] }, .string { data := #[] }, .bool false, .int .i64 0, .int .i64 r, .int .i64 s, .slice (some ⟨g, 0, none⟩) qs.length C] 27)) from (Below.refl _ _).alloc (Nat.le_refl _) _)
  have HE := Lib.hid (hE.below HL.out)
  have HV := Lib.hid (hv.below HL.out)
  have TZ := Lib.hid (fun W => zeros_arr r s (some ⟨g, 0, none⟩) qs.length C W)
  obtain ⟨L, hL⟩ : ∃ L, qs.length = L := ⟨_, rfl⟩
  rw [hL] at TA HX HL HE TZ HV ⊢
  clear hE hv hr hr9 hs hs9 hrs hq h9 hL
  go_enter Tryz.func28, Tryz.ntmps28
  go_wp2_with fail
  refine (TZ.out _).mono ?_
  rintro e W1 ⟨rfl, hb⟩
  replace HX := Lib.hid (keep_block HX.out hb)
  replace HE := Lib.hid (HE.out.below hb)
  replace HV := Lib.hid (HV.out.below hb)
  replace HL := Lib.hid (HL.out.trans (hb.mono HL.out.size))
  clear hb
  obtain ⟨⟨x0, x1, x2, x3, x4, x5, x6, x7, x8⟩, _⟩ := nine_at HX.out
  go_wp2_with fail
  refine (TA.out _ HV.out HE.out).mono ?_
  rintro e W2 ⟨rfl, hb⟩
  replace HL := Lib.hid (HL.out.trans (hb.mono HL.out.size))
  clear hb
  go_wp2
  go_ret
  exact ⟨rfl, HL.out⟩

set_option maxHeartbeats 4000000 in
set_option maxRecDepth 100000 in
theorem list_arr (r s : Int) (g L C : Nat) (w : World) :
    Calls Tryz.prog 181 #[.agg #[.int .i64 5, .string { data := #[] }, .string { data := #[] }, .string { data := #[] }, .bool false, .int .i64 0, .int .i64 r, .int .i64 s, .slice (some ⟨g, 0, none⟩) L C]] w fun e w' => e = .returned (.slice (some ⟨g, 0, none⟩) L C) ∧ Below w.heap.size w w' := by
  have HL := Lib.hid (show Below w.heap.size w (w.alloc (.cells #[.int .i64 5, .string { data := #[] }, .string { data := #[] }, .string { data := #[] }, .bool false, .int .i64 0, .int .i64 r, .int .i64 s, .slice (some ⟨g, 0, none⟩) L C] 27)) from (Below.refl _ _).alloc (Nat.le_refl _) _)
  go_enter Tryz.func181, Tryz.ntmps181
  go_wp2
  go_ret
  exact ⟨rfl, HL.out⟩

set_option maxHeartbeats 4000000 in
set_option maxRecDepth 100000 in
theorem list_num (q : Rat) (w : World) :
    Calls Tryz.prog 181 #[.agg #[.int .i64 1, .string (numS q), .string (denS q), .string { data := #[] }, .bool false, .int .i64 0, .int .i64 0, .int .i64 0, .slice none 0 0]] w fun e w' => ∃ g, e = .returned (.slice (some ⟨g, 0, none⟩) 1 1) ∧ ValsAt w' g 0 (numVals [q]) ∧ Below w.heap.size w w' := by
  have HL := Lib.hid (show Below w.heap.size w (w.alloc (.cells #[.int .i64 1, .string (numS q), .string (denS q), .string { data := #[] }, .bool false, .int .i64 0, .int .i64 0, .int .i64 0, .slice none 0 0] 27)) from (Below.refl _ _).alloc (Nat.le_refl _) _)
  obtain ⟨W1, hW1⟩ : ∃ W1, w.alloc (.cells #[.int .i64 1, .string (numS q), .string (denS q), .string { data := #[] }, .bool false, .int .i64 0, .int .i64 0, .int .i64 0, .slice none 0 0] 27) = W1 := ⟨_, rfl⟩
  have HV := Lib.hid (vals_of_block (vs := numVals [q]) (heap_alloc_new (w.alloc (.cells #[.int .i64 1, .string (numS q), .string (denS q), .string { data := #[] }, .bool false, .int .i64 0, .int .i64 0, .int .i64 0, .slice none 0 0] 27)) (.cells #[.int .i64 1, .string (numS q), .string (denS q), .string { data := #[] }, .bool false, .int .i64 0, .int .i64 0, .int .i64 0, .slice none 0 0] 27)) rfl)
  have HB := Lib.hid (HL.out.alloc HL.out.size (.cells #[.int .i64 1, .string (numS q), .string (denS q), .string { data := #[] }, .bool false, .int .i64 0, .int .i64 0, .int .i64 0, .slice none 0 0] 27))
  clear hW1 W1
  rw [show (w.alloc (.cells #[.int .i64 1, .string (numS q), .string (denS q), .string { data := #[] }, .bool false, .int .i64 0, .int .i64 0, .int .i64 0, .slice none 0 0] 27)).heap.size = w.heap.size + 1 by simp] at HV
  go_enter Tryz.func181, Tryz.ntmps181
  go_wp2
  go_ret
  exact ⟨_, rfl, HV.out, HB.out⟩
end Go.Proofs.YtgponoogifeopaaGreatDoor.Num
