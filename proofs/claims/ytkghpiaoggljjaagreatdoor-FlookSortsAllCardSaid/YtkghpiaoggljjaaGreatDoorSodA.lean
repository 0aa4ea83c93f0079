/- Numbers as texts of digits, fractions, values and the functions of fmath: contracts of the program's functions, joined from smaller texts. Conditions stand at each theorem. -/
import Derived.Test.YtkghpiaoggljjaaGreatDoorSocB
import Derived.Test.YtkghpiaoggljjaaGreatDoorSocA
set_option linter.unusedVariables false
set_option linter.unusedSimpArgs false

/- package flook's table of functions. No conditions. -/
namespace Go.Proofs.YtkghpiaoggljjaaGreatDoor.Num.Fl
open Go.RowKit Go.Lib Go.MapKept Num

/-- what flook.entry and flook.- leave -/
def RowRet (w : World) (r : Row) (e : Ending) (w' : World) : Prop := ∃ v, e = .returned (.agg #[.int .i64 r.least, .int .i64 r.most, .string r.kinds, v]) ∧ RowFn w' v r ∧ Below w.heap.size w w'
attribute [local go_sem] run_store_func
set_option maxHeartbeats 1000000 in
theorem num_any (least most : Int) (kinds : ByteArray) (F : Value) (w : World) (hF : ∃ f c d, F = .func f c d) :
  Calls Tryz.prog 35 #[.int .i64 least, .int .i64 most, .string kinds, F] w fun e w' => e = .returned (.agg #[.int .i64 least, .int .i64 most, .string kinds, .func (.func 118) #[] #[.pointer (some ⟨w.heap.size, 0, none⟩)]]) ∧ w'.cell? ⟨w.heap.size, 0, none⟩ = some F ∧ Below w.heap.size w w' := by
 obtain ⟨f, c, d, rfl⟩ := hF
 have hmf : ∀ (fn : Fn) (first cap : Array Value) (w : World), (Instr.makeFunc fn first cap).run Tryz.prog w = .ok (.func fn first cap) w := fun _ _ _ _ => rfl
 go_enter Tryz.func35, Tryz.ntmps35
 go_wp2
 have hc : (((w.alloc (.cells #[.func f c d] 65)).alloc (.cells #[.int .i64 least, .int .i64 most, .string kinds, .func (.func 118) #[] #[.pointer (some ⟨w.heap.size, 0, none⟩)]] 60))).cell? ⟨w.heap.size, 0, none⟩ = some (.func f c d) :=
  Lib.cell_of_heap ((Below.heap_alloc _ _ _ (by simp)).trans (heap_alloc_new w _)) 0
 exact bodyPost_ret (v := .agg #[.int .i64 least, .int .i64 most, .string kinds, .func (.func 118) #[] #[.pointer (some ⟨w.heap.size, 0, none⟩)]]) (by simp [results, Tryz.results35, go_sem]) rfl ⟨rfl, hc, ((Below.refl _ _).alloc (Nat.le_refl _) _).alloc (by simp) _⟩
theorem num_row (r : Row) (hr : r.num = true) (w : World) : Calls Tryz.prog 35 #[.int .i64 r.least, .int .i64 r.most, .string r.kinds, .func (.func r.fn) #[] #[]] w (RowRet w r) :=
 (num_any r.least r.most r.kinds _ w ⟨_, _, _, rfl⟩).mono fun e w' ⟨he, hc, hb⟩ => ⟨_, he, by unfold RowFn; rw [if_pos hr]; exact ⟨_, rfl, hc⟩, hb⟩

theorem num_lit (name : ByteArray) (least most : Int) (kinds : ByteArray) (F : FuncId) (w : World) : Calls Tryz.prog 35 #[.int .i64 least, .int .i64 most, .string kinds, .func (.func F) #[] #[]] w fun e w' => ∃ v, e = .returned (.agg #[.int .i64 least, .int .i64 most, .string kinds, v]) ∧ RowFn w' v ⟨name, least, most, kinds, true, F⟩ ∧ Below w.heap.size w w' := num_row ⟨name, least, most, kinds, true, F⟩ rfl w

def allRows : List Row := [⟨{ data := #[77, 65, 84, 67, 72] }, 2, 3, { data := #[115, 97, 115] }, true, 36⟩,
 ⟨{ data := #[88, 77, 65, 84, 67, 72] }, 2, 3, { data := #[115, 97, 115] }, true, 37⟩,
 ⟨{ data := #[76, 79, 79, 75, 85, 80] }, 2, 3, { data := #[115, 97] }, true, 38⟩,
 ⟨{ data := #[86, 76, 79, 79, 75, 85, 80] }, 3, 4, { data := #[115, 97, 115, 115] }, true, 39⟩,
 ⟨{ data := #[72, 76, 79, 79, 75, 85, 80] }, 3, 4, { data := #[115, 97, 115, 115] }, true, 41⟩,
 ⟨{ data := #[88, 76, 79, 79, 75, 85, 80] }, 3, 5, { data := #[115, 97, 97, 97, 115] }, true, 42⟩,
 ⟨{ data := #[73, 78, 68, 69, 88] }, 2, 3, { data := #[97, 115, 115] }, true, 43⟩,
 ⟨{ data := #[82, 79, 87, 83] }, 1, 1, { data := #[97] }, true, 44⟩,
 ⟨{ data := #[67, 79, 76, 85, 77, 78, 83] }, 1, 1, { data := #[97] }, true, 47⟩,
 ⟨{ data := #[84, 82, 65, 78, 83, 80, 79, 83, 69] }, 1, 1, { data := #[97] }, true, 48⟩,
 ⟨{ data := #[84, 65, 75, 69] }, 2, 3, { data := #[97, 115, 115] }, true, 51⟩,
 ⟨{ data := #[68, 82, 79, 80] }, 2, 3, { data := #[97, 115, 115] }, true, 53⟩,
 ⟨{ data := #[67, 72, 79, 79, 83, 69, 82, 79, 87, 83] }, 2, 255, { data := #[97, 115] }, true, 54⟩,
 ⟨{ data := #[67, 72, 79, 79, 83, 69, 67, 79, 76, 83] }, 2, 255, { data := #[97, 115] }, true, 56⟩,
 ⟨{ data := #[72, 83, 84, 65, 67, 75] }, 1, 255, { data := #[97] }, true, 57⟩,
 ⟨{ data := #[86, 83, 84, 65, 67, 75] }, 1, 255, { data := #[97] }, true, 59⟩,
 ⟨{ data := #[84, 79, 82, 79, 87] }, 1, 1, { data := #[97] }, true, 60⟩,
 ⟨{ data := #[84, 79, 67, 79, 76] }, 1, 1, { data := #[97] }, true, 61⟩,
 ⟨{ data := #[87, 82, 65, 80, 82, 79, 87, 83] }, 2, 3, { data := #[97, 115, 115] }, true, 62⟩,
 ⟨{ data := #[87, 82, 65, 80, 67, 79, 76, 83] }, 2, 3, { data := #[97, 115, 115] }, true, 64⟩,
 ⟨{ data := #[69, 88, 80, 65, 78, 68] }, 2, 4, { data := #[97, 115, 115, 115] }, true, 65⟩,
 ⟨{ data := #[70, 73, 76, 84, 69, 82] }, 2, 3, { data := #[97, 97, 97] }, true, 66⟩,
 ⟨{ data := #[83, 79, 82, 84] }, 1, 4, { data := #[97, 115, 115, 115] }, true, 67⟩,
 ⟨{ data := #[83, 79, 82, 84, 66, 89] }, 2, 255, { data := #[97] }, true, 68⟩,
 ⟨{ data := #[85, 78, 73, 81, 85, 69] }, 1, 3, { data := #[97, 115, 115] }, true, 69⟩]
set_option maxHeartbeats 8000000 in
set_option maxRecDepth 100000 in
theorem table_any (w : World) : Calls Tryz.prog 22 #[] w fun e w' => ∃ b, e = .returned (.map (some b)) ∧ TableAt w' b allRows ∧ Below w.heap.size w w' := by
 have hmm := @run_makeMap Tryz.prog
 have TA := Lib.hid (show TableAt (w.alloc (.map #[] 0)) w.heap.size (allRows.take 0) from TableAt.made w)
 have HL := Lib.hid (show Below w.heap.size w (w.alloc (.map #[] 0)) from (Below.refl _ _).alloc (Nat.le_refl _) _)
 go_enter Tryz.func22, Tryz.ntmps22
 go_wp2_with fail
 refine (num_lit { data := #[77, 65, 84, 67, 72] } 2 3 { data := #[115, 97, 115] } 36 _).mono ?_
 rintro e W0 ⟨v, rfl, hr, hb⟩
 have RF := Lib.hid hr
 replace TA := Lib.hid (TA.out.below hb)
 replace HL := Lib.hid (HL.out.trans (hb.mono HL.out.size))
 clear hr hb
 go_wp2_with (first | (refine wpList_insert_row _ rfl _ _ _ _ (.inl rfl) rfl TA.out ⟨{ data := #[77, 65, 84, 67, 72] }, 2, 3, { data := #[115, 97, 115] }, true, 36⟩ v rfl rfl RF.out (fresh_of (by kernel_rfl)) Tryz.underlying46 Tryz.underlying9 ?_; intro V0 ta hg; replace TA := Lib.hid (show TableAt V0 _ (allRows.take 1) from ta); replace HL := Lib.hid (below_map HL.out (Nat.le_refl _) hg); clear ta hg RF))
 go_wp2_with fail
 refine (num_lit { data := #[88, 77, 65, 84, 67, 72] } 2 3 { data := #[115, 97, 115] } 37 _).mono ?_
 rintro e W1 ⟨v, rfl, hr, hb⟩
 have RF := Lib.hid hr
 replace TA := Lib.hid (TA.out.below hb)
 replace HL := Lib.hid (HL.out.trans (hb.mono HL.out.size))
 clear hr hb
 go_wp2_with (first | (refine wpList_insert_row _ rfl _ _ _ _ (.inl rfl) rfl TA.out ⟨{ data := #[88, 77, 65, 84, 67, 72] }, 2, 3, { data := #[115, 97, 115] }, true, 37⟩ v rfl rfl RF.out (fresh_of (by kernel_rfl)) Tryz.underlying46 Tryz.underlying9 ?_; intro V1 ta hg; replace TA := Lib.hid (show TableAt V1 _ (allRows.take 2) from ta); replace HL := Lib.hid (below_map HL.out (Nat.le_refl _) hg); clear ta hg RF))
 go_wp2_with fail
 refine (num_lit { data := #[76, 79, 79, 75, 85, 80] } 2 3 { data := #[115, 97] } 38 _).mono ?_
 rintro e W2 ⟨v, rfl, hr, hb⟩
 have RF := Lib.hid hr
 replace TA := Lib.hid (TA.out.below hb)
 replace HL := Lib.hid (HL.out.trans (hb.mono HL.out.size))
 clear hr hb
 go_wp2_with (first | (refine wpList_insert_row _ rfl _ _ _ _ (.inl rfl) rfl TA.out ⟨{ data := #[76, 79, 79, 75, 85, 80] }, 2, 3, { data := #[115, 97] }, true, 38⟩ v rfl rfl RF.out (fresh_of (by kernel_rfl)) Tryz.underlying46 Tryz.underlying9 ?_; intro V2 ta hg; replace TA := Lib.hid (show TableAt V2 _ (allRows.take 3) from ta); replace HL := Lib.hid (below_map HL.out (Nat.le_refl _) hg); clear ta hg RF))
 go_wp2_with fail
 refine (num_lit { data := #[86, 76, 79, 79, 75, 85, 80] } 3 4 { data := #[115, 97, 115, 115] } 39 _).mono ?_
 rintro e W3 ⟨v, rfl, hr, hb⟩
 have RF := Lib.hid hr
 replace TA := Lib.hid (TA.out.below hb)
 replace HL := Lib.hid (HL.out.trans (hb.mono HL.out.size))
 clear hr hb
 go_wp2_with (first | (refine wpList_insert_row _ rfl _ _ _ _ (.inl rfl) rfl TA.out ⟨{ data := #[86, 76, 79, 79, 75, 85, 80] }, 3, 4, { data := #[115, 97, 115, 115] }, true, 39⟩ v rfl rfl RF.out (fresh_of (by kernel_rfl)) Tryz.underlying46 Tryz.underlying9 ?_; intro V3 ta hg; replace TA := Lib.hid (show TableAt V3 _ (allRows.take 4) from ta); replace HL := Lib.hid (below_map HL.out (Nat.le_refl _) hg); clear ta hg RF))
 go_wp2_with fail
 refine (num_lit { data := #[72, 76, 79, 79, 75, 85, 80] } 3 4 { data := #[115, 97, 115, 115] } 41 _).mono ?_
 rintro e W4 ⟨v, rfl, hr, hb⟩
 have RF := Lib.hid hr
 replace TA := Lib.hid (TA.out.below hb)
 replace HL := Lib.hid (HL.out.trans (hb.mono HL.out.size))
 clear hr hb
 go_wp2_with (first | (refine wpList_insert_row _ rfl _ _ _ _ (.inl rfl) rfl TA.out ⟨{ data := #[72, 76, 79, 79, 75, 85, 80] }, 3, 4, { data := #[115, 97, 115, 115] }, true, 41⟩ v rfl rfl RF.out (fresh_of (by kernel_rfl)) Tryz.underlying46 Tryz.underlying9 ?_; intro V4 ta hg; replace TA := Lib.hid (show TableAt V4 _ (allRows.take 5) from ta); replace HL := Lib.hid (below_map HL.out (Nat.le_refl _) hg); clear ta hg RF))
 go_wp2_with fail
 refine (num_lit { data := #[88, 76, 79, 79, 75, 85, 80] } 3 5 { data := #[115, 97, 97, 97, 115] } 42 _).mono ?_
 rintro e W5 ⟨v, rfl, hr, hb⟩
 have RF := Lib.hid hr
 replace TA := Lib.hid (TA.out.below hb)
 replace HL := Lib.hid (HL.out.trans (hb.mono HL.out.size))
 clear hr hb
 go_wp2_with (first | (refine wpList_insert_row _ rfl _ _ _ _ (.inl rfl) rfl TA.out ⟨{ data := #[88, 76, 79, 79, 75, 85, 80] }, 3, 5, { data := #[115, 97, 97, 97, 115] }, true, 42⟩ v rfl rfl RF.out (fresh_of (by kernel_rfl)) Tryz.underlying46 Tryz.underlying9 ?_; intro V5 ta hg; replace TA := Lib.hid (show TableAt V5 _ (allRows.take 6) from ta); replace HL := Lib.hid (below_map HL.out (Nat.le_refl _) hg); clear ta hg RF))
 go_wp2_with fail
 refine (num_lit { data := #[73, 78, 68, 69, 88] } 2 3 { data := #[97, 115, 115] } 43 _).mono ?_
 rintro e W6 ⟨v, rfl, hr, hb⟩
 have RF := Lib.hid hr
 replace TA := Lib.hid (TA.out.below hb)
 replace HL := Lib.hid (HL.out.trans (hb.mono HL.out.size))
 clear hr hb
 go_wp2_with (first | (refine wpList_insert_row _ rfl _ _ _ _ (.inl rfl) rfl TA.out ⟨{ data := #[73, 78, 68, 69, 88] }, 2, 3, { data := #[97, 115, 115] }, true, 43⟩ v rfl rfl RF.out (fresh_of (by kernel_rfl)) Tryz.underlying46 Tryz.underlying9 ?_; intro V6 ta hg; replace TA := Lib.hid (show TableAt V6 _ (allRows.take 7) from ta); replace HL := Lib.hid (below_map HL.out (Nat.le_refl _) hg); clear ta hg RF))
 go_wp2_with fail
 refine (num_lit { data := #[82, 79, 87, 83] } 1 1 { data := #[97] } 44 _).mono ?_
 rintro e W7 ⟨v, rfl, hr, hb⟩
 have RF := Lib.hid hr
 replace TA := Lib.hid (TA.out.below hb)
 replace HL := Lib.hid (HL.out.trans (hb.mono HL.out.size))
 clear hr hb
 go_wp2_with (first | (refine wpList_insert_row _ rfl _ _ _ _ (.inl rfl) rfl TA.out ⟨{ data := #[82, 79, 87, 83] }, 1, 1, { data := #[97] }, true, 44⟩ v rfl rfl RF.out (fresh_of (by kernel_rfl)) Tryz.underlying46 Tryz.underlying9 ?_; intro V7 ta hg; replace TA := Lib.hid (show TableAt V7 _ (allRows.take 8) from ta); replace HL := Lib.hid (below_map HL.out (Nat.le_refl _) hg); clear ta hg RF))
 go_wp2_with fail
 refine (num_lit { data := #[67, 79, 76, 85, 77, 78, 83] } 1 1 { data := #[97] } 47 _).mono ?_
 rintro e W8 ⟨v, rfl, hr, hb⟩
 have RF := Lib.hid hr
 replace TA := Lib.hid (TA.out.below hb)
 replace HL := Lib.hid (HL.out.trans (hb.mono HL.out.size))
 clear hr hb
 go_wp2_with (first | (refine wpList_insert_row _ rfl _ _ _ _ (.inl rfl) rfl TA.out ⟨{ data := #[67, 79, 76, 85, 77, 78, 83] }, 1, 1, { data := #[97] }, true, 47⟩ v rfl rfl RF.out (fresh_of (by kernel_rfl)) Tryz.underlying46 Tryz.underlying9 ?_; intro V8 ta hg; replace TA := Lib.hid (show TableAt V8 _ (allRows.take 9) from ta); replace HL := Lib.hid (below_map HL.out (Nat.le_refl _) hg); clear ta hg RF))
 go_wp2_with fail
 refine (num_lit { data := #[84, 82, 65, 78, 83, 80, 79, 83, 69] } 1 1 { data := #[97] } 48 _).mono ?_
 rintro e W9 ⟨v, rfl, hr, hb⟩
 have RF := Lib.hid hr
 replace TA := Lib.hid (TA.out.below hb)
 replace HL := Lib.hid (HL.out.trans (hb.mono HL.out.size))
 clear hr hb
 go_wp2_with (first | (refine wpList_insert_row _ rfl _ _ _ _ (.inl rfl) rfl TA.out ⟨{ data := #[84, 82, 65, 78, 83, 80, 79, 83, 69] }, 1, 1, { data := #[97] }, true, 48⟩ v rfl rfl RF.out (fresh_of (by kernel_rfl)) Tryz.underlying46 Tryz.underlying9 ?_; intro V9 ta hg; replace TA := Lib.hid (show TableAt V9 _ (allRows.take 10) from ta); replace HL := Lib.hid (below_map HL.out (Nat.le_refl _) hg); clear ta hg RF))
 go_wp2_with fail
 refine (num_lit { data := #[84, 65, 75, 69] } 2 3 { data := #[97, 115, 115] } 51 _).mono ?_
 rintro e W10 ⟨v, rfl, hr, hb⟩
 have RF := Lib.hid hr
 replace TA := Lib.hid (TA.out.below hb)
 replace HL := Lib.hid (HL.out.trans (hb.mono HL.out.size))
 clear hr hb
 go_wp2_with (first | (refine wpList_insert_row _ rfl _ _ _ _ (.inl rfl) rfl TA.out ⟨{ data := #[84, 65, 75, 69] }, 2, 3, { data := #[97, 115, 115] }, true, 51⟩ v rfl rfl RF.out (fresh_of (by kernel_rfl)) Tryz.underlying46 Tryz.underlying9 ?_; intro V10 ta hg; replace TA := Lib.hid (show TableAt V10 _ (allRows.take 11) from ta); replace HL := Lib.hid (below_map HL.out (Nat.le_refl _) hg); clear ta hg RF))
 go_wp2_with fail
 refine (num_lit { data := #[68, 82, 79, 80] } 2 3 { data := #[97, 115, 115] } 53 _).mono ?_
 rintro e W11 ⟨v, rfl, hr, hb⟩
 have RF := Lib.hid hr
 replace TA := Lib.hid (TA.out.below hb)
 replace HL := Lib.hid (HL.out.trans (hb.mono HL.out.size))
 clear hr hb
 go_wp2_with (first | (refine wpList_insert_row _ rfl _ _ _ _ (.inl rfl) rfl TA.out ⟨{ data := #[68, 82, 79, 80] }, 2, 3, { data := #[97, 115, 115] }, true, 53⟩ v rfl rfl RF.out (fresh_of (by kernel_rfl)) Tryz.underlying46 Tryz.underlying9 ?_; intro V11 ta hg; replace TA := Lib.hid (show TableAt V11 _ (allRows.take 12) from ta); replace HL := Lib.hid (below_map HL.out (Nat.le_refl _) hg); clear ta hg RF))
 go_wp2_with fail
 refine (num_lit { data := #[67, 72, 79, 79, 83, 69, 82, 79, 87, 83] } 2 255 { data := #[97, 115] } 54 _).mono ?_
 rintro e W12 ⟨v, rfl, hr, hb⟩
 have RF := Lib.hid hr
 replace TA := Lib.hid (TA.out.below hb)
 replace HL := Lib.hid (HL.out.trans (hb.mono HL.out.size))
 clear hr hb
 go_wp2_with (first | (refine wpList_insert_row _ rfl _ _ _ _ (.inl rfl) rfl TA.out ⟨{ data := #[67, 72, 79, 79, 83, 69, 82, 79, 87, 83] }, 2, 255, { data := #[97, 115] }, true, 54⟩ v rfl rfl RF.out (fresh_of (by kernel_rfl)) Tryz.underlying46 Tryz.underlying9 ?_; intro V12 ta hg; replace TA := Lib.hid (show TableAt V12 _ (allRows.take 13) from ta); replace HL := Lib.hid (below_map HL.out (Nat.le_refl _) hg); clear ta hg RF))
 go_wp2_with fail
 refine (num_lit { data := #[67, 72, 79, 79, 83, 69, 67, 79, 76, 83] } 2 255 { data := #[97, 115] } 56 _).mono ?_
 rintro e W13 ⟨v, rfl, hr, hb⟩
 have RF := Lib.hid hr
 replace TA := Lib.hid (TA.out.below hb)
 replace HL := Lib.hid (HL.out.trans (hb.mono HL.out.size))
 clear hr hb
 go_wp2_with (first | (refine wpList_insert_row _ rfl _ _ _ _ (.inl rfl) rfl TA.out ⟨{ data := #[67, 72, 79, 79, 83, 69, 67, 79, 76, 83] }, 2, 255, { data := #[97, 115] }, true, 56⟩ v rfl rfl RF.out (fresh_of (by kernel_rfl)) Tryz.underlying46 Tryz.underlying9 ?_; intro V13 ta hg; replace TA := Lib.hid (show TableAt V13 _ (allRows.take 14) from ta); replace HL := Lib.hid (below_map HL.out (Nat.le_refl _) hg); clear ta hg RF))
 go_wp2_with fail
 refine (num_lit { data := #[72, 83, 84, 65, 67, 75] } 1 255 { data := #[97] } 57 _).mono ?_
 rintro e W14 ⟨v, rfl, hr, hb⟩
 have RF := Lib.hid hr
 replace TA := Lib.hid (TA.out.below hb)
 replace HL := Lib.hid (HL.out.trans (hb.mono HL.out.size))
 clear hr hb
 go_wp2_with (first | (refine wpList_insert_row _ rfl _ _ _ _ (.inl rfl) rfl TA.out ⟨{ data := #[72, 83, 84, 65, 67, 75] }, 1, 255, { data := #[97] }, true, 57⟩ v rfl rfl RF.out (fresh_of (by kernel_rfl)) Tryz.underlying46 Tryz.underlying9 ?_; intro V14 ta hg; replace TA := Lib.hid (show TableAt V14 _ (allRows.take 15) from ta); replace HL := Lib.hid (below_map HL.out (Nat.le_refl _) hg); clear ta hg RF))
 go_wp2_with fail
 refine (num_lit { data := #[86, 83, 84, 65, 67, 75] } 1 255 { data := #[97] } 59 _).mono ?_
 rintro e W15 ⟨v, rfl, hr, hb⟩
 have RF := Lib.hid hr
 replace TA := Lib.hid (TA.out.below hb)
 replace HL := Lib.hid (HL.out.trans (hb.mono HL.out.size))
 clear hr hb
 go_wp2_with (first | (refine wpList_insert_row _ rfl _ _ _ _ (.inl rfl) rfl TA.out ⟨{ data := #[86, 83, 84, 65, 67, 75] }, 1, 255, { data := #[97] }, true, 59⟩ v rfl rfl RF.out (fresh_of (by kernel_rfl)) Tryz.underlying46 Tryz.underlying9 ?_; intro V15 ta hg; replace TA := Lib.hid (show TableAt V15 _ (allRows.take 16) from ta); replace HL := Lib.hid (below_map HL.out (Nat.le_refl _) hg); clear ta hg RF))
 go_wp2_with fail
 refine (num_lit { data := #[84, 79, 82, 79, 87] } 1 1 { data := #[97] } 60 _).mono ?_
 rintro e W16 ⟨v, rfl, hr, hb⟩
 have RF := Lib.hid hr
 replace TA := Lib.hid (TA.out.below hb)
 replace HL := Lib.hid (HL.out.trans (hb.mono HL.out.size))
 clear hr hb
 go_wp2_with (first | (refine wpList_insert_row _ rfl _ _ _ _ (.inl rfl) rfl TA.out ⟨{ data := #[84, 79, 82, 79, 87] }, 1, 1, { data := #[97] }, true, 60⟩ v rfl rfl RF.out (fresh_of (by kernel_rfl)) Tryz.underlying46 Tryz.underlying9 ?_; intro V16 ta hg; replace TA := Lib.hid (show TableAt V16 _ (allRows.take 17) from ta); replace HL := Lib.hid (below_map HL.out (Nat.le_refl _) hg); clear ta hg RF))
 go_wp2_with fail
 refine (num_lit { data := #[84, 79, 67, 79, 76] } 1 1 { data := #[97] } 61 _).mono ?_
 rintro e W17 ⟨v, rfl, hr, hb⟩
 have RF := Lib.hid hr
 replace TA := Lib.hid (TA.out.below hb)
 replace HL := Lib.hid (HL.out.trans (hb.mono HL.out.size))
 clear hr hb
 go_wp2_with (first | (refine wpList_insert_row _ rfl _ _ _ _ (.inl rfl) rfl TA.out ⟨{ data := #[84, 79, 67, 79, 76] }, 1, 1, { data := #[97] }, true, 61⟩ v rfl rfl RF.out (fresh_of (by kernel_rfl)) Tryz.underlying46 Tryz.underlying9 ?_; intro V17 ta hg; replace TA := Lib.hid (show TableAt V17 _ (allRows.take 18) from ta); replace HL := Lib.hid (below_map HL.out (Nat.le_refl _) hg); clear ta hg RF))
 go_wp2_with fail
 refine (num_lit { data := #[87, 82, 65, 80, 82, 79, 87, 83] } 2 3 { data := #[97, 115, 115] } 62 _).mono ?_
 rintro e W18 ⟨v, rfl, hr, hb⟩
 have RF := Lib.hid hr
 replace TA := Lib.hid (TA.out.below hb)
 replace HL := Lib.hid (HL.out.trans (hb.mono HL.out.size))
 clear hr hb
 go_wp2_with (first | (refine wpList_insert_row _ rfl _ _ _ _ (.inl rfl) rfl TA.out ⟨{ data := #[87, 82, 65, 80, 82, 79, 87, 83] }, 2, 3, { data := #[97, 115, 115] }, true, 62⟩ v rfl rfl RF.out (fresh_of (by kernel_rfl)) Tryz.underlying46 Tryz.underlying9 ?_; intro V18 ta hg; replace TA := Lib.hid (show TableAt V18 _ (allRows.take 19) from ta); replace HL := Lib.hid (below_map HL.out (Nat.le_refl _) hg); clear ta hg RF))
 go_wp2_with fail
 refine (num_lit { data := #[87, 82, 65, 80, 67, 79, 76, 83] } 2 3 { data := #[97, 115, 115] } 64 _).mono ?_
 rintro e W19 ⟨v, rfl, hr, hb⟩
 have RF := Lib.hid hr
 replace TA := Lib.hid (TA.out.below hb)
 replace HL := Lib.hid (HL.out.trans (hb.mono HL.out.size))
 clear hr hb
 go_wp2_with (first | (refine wpList_insert_row _ rfl _ _ _ _ (.inl rfl) rfl TA.out ⟨{ data := #[87, 82, 65, 80, 67, 79, 76, 83] }, 2, 3, { data := #[97, 115, 115] }, true, 64⟩ v rfl rfl RF.out (fresh_of (by kernel_rfl)) Tryz.underlying46 Tryz.underlying9 ?_; intro V19 ta hg; replace TA := Lib.hid (show TableAt V19 _ (allRows.take 20) from ta); replace HL := Lib.hid (below_map HL.out (Nat.le_refl _) hg); clear ta hg RF))
 go_wp2_with fail
 refine (num_lit { data := #[69, 88, 80, 65, 78, 68] } 2 4 { data := #[97, 115, 115, 115] } 65 _).mono ?_
 rintro e W20 ⟨v, rfl, hr, hb⟩
 have RF := Lib.hid hr
 replace TA := Lib.hid (TA.out.below hb)
 replace HL := Lib.hid (HL.out.trans (hb.mono HL.out.size))
 clear hr hb
 go_wp2_with (first | (refine wpList_insert_row _ rfl _ _ _ _ (.inl rfl) rfl TA.out ⟨{ data := #[69, 88, 80, 65, 78, 68] }, 2, 4, { data := #[97, 115, 115, 115] }, true, 65⟩ v rfl rfl RF.out (fresh_of (by kernel_rfl)) Tryz.underlying46 Tryz.underlying9 ?_; intro V20 ta hg; replace TA := Lib.hid (show TableAt V20 _ (allRows.take 21) from ta); replace HL := Lib.hid (below_map HL.out (Nat.le_refl _) hg); clear ta hg RF))
 go_wp2_with fail
 refine (num_lit { data := #[70, 73, 76, 84, 69, 82] } 2 3 { data := #[97, 97, 97] } 66 _).mono ?_
 rintro e W21 ⟨v, rfl, hr, hb⟩
 have RF := Lib.hid hr
 replace TA := Lib.hid (TA.out.below hb)
 replace HL := Lib.hid (HL.out.trans (hb.mono HL.out.size))
 clear hr hb
 go_wp2_with (first | (refine wpList_insert_row _ rfl _ _ _ _ (.inl rfl) rfl TA.out ⟨{ data := #[70, 73, 76, 84, 69, 82] }, 2, 3, { data := #[97, 97, 97] }, true, 66⟩ v rfl rfl RF.out (fresh_of (by kernel_rfl)) Tryz.underlying46 Tryz.underlying9 ?_; intro V21 ta hg; replace TA := Lib.hid (show TableAt V21 _ (allRows.take 22) from ta); replace HL := Lib.hid (below_map HL.out (Nat.le_refl _) hg); clear ta hg RF))
 go_wp2_with fail
 refine (num_lit { data := #[83, 79, 82, 84] } 1 4 { data := #[97, 115, 115, 115] } 67 _).mono ?_
 rintro e W22 ⟨v, rfl, hr, hb⟩
 have RF := Lib.hid hr
 replace TA := Lib.hid (TA.out.below hb)
 replace HL := Lib.hid (HL.out.trans (hb.mono HL.out.size))
 clear hr hb
 go_wp2_with (first | (refine wpList_insert_row _ rfl _ _ _ _ (.inl rfl) rfl TA.out ⟨{ data := #[83, 79, 82, 84] }, 1, 4, { data := #[97, 115, 115, 115] }, true, 67⟩ v rfl rfl RF.out (fresh_of (by kernel_rfl)) Tryz.underlying46 Tryz.underlying9 ?_; intro V22 ta hg; replace TA := Lib.hid (show TableAt V22 _ (allRows.take 23) from ta); replace HL := Lib.hid (below_map HL.out (Nat.le_refl _) hg); clear ta hg RF))
 go_wp2_with fail
 refine (num_lit { data := #[83, 79, 82, 84, 66, 89] } 2 255 { data := #[97] } 68 _).mono ?_
 rintro e W23 ⟨v, rfl, hr, hb⟩
 have RF := Lib.hid hr
 replace TA := Lib.hid (TA.out.below hb)
 replace HL := Lib.hid (HL.out.trans (hb.mono HL.out.size))
 clear hr hb
 go_wp2_with (first | (refine wpList_insert_row _ rfl _ _ _ _ (.inl rfl) rfl TA.out ⟨{ data := #[83, 79, 82, 84, 66, 89] }, 2, 255, { data := #[97] }, true, 68⟩ v rfl rfl RF.out (fresh_of (by kernel_rfl)) Tryz.underlying46 Tryz.underlying9 ?_; intro V23 ta hg; replace TA := Lib.hid (show TableAt V23 _ (allRows.take 24) from ta); replace HL := Lib.hid (below_map HL.out (Nat.le_refl _) hg); clear ta hg RF))
 go_wp2_with fail
 refine (num_lit { data := #[85, 78, 73, 81, 85, 69] } 1 3 { data := #[97, 115, 115] } 69 _).mono ?_
 rintro e W24 ⟨v, rfl, hr, hb⟩
 have RF := Lib.hid hr
 replace TA := Lib.hid (TA.out.below hb)
 replace HL := Lib.hid (HL.out.trans (hb.mono HL.out.size))
 clear hr hb
 go_wp2_with (first | (refine wpList_insert_row _ rfl _ _ _ _ (.inl rfl) rfl TA.out ⟨{ data := #[85, 78, 73, 81, 85, 69] }, 1, 3, { data := #[97, 115, 115] }, true, 69⟩ v rfl rfl RF.out (fresh_of (by kernel_rfl)) Tryz.underlying46 Tryz.underlying9 ?_; intro V24 ta hg; replace TA := Lib.hid (show TableAt V24 _ (allRows.take 25) from ta); replace HL := Lib.hid (below_map HL.out (Nat.le_refl _) hg); clear ta hg RF))
 go_wp2
 go_ret
 exact ⟨_, rfl, TA.out, HL.out⟩

end Go.Proofs.YtkghpiaoggljjaaGreatDoor.Num.Fl

/- package value: Run at a row of flook's table. Conditions: the tables lie as they are laid. -/
namespace Go.Proofs.YtkghpiaoggljjaaGreatDoor.Num.Fl
open Go.RowKit Go.Lib Go.MapKept Num

/-- cell e holds the row's function -/
def FnAt (W : World) (e : Nat) (r : Row) : Prop := W.cell? ⟨e, 0, none⟩ = some (.func (.func r.fn) #[] #[])
theorem rowFn_at {w : World} {v : Value} {r : Row} (h : RowFn w v r) (hn : r.num = true) : ∃ e, v = .func (.func 118) #[] #[.pointer (some ⟨e, 0, none⟩)] ∧ FnAt w e r := by
 unfold RowFn at h
 rw [if_pos hn] at h
 exact h
theorem FnAt.below {w w' : World} {e : Nat} {r : Row} (h : FnAt w e r) (hb : Below w.heap.size w w') : FnAt w' e r := cell_below h hb
attribute [local go_sem] run_store_func

end Go.Proofs.YtkghpiaoggljjaaGreatDoor.Num.Fl

/- package flook's Call, the law's own call, the closures that wrap a function of the table. Conditions: the tables lie as they are laid. -/
namespace Go.Proofs.YtkghpiaoggljjaaGreatDoor.Num.Fl
open Go.RowKit Go.Lib Go.MapKept Num

set_option maxHeartbeats 4000000 in
set_option maxRecDepth 100000 in
theorem call_of (name : ByteArray) (sl : Value) (q : Val) (w : World) (hs : ∃ a l c, sl = .slice a l c)
  (hRun : ∀ W b, Below w.heap.size w W → TableAt W b allRows → Calls Tryz.prog 21 #[.map (some b), .string name, sl] W fun e w' => e = .returned (.tuple #[q.agg, .int .i64 0]) ∧ Below W.heap.size W w') :
  Calls Tryz.prog 11 #[.string name, sl] w fun e w' => e = .returned (.tuple #[q.agg, .int .i64 0]) ∧ Below w.heap.size w w' := by
 obtain ⟨sa, slen, sc, rfl⟩ := hs
 have hb : Below w.heap.size w (w.alloc (.cells #[.int .i64 0, .string { data := #[] }, .string { data := #[] }, .string { data := #[] }, .bool false, .int .i64 0, .int .i64 0, .int .i64 0, .slice none 0 0] 27)) := (Below.refl _ _).alloc (Nat.le_refl _) _
 have HR := Lib.hid (heap_alloc_new w (.cells #[.int .i64 0, .string { data := #[] }, .string { data := #[] }, .string { data := #[] }, .bool false, .int .i64 0, .int .i64 0, .int .i64 0, .slice none 0 0] 27))
 have HL := Lib.hid hb
 have TR := Lib.hid hRun
 unfold Val.agg at TR ⊢
 clear hRun hb
 go_enter Tryz.func11, Tryz.ntmps11
 go_wp2_with fail
 refine (table_any _).mono ?_
 rintro e W1 ⟨b, rfl, ht, hb⟩
 have HT := Lib.hid ht
 clear ht
 replace HR := Lib.hid (keep_block HR.out hb)
 replace HL := Lib.hid (HL.out.trans (hb.mono HL.out.size))
 clear hb
 go_wp2_with fail
 refine (TR.out _ _ HL.out HT.out).mono ?_
 rintro e W2 ⟨rfl, hb⟩
 replace HR := Lib.hid (keep_block HR.out hb)
 replace HL := Lib.hid (HL.out.trans (hb.mono HL.out.size))
 clear hb
 obtain ⟨⟨r0, r1, r2, r3, r4, r5, r6, r7, r8⟩, g0, g1, g2, g3, g4, g5, g6, g7, g8⟩ := nine_at HR.out
 obtain ⟨nb, z0, z1, z2, z3, z4, z5, z6, z7, z8⟩ := nine_end (x0 := (.int .i64 q.k)) (x1 := (.string q.n)) (x2 := (.string q.d)) (x3 := (.string q.t)) (x4 := (.bool q.on)) (x5 := (.int .i64 q.c)) (x6 := (.int .i64 q.r)) (x7 := (.int .i64 q.s)) (x8 := (.slice q.A q.L q.C)) HR.out HL.out (Nat.le_refl _)
 go_wp2
 refine bodyPost_ret (v := .tuple #[.agg #[.int .i64 q.k, .string q.n, .string q.d, .string q.t, .bool q.on, .int .i64 q.c, .int .i64 q.r, .int .i64 q.s, .slice q.A q.L q.C], .int .i64 0]) (by simp [results, Tryz.results11, go_sem, z0, z1, z2, z3, z4, z5, z6, z7, z8]) rfl ⟨rfl, nb⟩

set_option maxHeartbeats 4000000 in
set_option maxRecDepth 100000 in
theorem math_of (name : ByteArray) (sl : Value) (q : Val) (w : World) (hs : ∃ a l c, sl = .slice a l c)
  (hRun : ∀ W b, Below w.heap.size w W → TableAt W b allRows → Calls Tryz.prog 21 #[.map (some b), .string name, sl] W fun e w' => e = .returned (.tuple #[q.agg, .int .i64 0]) ∧ Below W.heap.size W w') :
  Calls Tryz.prog 6 #[.string name, sl] w fun e w' => e = .returned q.agg ∧ Below w.heap.size w w' := by
 have hb : Below w.heap.size w (w.alloc (.cells #[.int .i64 0, .string { data := #[] }, .string { data := #[] }, .string { data := #[] }, .bool false, .int .i64 0, .int .i64 0, .int .i64 0, .slice none 0 0] 27)) := (Below.refl _ _).alloc (Nat.le_refl _) _
 have HR := Lib.hid (heap_alloc_new w (.cells #[.int .i64 0, .string { data := #[] }, .string { data := #[] }, .string { data := #[] }, .bool false, .int .i64 0, .int .i64 0, .int .i64 0, .slice none 0 0] 27))
 have HL := Lib.hid hb
 have TC := Lib.hid (call_of name sl q (w.alloc (.cells #[.int .i64 0, .string { data := #[] }, .string { data := #[] }, .string { data := #[] }, .bool false, .int .i64 0, .int .i64 0, .int .i64 0, .slice none 0 0] 27)) hs (fun W b h => hRun W b (hb.trans (h.mono hb.size))))
 obtain ⟨sa, slen, sc, rfl⟩ := hs
 unfold Val.agg at TC ⊢
 clear hRun hb
 go_enter Tryz.func6, Tryz.ntmps6
 go_wp2_with fail
 refine TC.out.mono ?_
 rintro e W1 ⟨rfl, hb⟩
 replace HR := Lib.hid (keep_block HR.out hb)
 replace HL := Lib.hid (HL.out.trans (hb.mono HL.out.size))
 clear hb
 have hlt := heap_lt HR.out
 obtain ⟨⟨r0, r1, r2, r3, r4, r5, r6, r7, r8⟩, g0, g1, g2, g3, g4, g5, g6, g7, g8⟩ := nine_at HR.out
 have HF1 := Lib.hid (set9_at HR.out (.int .i64 q.k) (.string q.n) (.string q.d) (.string q.t) (.bool q.on) (.int .i64 q.c) (.int .i64 q.r) (.int .i64 q.s) (.slice q.A q.L q.C))
 have HF2 := Lib.hid ((Below.heap_alloc _ (.cells #[.int .i64 q.k, .string q.n, .string q.d, .string q.t, .bool q.on, .int .i64 q.c, .int .i64 q.r, .int .i64 q.s, .slice q.A q.L q.C] 27) _ (heap_lt HF1.out)).trans HF1.out)
 have HB2 := Lib.hid (nine_end (x0 := (.int .i64 q.k)) (x1 := (.string q.n)) (x2 := (.string q.d)) (x3 := (.string q.t)) (x4 := (.bool q.on)) (x5 := (.int .i64 q.c)) (x6 := (.int .i64 q.r)) (x7 := (.int .i64 q.s)) (x8 := (.slice q.A q.L q.C)) HR.out HL.out (Nat.le_refl _)).1
 have HZ2 := Lib.hid (HB2.out.alloc HB2.out.size (.cells #[.int .i64 q.k, .string q.n, .string q.d, .string q.t, .bool q.on, .int .i64 q.c, .int .i64 q.r, .int .i64 q.s, .slice q.A q.L q.C] 27))
 have HA := Lib.hid ((Below.heap_alloc W1 (.cells #[.int .i64 q.k, .string q.n, .string q.d, .string q.t, .bool q.on, .int .i64 q.c, .int .i64 q.r, .int .i64 q.s, .slice q.A q.L q.C] 27) _ hlt).trans HR.out)
 obtain ⟨⟨a0, a1, a2, a3, a4, a5, a6, a7, a8⟩, b0, b1, b2, b3, b4, b5, b6, b7, b8⟩ := nine_at HA.out
 obtain ⟨⟨z0, z1, z2, z3, z4, z5, z6, z7, z8⟩, _⟩ := nine_at HF2.out
 go_wp2
 refine bodyPost_ret (v := .agg #[.int .i64 q.k, .string q.n, .string q.d, .string q.t, .bool q.on, .int .i64 q.c, .int .i64 q.r, .int .i64 q.s, .slice q.A q.L q.C]) (by simp [results, Tryz.results6, go_sem, z0, z1, z2, z3, z4, z5, z6, z7, z8]) rfl ⟨rfl, HZ2.out⟩

end Go.Proofs.YtkghpiaoggljjaaGreatDoor.Num.Fl

/- package value: Inside at an array of numbers; Numbers where each argument is a number or an array of numbers. Conditions: all numbers fit; the tables lie as they are laid. -/
namespace Go.Proofs.YtkghpiaoggljjaaGreatDoor.Num
open Go.RowKit Go.Lib

theorem Env.low {W W' : World} {B : Nat} (h : Env W) (ho : ∀ k, k < B → W'.heap[k]? = W.heap[k]?) (hP : Past B) (hs : W.heap.size ≤ W'.heap.size) : Env W' := by
 refine ⟨?_, ?_, Nat.lt_of_lt_of_le h.room.1 hs, Nat.lt_of_lt_of_le h.room.2 hs⟩
 ·have := h.tab
  unfold Tab Lib.TabIs World.var? at this ⊢
  have hgl : Tryz.prog.globalNamed "internal/strconv.uint64pow10" = some 3 := by kernel_rfl
  rw [hgl] at this ⊢
  simp only [Option.bind_some] at this ⊢
  rw [ho _ hP.2]; exact this
 ·intro j hj
  have h1 := h.faults j hj
  have hl : j < faultTexts.size := hj
  rw [Array.getElem?_eq_getElem hl] at h1 ⊢
  simp only [World.cell?] at h1 ⊢
  rw [ho _ hP.1]; exact h1
theorem own_ge {B : Nat} {W : World} {v : Value} {qs : List Rat} (h : OwnF B v qs W) : ∀ r, v.ownBlock = some r → B ≤ r := by
 intro r hr
 rcases h.2 with ⟨rfl, _⟩ | ⟨g, cap, cur, rfl, hb, _⟩
 ·simp [Value.ownBlock] at hr
 ·simp [Value.ownBlock] at hr; omega
theorem OwnF.mono {B B' : Nat} {W : World} {v : Value} {qs : List Rat} (h : OwnF B v qs W) (hB : B' ≤ B) : OwnF B' v qs W := by
 refine ⟨h.1, ?_⟩
 rcases h.2 with h1 | ⟨g, cap, cur, e, hb, r⟩
 ·exact .inl h1
 ·exact .inr ⟨g, cap, cur, e, Nat.le_trans hB hb, r⟩
/-- the cells of an own row -/
theorem OwnF.cells {B : Nat} {v : Value} {qs : List Rat} {W : World} (h : OwnF B v qs W) (h0 : 0 < qs.length) : ∃ g cap, v = .slice (some ⟨g, 0, none⟩) qs.length cap ∧ B ≤ g ∧ ∀ j u, (fracCells qs)[j]? = some u → W.cell? ((⟨g, 0, none⟩ : Addr).add j) = some u := by
 rcases h.2 with ⟨_, h0'⟩ | ⟨g, cap, cur, rfl, hb, hg, hc1, hc2, hcs, htk⟩
 ·exfalso; have := h0'; simp at this; omega
 ·refine ⟨g, cap, rfl, hb, fun j u hj => ?_⟩
  rw [← htk] at hj
  have hl : j < qs.length * 2 := by
   have := (List.getElem?_eq_some_iff.1 hj).1
   simp only [List.length_take] at this
   omega
  rw [List.getElem?_take_of_lt hl] at hj
  rw [addr_add, Nat.zero_add, Lib.cell_of_heap hg j]
  simpa using hj
theorem frac_one (qs : List Rat) : ∀ u ∈ fracCells qs, u.oneCell' = true := by
 intro u hu
 unfold fracCells at hu
 obtain ⟨v, _, hv⟩ := List.mem_flatMap.1 hu
 simp only [List.mem_cons, List.not_mem_nil, or_false] at hv
 rcases hv with rfl | rfl <;> rfl
theorem frac_len : ∀ qs : List Rat, (fracCells qs).length = qs.length * 2
 | [] => rfl
 | q :: r => by
  have := frac_len r
  unfold fracCells at this ⊢
  rw [List.flatMap_cons, List.length_append, this, List.length_cons]
  show 2 + r.length * 2 = (r.length + 1) * 2
  omega
theorem fracCells_append (a b : List Rat) : fracCells (a ++ b) = fracCells a ++ fracCells b := by simp [fracCells]

/-- what stays while the items are collected; the row lies ahead of the base -/
structure InI (w : World) (g : Nat) (qs : List Rat) (v : Value) (done : List Rat) (W : World) : Prop where
 row : ValsAt W g 0 (numVals qs)
 env : Env W
 low : Below w.heap.size w W
 own : OwnF w.heap.size v done W
theorem InI.step {w W W' : World} {g : Nat} {qs done : List Rat} {v : Value} (h : InI w g qs v done W) (hb : Below W.heap.size W W') : InI w g qs v done W' :=
 ⟨h.row.below hb, h.env.below hb, h.low.trans (hb.mono h.low.size), h.own.kept (only_of_below hb none) (by cases v.ownBlock <;> simp)⟩
theorem vals_other {W W' : World} {g : Nat} {vs : List Val} (h : ValsAt W g 0 vs) (ho : W'.heap[g]? = W.heap[g]?) : ValsAt W' g 0 vs := by
 intro j u hj
 have := h j u hj
 rw [addr_add] at this ⊢
 simp only [World.cell?] at this ⊢
 rw [ho]; exact this
theorem InI.push {w W W' : World} {g : Nat} {qs done : List Rat} {v v' : Value} {q : Rat} (h : InI w g qs v done W) (ho : W'.ownsRow w.heap.size 24 2 v' (done.length + 1) (fracCells done ++ [.string (numS q), .string (denS q)])) (hg : W.grownBy W' v.ownBlock) (hg0 : g < w.heap.size) (hE0 : Past w.heap.size) : InI w g qs v' (done ++ [q]) W' := by
 have hother : ∀ k, k < w.heap.size → W'.heap[k]? = W.heap[k]? := fun k hk => hg.block k (Nat.lt_of_lt_of_le hk h.low.size) (fun e => by have := own_ge h.own k e.symm; omega)
 exact ⟨vals_other h.row (hother g hg0), h.env.low hother hE0 hg.size, h.low.grown hg h.low.size (fun r hr => own_ge h.own r hr), by unfold OwnF; rw [fracCells_snoc, List.length_append]; exact ho⟩

set_option maxHeartbeats 4000000 in
set_option maxRecDepth 100000 in
theorem inside_arr (qs : List Rat) (r s : Int) (g C : Nat) (w : World) (h9 : qs.length ≤ 1000) (h0 : 0 < qs.length) (hv : ValsAt w g 0 (numVals qs)) (hE : Env w) :
  Calls Tryz.prog 260 #[.agg #[.int .i64 5, .string { data := #[] }, .string { data := #[] }, .string { data := #[] }, .bool false, .int .i64 0, .int .i64 r, .int .i64 s, .slice (some ⟨g, 0, none⟩) qs.length C]] w fun e w' => ∃ v, e = .returned v ∧ OwnF w.heap.size v qs w' ∧ Env w' ∧ Below w.heap.size w w' := by
 have hb : Below w.heap.size w (w.alloc (.cells #[.int .i64 5, .string { data := #[] }, .string { data := #[] }, .string { data := #[] }, .bool false, .int .i64 0, .int .i64 r, .int .i64 s, .slice (some ⟨g, 0, none⟩) qs.length C] 27)) := (Below.refl _ _).alloc (Nat.le_refl _) _
 have HX := Lib.hid (heap_alloc_new w (.cells #[.int .i64 5, .string { data := #[] }, .string { data := #[] }, .string { data := #[] }, .bool false, .int .i64 0, .int .i64 r, .int .i64 s, .slice (some ⟨g, 0, none⟩) qs.length C] 27))
 have HE := Lib.hid (hE.below hb)
 have HL := Lib.hid hb
 have HV := Lib.hid (hv.below hb)
 obtain ⟨L, hL⟩ : ∃ L, qs.length = L := ⟨_, rfl⟩
 have HLL := Lib.hid hL
 rw [hL] at h0 h9 HX HE HL HV ⊢
 clear hv hL
 obtain ⟨i0, hi0', hz0, hz1, hz2⟩ := info_frac
 clear hb hE
 go_enter Tryz.func260, Tryz.ntmps260
 go_wp2_with fail
 refine (list_arr r s g L C _).mono ?_
 rintro e w1 ⟨rfl, hb⟩
 replace HX := Lib.hid (keep_block HX.out hb)
 replace HE := Lib.hid (HE.out.below hb)
 replace HV := Lib.hid (HV.out.below hb)
 replace HL := Lib.hid (HL.out.trans (hb.mono HL.out.size))
 clear hb
 have HGL := Lib.hid (show g < w1.heap.size from cell_lt (HV.out.at 0 (by rw [numVals_len, HLL.out]; exact h0)).1)
 have HPS := Lib.hid HE.out.room
 have HI0 := Lib.hid (show InI w1 g qs (.slice none 0 0) [] w1 from ⟨HV.out, HE.out, Below.refl _ _, World.ownsRow_nil _ _ _ _⟩)
 clear HV HE
 go_wp2_with fail
 go_loopg [3, 9] L (fun gh v3 v9 wx => ∃ k : Nat, v9 = .int .i64 (k : Int) ∧ k ≤ L ∧ gh = L - k ∧ InI w1 g qs v3 (qs.take k) wx)
 case atStart => exact ⟨0, rfl, Nat.zero_le _, rfl, HI0.out⟩
 case round =>
  clear HI0
  obtain ⟨k, rfl, hk, rfl, hti⟩ := hrel
  have HTI := Lib.hid hti
  clear hti
  by_cases hlt : k < L
  ·have hd : decide ((k : Int) < (L : Int)) = true := decide_eq_true (by omega)
   have hd2 : decide (k < L) = true := decide_eq_true hlt
   have hkq : k < qs.length := by rw [HLL.out]; exact hlt
   obtain ⟨q, hqq⟩ : ∃ q, qs[k] = q := ⟨_, rfl⟩
   have HTK := Lib.hid (show qs.take (k + 1) = qs.take k ++ [q] by rw [List.take_succ_eq_append_getElem hkq, hqq])
   have HDL := Lib.hid (show (qs.take k).length = k by simp; omega)
   obtain ⟨c0, c1, c2, c3, c4, c5, c6, c7, c8⟩ := item_at HTI.out.row k hkq q hqq
   have hi0 : (0 : Int) ≤ (k : Int) := by omega
   have hi1 : (k : Int) < (L : Int) := by omega
   clear hkq hqq
   obtain ⟨W2, hW2⟩ : ∃ W2, wr.alloc (.cells #[.int .i64 1, .string (numS q), .string (denS q), .string { data := #[] }, .bool false, .int .i64 0, .int .i64 0, .int .i64 0, .slice none 0 0] 27) = W2 := ⟨_, rfl⟩
   have HT2 := Lib.hid (HTI.out.step ((Below.refl wr.heap.size wr).alloc (Nat.le_refl _) (.cells #[.int .i64 1, .string (numS q), .string (denS q), .string { data := #[] }, .bool false, .int .i64 0, .int .i64 0, .int .i64 0, .slice none 0 0] 27)))
   rw [hW2] at HT2
   have HT3 := Lib.hid (HT2.out.step ((Below.refl W2.heap.size W2).alloc (Nat.le_refl _) (.cells #[.string (numS q), .string (denS q)] 24)))
   have hown := HT3.out.own
   unfold OwnF at hown
   rw [HDL.out] at hown
   obtain ⟨av, cv, hu⟩ := owns_form hown
   subst hu
   have HOW := Lib.hid hown
   clear hown
   have hml : k + 1 ≤ maxLen := by unfold maxLen; omega
   have hpos : W2.heap.size = wr.heap.size + 1 := by rw [← hW2]; simp
   have hnews := World.news_of_block (cs := #[.string (numS q), .string (denS q)]) (t := 24) (fr := (0, 0)) (heap_alloc_new W2 (.cells #[.string (numS q), .string (denS q)] 24))
   rw [hpos] at hnews
   have HNW := Lib.hid hnews
   have HBS := Lib.hid (show w1.heap.size ≤ (W2.alloc (.cells #[.string (numS q), .string (denS q)] 24)).heap.size from HT3.out.low.size)
   rw [← hW2] at HOW HNW HBS
   have HW2 := Lib.hid hW2
   clear hnews hpos hW2
   go_wp2_with (at_builtin; refine wpList_append_own _ rfl _ _ 145 rfl w1.heap.size 24 i0 _ 2 32 Tryz.underlying145 hi0' hz0 hz1 hz2 rfl (by decide) (.slice av k cv) k (fracCells (qs.take k)) rfl HOW.out ⟨wr.heap.size + 1, 0, none⟩ 1 1 [.string (numS q), .string (denS q)] rfl rfl HNW.out (by simp [Value.oneCell']) hml (by omega) HBS.out ?_)
   intro v5 w5 hown5 hgrow5 _
   rw [HW2.out] at hgrow5
   have HT5 := Lib.hid (HT3.out.push (by rw [HDL.out]; exact hown5) hgrow5 HGL.out HPS.out)
   rw [← HTK.out] at HT5
   clear hown5 hgrow5 c0 c1 c2 c3 c4 c5 c6 c7 c8
   go_wp2
   go_roundg (L - (k + 1))
   case measure => omega
   case rel => exact ⟨k + 1, by go_num, by omega, by omega, HT5.out⟩
  ·have hd : decide ((k : Int) < (L : Int)) = false := decide_eq_false (by omega)
   have hd2 : decide (k < L) = false := decide_eq_false hlt
   have hkL : k = L := by omega
   have HTK := Lib.hid (show qs.take k = qs by rw [hkL, ← HLL.out, List.take_length])
   rw [HTK.out] at HTI
   clear hkL hlt
   go_wp2
   go_ret
   exact ⟨_, rfl, HTI.out.own.mono HL.out.size, HTI.out.env, HL.out.trans (HTI.out.low.mono HL.out.size)⟩

end Go.Proofs.YtkghpiaoggljjaaGreatDoor.Num

/- package value: Numbers, where each argument is a number or an array of numbers. Conditions: all numbers fit; the tables lie as they are laid. -/
namespace Go.Proofs.YtkghpiaoggljjaaGreatDoor.Num
open Go.RowKit Go.Lib

/-- an argument that is a number or an array of numbers -/
def NArg (W : World) (b B : Nat) (v : Val) (qs : List Rat) : Prop :=
 (∃ q, v = numVal' q ∧ qs = [q]) ∨ ∃ r s g C, v = arrVal' r s g qs.length C ∧ 0 < qs.length ∧ qs.length ≤ 1000 ∧ g < B ∧ g ≠ b ∧ ValsAt W g 0 (numVals qs)
theorem NArg.other {W W' : World} {b B : Nat} {v : Val} {qs : List Rat} (h : NArg W b B v qs) (ho : ∀ k, k < B → k ≠ b → W'.heap[k]? = W.heap[k]?) : NArg W' b B v qs := by
 rcases h with h | ⟨r, s, g, C, h1, h2, h3, h4, h5, h6⟩
 ·exact .inl h
 ·exact .inr ⟨r, s, g, C, h1, h2, h3, h4, h5, vals_other h6 (ho g h4 h5)⟩
theorem NArg.below {W W' : World} {b B : Nat} {v : Val} {qs : List Rat} (h : NArg W b B v qs) (hb : Below W.heap.size W W') (hB : B ≤ W.heap.size) : NArg W' b B v qs :=
 h.other (fun k hk _ => hb.block k (Nat.lt_of_lt_of_le hk hB))
theorem NArg.kept {W W' : World} {b B : Nat} {v : Val} {qs : List Rat} (h : NArg W b B v qs) (hg : W.grownBy W' (some b)) (hB : B ≤ W.heap.size) : NArg W' b B v qs :=
 h.other (fun k hk hne => hg.block k (Nat.lt_of_lt_of_le hk hB) (fun e => hne (Option.some.inj e)))

structure MixI (W0 : World) (b g L C : Nat) (vs : List Val) (qss : List (List Rat)) (i : Nat) (v : Value) (done : List Rat) (W : World) : Prop where
 args : ArgsAt W b (some ⟨g, 0, none⟩) L C i
 vals : ValsAt W g 0 vs
 parts : ∀ j (h : j < vs.length) (h' : j < qss.length), NArg W b W0.heap.size vs[j] qss[j]
 env : Env W
 grown : W0.grownBy W (some b)
 own : OwnF W0.heap.size v done W
theorem vals_kept {W W' : World} {g b : Nat} {vs : List Val} (h : ValsAt W g 0 vs) (hg : W.grownBy W' (some b)) (hne : g ≠ b) (hlt : g < W.heap.size) : ValsAt W' g 0 vs :=
 vals_other h (hg.block g hlt (fun e => hne (Option.some.inj e)))
theorem MixI.below {W0 W W' : World} {b g L C i : Nat} {vs : List Val} {qss : List (List Rat)} {done : List Rat} {v : Value} (h : MixI W0 b g L C vs qss i v done W) (hb : Below W.heap.size W W') : MixI W0 b g L C vs qss i v done W' :=
 ⟨keep_block h.args hb, h.vals.below hb, fun j hj hj' => (h.parts j hj hj').below hb h.grown.size, h.env.below hb, kept_trans h.grown (kept_below hb), h.own.kept (only_of_below hb none) (by cases v.ownBlock <;> simp)⟩
theorem MixI.next {W0 W W' : World} {b g L C i n : Nat} {vs : List Val} {qss : List (List Rat)} {done : List Rat} {v : Value} (h : MixI W0 b g L C vs qss i v done W) (ha : ArgsAt W' b (some ⟨g, 0, none⟩) L C n) (hg : W.grownBy W' (some b)) (hP : Past b) (hgb : g ≠ b) (hb0 : b < W0.heap.size) (hg0 : g < W0.heap.size) : MixI W0 b g L C vs qss n v done W' :=
 ⟨ha, vals_kept h.vals hg hgb (Nat.lt_of_lt_of_le hg0 h.grown.size), fun j hj hj' => (h.parts j hj hj').kept hg h.grown.size, h.env.kept hg hP, kept_trans h.grown hg, h.own.kept hg (by
  cases hv : v.ownBlock with
  | none => exact .inl rfl
  | some r => right; intro e; have := own_ge h.own r hv; injection e; omega)⟩
theorem MixI.push {W0 W W' : World} {b g L C i : Nat} {vs : List Val} {qss : List (List Rat)} {done qs : List Rat} {v v' : Value} (h : MixI W0 b g L C vs qss i v done W) (ho : W'.ownsRow W0.heap.size 24 2 v' (done.length + qs.length) (fracCells done ++ fracCells qs)) (hg : W.grownBy W' v.ownBlock) (hb0 : b < W0.heap.size) (hg0 : g < W0.heap.size) (hE0 : Past W0.heap.size) : MixI W0 b g L C vs qss i v' (done ++ qs) W' := by
 have hother : ∀ k, k < W0.heap.size → W'.heap[k]? = W.heap[k]? := fun k hk => hg.block k (Nat.lt_of_lt_of_le hk h.grown.size) (fun e => by have := own_ge h.own k e.symm; omega)
 exact ⟨(hother b hb0).trans h.args, vals_other h.vals (hother g hg0), fun j hj hj' => (h.parts j hj hj').other (fun k hk _ => hother k hk), h.env.low hother hE0 hg.size, only_then h.grown hg (fun r hr => .inr (own_ge h.own r hr)), by unfold OwnF; rw [fracCells_append, List.length_append]; exact ho⟩
theorem flat_take (qss : List (List Rat)) (i : Nat) (h : i < qss.length) : (qss.take (i + 1)).flatten = (qss.take i).flatten ++ qss[i] := by
 rw [List.take_succ_eq_append_getElem h, List.flatten_append]; simp
theorem flat_le : ∀ (qss : List (List Rat)), (∀ qs ∈ qss, qs.length ≤ 1000) → qss.flatten.length ≤ qss.length * 1000
 | [], _ => by simp
 | q :: r, h => by
  have h1 := flat_le r (fun x hx => h x (by simp [hx]))
  have h2 := h q (by simp)
  rw [List.flatten_cons, List.length_append, List.length_cons]; omega

set_option maxHeartbeats 8000000 in
set_option maxRecDepth 100000 in
theorem numbers_mix (vs : List Val) (qss : List (List Rat)) (b g C : Nat) (w : World) (h9 : vs.length ≤ 300) (hl : qss.length = vs.length) (hq9 : ∀ qs ∈ qss, qs.length ≤ 1000) (hq : ∀ qs ∈ qss, ∀ q ∈ qs, fits q = true) (ha : ArgsAt w b (some ⟨g, 0, none⟩) vs.length C 0) (hv : ValsAt w g 0 vs) (hp : ∀ j (h : j < vs.length) (h' : j < qss.length), NArg w b w.heap.size vs[j] qss[j]) (hgb : g ≠ b) (hg0 : g < w.heap.size) (hE : Env w) (hP : Past b) :
  Calls Tryz.prog 176 #[.pointer (some ⟨b, 0, none⟩)] w fun e w' => ∃ v, e = .returned v ∧ OwnF w.heap.size v qss.flatten w' ∧ Env w' ∧ w.grownBy w' (some b) := by
 have hb0 : b < w.heap.size := heap_lt ha
 have HI0 := Lib.hid (show MixI w b g vs.length C vs qss 0 (.slice none 0 0) [] w from ⟨ha, hv, hp, hE, only_refl _ _, World.ownsRow_nil _ _ _ _⟩)
 have HE0 := Lib.hid (show Past w.heap.size from hE.room)
 have HP := Lib.hid hP
 have HGB := Lib.hid hgb
 have HQ := Lib.hid hq
 have HQ9 := Lib.hid hq9
 have HQL := Lib.hid hl
 obtain ⟨L, hL⟩ : ∃ L, vs.length = L := ⟨_, rfl⟩
 have HLL := Lib.hid hL
 rw [hL] at HI0 h9
 obtain ⟨i0, hi0', hz0, hz1, hz2⟩ := info_frac
 have TM := Lib.hid (fun W i ga => more_any b (some ⟨g, 0, none⟩) L C i W ga (by omega))
 clear ha hv hp hgb hE hP hq hq9 hl hL
 go_enter Tryz.func176, Tryz.ntmps176
 go_wp2_with fail
 go_loopg [3] L (fun gh v3 wx => ∃ i : Nat, i ≤ L ∧ gh = L - i ∧ MixI w b g L C vs qss i v3 (qss.take i).flatten wx)
 case atStart => exact ⟨0, Nat.zero_le _, rfl, HI0.out⟩
 case round =>
  clear HI0
  obtain ⟨i, hi, rfl, hni⟩ := hrel
  have HNI := Lib.hid hni
  clear hni
  go_wp2_with fail
  refine (TM.out _ i HNI.out.args).mono ?_
  rintro e w1 ⟨rfl, hb⟩
  replace HNI := Lib.hid (HNI.out.below hb)
  clear hb
  by_cases hlt : i < L
  ·have hd : decide (i < L) = true := decide_eq_true hlt
   rw [hd]
   have hiq : i < vs.length := by rw [HLL.out]; exact hlt
   have hiq' : i < qss.length := by rw [HQL.out]; exact hiq
   have hpart := HNI.out.parts i hiq hiq'
   have hcell := HNI.out.vals.at i hiq
   have hdl : (qss.take i).flatten.length ≤ 300000 := by
    refine Nat.le_trans (flat_le _ (fun x hx => HQ9.out x (List.mem_of_mem_take hx))) ?_
    rw [List.length_take]; omega
   have htk := flat_take qss i hiq'
   have hfit := HQ.out qss[i] (List.getElem_mem hiq')
   obtain ⟨vi, hvi⟩ : ∃ v, vs[i] = v := ⟨_, rfl⟩
   obtain ⟨qi, hqi⟩ : ∃ q, qss[i] = q := ⟨_, rfl⟩
   rw [hvi, hqi] at hpart
   rw [hvi] at hcell
   rw [hqi] at htk hfit
   have HTK := Lib.hid htk
   have HFIT := Lib.hid hfit
   obtain ⟨D, hD⟩ : ∃ D, (qss.take i).flatten = D := ⟨_, rfl⟩
   rw [hD] at HTK HNI hdl
   obtain ⟨DL, hDL⟩ : ∃ n, D.length = n := ⟨_, rfl⟩
   rw [hDL] at hdl
   have HDL := Lib.hid hDL
   clear hvi hqi htk hiq hiq' hd hfit hD hDL
   rcases hpart with ⟨q, rfl, rfl⟩ | ⟨r, s, gi, Ci, rfl, hp1, hp2, hp3, hp4, hp5⟩
   ·have HNC := Lib.hid (show NumCells w1 g (0 + i * 9) q from hcell)
    have TV := Lib.hid (fun W ga gc => value_any b g 0 L C i 1 (numS q) (denS q) { data := #[] } false 0 0 0 none 0 0 W ga hlt (by omega) HGB.out gc)
    have TN := Lib.hid (fun W ge => toNumber_num q W (HFIT.out q (by simp)) ge)
    rw [fracV_is q] at TN
    clear hcell
    go_wp2_with fail
    refine (TV.out _ HNI.out.args HNC.out).mono ?_
    rintro e w2 ⟨rfl, ha, hg⟩
    replace HNI := Lib.hid (HNI.out.next ha hg HP.out HGB.out hb0 hg0)
    clear ha hg
    replace HNI := Lib.hid (HNI.out.below ((Below.refl w2.heap.size w2).alloc (Nat.le_refl _) (.cells #[.int .i64 1, .string (numS q), .string (denS q), .string { data := #[] }, .bool false, .int .i64 0, .int .i64 0, .int .i64 0, .slice none 0 0] 27)))
    go_wp2_with fail
    refine (TN.out _ HNI.out.env).mono ?_
    rintro e w3 ⟨rfl, hb⟩
    replace HNI := Lib.hid (HNI.out.below hb)
    clear hb
    replace HNI := Lib.hid (HNI.out.below ((Below.refl w3.heap.size w3).alloc (Nat.le_refl _) (.cells #[.string (numS q), .string (denS q)] 24)))
    go_wp2_with fail
    refine (stop_zero _).mono ?_
    rintro e w4 ⟨rfl, rfl⟩
    replace HNI := Lib.hid (HNI.out.below ((Below.refl (w3.alloc (.cells #[.string (numS q), .string (denS q)] 24)).heap.size (w3.alloc (.cells #[.string (numS q), .string (denS q)] 24))).alloc (Nat.le_refl _) (.cells #[.string (numS q), .string (denS q)] 24)))
    have hown := HNI.out.own
    unfold OwnF at hown
    rw [HDL.out] at hown
    obtain ⟨av, cv, hu⟩ := owns_form hown
    subst hu
    have HOW := Lib.hid hown
    clear hown
    have hml : DL + 1 ≤ maxLen := by unfold maxLen; omega
    have hpos : (w3.alloc (.cells #[.string (numS q), .string (denS q)] 24)).heap.size = w3.heap.size + 1 := by simp
    have hnews := World.news_of_block (cs := #[.string (numS q), .string (denS q)]) (t := 24) (fr := (0, 0)) (heap_alloc_new (w3.alloc (.cells #[.string (numS q), .string (denS q)] 24)) (.cells #[.string (numS q), .string (denS q)] 24))
    rw [hpos] at hnews
    have HNW := Lib.hid hnews
    have HBS := Lib.hid (show w.heap.size ≤ ((w3.alloc (.cells #[.string (numS q), .string (denS q)] 24)).alloc (.cells #[.string (numS q), .string (denS q)] 24)).heap.size from HNI.out.grown.size)
    clear hnews hpos
    go_wp2_with (at_builtin; refine wpList_append_own _ rfl _ _ 145 rfl w.heap.size 24 i0 _ 2 32 Tryz.underlying145 hi0' hz0 hz1 hz2 rfl (by decide) (.slice av DL cv) DL (fracCells D) rfl HOW.out ⟨w3.heap.size + 1, 0, none⟩ 1 1 [.string (numS q), .string (denS q)] rfl rfl HNW.out (by simp [Value.oneCell']) hml (by omega) HBS.out ?_)
    intro v5 w5 hown5 hgrow5 _
    have HNI5 := Lib.hid (HNI.out.push (qs := [q]) (by rw [HDL.out]; exact hown5) hgrow5 hb0 hg0 HE0.out)
    rw [← HTK.out] at HNI5
    clear hown5 hgrow5
    go_wp2
    go_roundg (L - (i + 1))
    case measure => omega
    case rel => exact ⟨i + 1, by omega, rfl, HNI5.out⟩
   ·have HNC := Lib.hid hcell
    have TV := Lib.hid (fun W ga gc => value_any b g 0 L C i 5 { data := #[] } { data := #[] } { data := #[] } false 0 r s (some ⟨gi, 0, none⟩) qi.length Ci W ga hlt (by omega) HGB.out gc)
    have TI := Lib.hid (fun W gv ge => inside_arr qi r s gi Ci W hp2 hp1 gv ge)
    have HPV := Lib.hid hp5
    have HQI := Lib.hid hp1
    obtain ⟨M, hM⟩ : ∃ M, qi.length = M := ⟨_, rfl⟩
    have HM := Lib.hid hM
    have hM9 : M ≤ 1000 := by omega
    unfold arrVal' at HNC
    simp only [] at HNC
    rw [hM] at TV TI HNC
    have hpi := HP.out
    clear hcell hp1 hp2 hp5 hpi hM
    go_wp2_with fail
    refine (TV.out _ HNI.out.args HNC.out).mono ?_
    rintro e w2 ⟨rfl, ha, hg⟩
    replace HPV := Lib.hid (vals_kept HPV.out hg hp4 (Nat.lt_of_lt_of_le hp3 HNI.out.grown.size))
    replace HNI := Lib.hid (HNI.out.next ha hg HP.out HGB.out hb0 hg0)
    clear ha hg
    have hq := (Below.refl w2.heap.size w2).alloc (Nat.le_refl _) (.cells #[.int .i64 5, .string { data := #[] }, .string { data := #[] }, .string { data := #[] }, .bool false, .int .i64 0, .int .i64 r, .int .i64 s, .slice (some ⟨gi, 0, none⟩) M Ci] 27)
    replace HPV := Lib.hid (HPV.out.below hq)
    replace HNI := Lib.hid (HNI.out.below hq)
    clear hq
    go_wp2_with fail
    refine (TI.out _ HPV.out HNI.out.env).mono ?_
    rintro e w3 ⟨vI, rfl, hownI, henvI, hb⟩
    have hsz := HNI.out.grown.size
    replace HNI := Lib.hid (HNI.out.below hb)
    clear hb
    obtain ⟨gI, cI, rfl, hgI, hcI⟩ := hownI.cells HQI.out
    rw [HM.out]
    have hown := HNI.out.own
    unfold OwnF at hown
    rw [HDL.out] at hown
    obtain ⟨av, cv, hu⟩ := owns_form hown
    subst hu
    have HOW := Lib.hid hown
    clear hown
    have hml : DL + M ≤ maxLen := by unfold maxLen; omega
    have hnl : (fracCells qi).length = M * 2 := by rw [frac_len, HM.out]
    have HNW := Lib.hid hcI
    have HBS := Lib.hid (show w.heap.size ≤ w3.heap.size from HNI.out.grown.size)
    clear hownI henvI hgI hsz hcI
    go_wp2_with (at_builtin; refine wpList_append_own _ rfl _ _ 145 rfl w.heap.size 24 i0 _ 2 32 Tryz.underlying145 hi0' hz0 hz1 hz2 rfl (by decide) (.slice av DL cv) DL (fracCells D) rfl HOW.out ⟨gI, 0, none⟩ M cI (fracCells qi) rfl hnl HNW.out (frac_one qi) hml (by omega) HBS.out ?_)
    intro v5 w5 hown5 hgrow5 _
    have HNI5 := Lib.hid (HNI.out.push (qs := qi) (by rw [HDL.out, HM.out]; exact hown5) hgrow5 hb0 hg0 HE0.out)
    rw [← HTK.out] at HNI5
    clear hown5 hgrow5 hnl
    go_wp2
    go_roundg (L - (i + 1))
    case measure => omega
    case rel => exact ⟨i + 1, by omega, rfl, HNI5.out⟩
  ·have hd : decide (i < L) = false := decide_eq_false hlt
   rw [hd]
   have hiL : i = L := by omega
   have HTK := Lib.hid (show qss.take i = qss by rw [hiL, ← HLL.out, ← HQL.out, List.take_length])
   rw [HTK.out] at HNI
   clear hiL hlt
   go_wp2
   go_ret
   exact ⟨_, rfl, HNI.out.own, HNI.out.env, HNI.out.grown⟩
end Go.Proofs.YtkghpiaoggljjaaGreatDoor.Num
