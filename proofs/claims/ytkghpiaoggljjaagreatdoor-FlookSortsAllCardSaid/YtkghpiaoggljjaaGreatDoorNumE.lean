/- Numbers as texts of digits, fractions, values and the functions of fmath: contracts of the program's functions, joined from smaller texts. Conditions stand at each theorem. -/
import Derived.Test.YtkghpiaoggljjaaGreatDoorNumD
import Derived.Maps.Own
import Derived.Maps.OwnOps
import Derived.Defers
import Derived.Recover

/- package value: ToNumber, Stop, Must. Conditions: the tables lie as they are laid. -/
namespace Go.Proofs.YtkghpiaoggljjaaGreatDoor.Num
open Go.RowKit Go.Lib

set_option maxHeartbeats 4000000 in
set_option maxRecDepth 100000 in
theorem toNumber_num (q : Rat) (w : World) (hq : fits q = true) (hE : Env w) : Calls Tryz.prog 160 #[.agg #[.int .i64 1, .string (numS q), .string (denS q), .string { data := #[] }, .bool false, .int .i64 0, .int .i64 0, .int .i64 0, .slice none 0 0]] w fun e w' => e = .returned (.tuple #[fracV q, .int .i64 0]) ∧ Below w.heap.size w w' := by
 have TC := Lib.hid (fun W h => scalar_of 1 (numS q) (denS q) { data := #[] } false 0 0 0 none 0 0 W rfl (fun W h => check_num q W hq h) h)
 obtain ⟨hx, hr, hb⟩ := two_new w (.cells #[.int .i64 1, .string (numS q), .string (denS q), .string { data := #[] }, .bool false, .int .i64 0, .int .i64 0, .int .i64 0, .slice none 0 0] 27) (.cells #[.string { data := #[] }, .string { data := #[] }] 24)
 have HX := Lib.hid hx
 have HR := Lib.hid hr
 have HL := Lib.hid hb
 have HE := Lib.hid (hE.below hb)
 clear hx hr hb hE
 go_enter Tryz.func160, Tryz.ntmps160
 go_wp2_with fail
 refine (TC.out _ HE.out).mono ?_
 rintro e W1 ⟨rfl, hb⟩
 replace HX := Lib.hid (keep_block HX.out hb)
 replace HR := Lib.hid (keep_block HR.out hb)
 replace HL := Lib.hid (HL.out.trans (hb.mono HL.out.size))
 clear hb
 obtain ⟨⟨x0, x1, x2, x3, x4, x5, x6, x7, x8⟩, f0, f1, f2, f3, f4, f5, f6, f7, f8⟩ := nine_at HX.out
 obtain ⟨⟨r0, r1⟩, g0, g1⟩ := two_at HR.out
 have hR2 := (set9_other W1 w.heap.size (.int .i64 1) (.string (numS q)) (.string (denS q)) (.string { data := #[] }) (.bool false) (.int .i64 0) (.int .i64 0) (.int .i64 0) (.slice none 0 0) (k := w.heap.size + 1) (by omega)).trans HR.out
 have HL2 := (nine_end (x0 := (.int .i64 1)) (x1 := (.string (numS q))) (x2 := (.string (denS q))) (x3 := (.string { data := #[] })) (x4 := (.bool false)) (x5 := (.int .i64 0)) (x6 := (.int .i64 0)) (x7 := (.int .i64 0)) (x8 := (.slice none 0 0)) HX.out HL.out (Nat.le_refl _)).1
 obtain ⟨nb, e0, e1⟩ := frac_end (x := .string (numS q)) (y := .string (denS q)) hR2 HL2 (by omega)
 clear hR2 HL2
 go_wp2
 refine bodyPost_ret (v := .tuple #[.agg #[.string (numS q), .string (denS q)], .int .i64 0]) (by simp [results, Tryz.results160, go_sem, e0, e1]) rfl ⟨rfl, nb⟩

theorem stop_zero (w : World) : Calls Tryz.prog 139 #[.int .i64 0] w fun e w' => e = .returned (.tuple #[]) ∧ w' = w := by
 go_enter Tryz.func139, Tryz.ntmps139
 go_wp2
 go_end0
 exact ⟨rfl, rfl⟩
set_option maxHeartbeats 4000000 in
set_option maxRecDepth 100000 in
theorem must_ok (q : Rat) (w : World) : Calls Tryz.prog 161 #[fracV q, .int .i64 0] w fun e w' => e = .returned (fracV q) ∧ Below w.heap.size w w' := by
 rw [fracV_is q]
 obtain ⟨hx, hr, hb⟩ := two_new w (.cells #[.string (numS q), .string (denS q)] 24) (.cells #[.string { data := #[] }, .string { data := #[] }] 24)
 have HX := Lib.hid hx
 have HR := Lib.hid hr
 have HL := Lib.hid hb
 clear hx hr hb
 go_enter Tryz.func161, Tryz.ntmps161
 obtain ⟨⟨r0, r1⟩, rf0, rf1⟩ := two_at HR.out
 obtain ⟨nb, e0, e1⟩ := frac_end (x := .string (numS q)) (y := .string (denS q)) HR.out HL.out (by omega)
 go_wp2
 first
  | exact bodyPost_ret (v := .agg #[.string (numS q), .string (denS q)]) (by simp [results, Tryz.results161, go_sem, e0, e1]) rfl ⟨rfl, nb⟩
  | exact bodyPost_ret (v := .agg #[.string (numS q), .string (denS q)]) (by simp [results, Tryz.results161, go_sem]) rfl ⟨rfl, (((Below.refl _ _).alloc (Nat.le_refl _) _).alloc (by simp) _)⟩

end Go.Proofs.YtkghpiaoggljjaaGreatDoor.Num

/- package value: the arguments, one after the other. Conditions: the tables lie as they are laid. -/
namespace Go.Proofs.YtkghpiaoggljjaaGreatDoor.Num
open Go.RowKit Go.Lib

/-- the block of an Args -/
def ArgsAt (w : World) (b : Nat) (A : Option Addr) (L C n : Nat) : Prop := w.heap[b]? = some (.cells #[.slice A L C, .int .i64 (n : Int)] 101 (0, 0))
/-- the cells of one value of a slice of values -/
def CellsAt (w : World) (ab ao : Nat) (k n d t on c r s it : Value) : Prop :=
 w.cell? ⟨ab, ao, none⟩ = some k ∧ w.cell? ⟨ab, ao + 1, none⟩ = some n ∧ w.cell? ⟨ab, ao + 2, none⟩ = some d ∧ w.cell? ⟨ab, ao + 3, none⟩ = some t ∧ w.cell? ⟨ab, ao + 4, none⟩ = some on ∧ w.cell? ⟨ab, ao + 5, none⟩ = some c ∧ w.cell? ⟨ab, ao + 6, none⟩ = some r ∧ w.cell? ⟨ab, ao + 7, none⟩ = some s ∧ w.cell? ⟨ab, ao + 8, none⟩ = some it
theorem CellsAt.below {w w' : World} {ab ao : Nat} {k n d t on c r s it : Value} (h : CellsAt w ab ao k n d t on c r s it) (hb : Below w.heap.size w w') : CellsAt w' ab ao k n d t on c r s it := by
 obtain ⟨h0, h1, h2, h3, h4, h5, h6, h7, h8⟩ := h
 exact ⟨cell_below h0 hb, cell_below h1 hb, cell_below h2 hb, cell_below h3 hb, cell_below h4 hb, cell_below h5 hb, cell_below h6 hb, cell_below h7 hb, cell_below h8 hb⟩
theorem Tab.kept {w w' : World} {b : Nat} (h : Tab w) (hg : w.grownBy w' (some b)) (hb : 3 ≠ b) : Tab w' := by
 unfold Tab Lib.TabIs World.var? at h ⊢
 have hgl : Tryz.prog.globalNamed "internal/strconv.uint64pow10" = some 3 := by kernel_rfl
 rw [hgl] at h ⊢
 simp only [Option.bind_some] at h ⊢
 have hlt : 3 < w.heap.size := by
  rcases Nat.lt_or_ge 3 w.heap.size with h' | h'
  ·exact h'
  ·rw [Array.getElem?_eq_none h'] at h; cases h
 rw [hg.block _ hlt (fun e => hb (Option.some.inj e))]
 exact h
theorem kept_cell {w w' : World} {b : Nat} {p : Addr} {v : Value} (h : w.cell? p = some v) (hg : w.grownBy w' (some b)) (hne : p.block ≠ b) : w'.cell? p = some v := by
 have hlt := cell_lt h
 have := hg.block p.block hlt (fun e => hne (Option.some.inj e))
 simp only [World.cell?] at h ⊢
 rw [this]; exact h
theorem kept_block {w w' : World} {b k : Nat} {o : Obj} (h : w.heap[k]? = some o) (hg : w.grownBy w' (some b)) (hne : k ≠ b) : w'.heap[k]? = some o := (hg.block k (heap_lt h) (fun e => hne (Option.some.inj e))).trans h
theorem Env.kept {w w' : World} {b : Nat} (h : Env w) (hg : w.grownBy w' (some b)) (hb : Past b) : Env w' :=
 ⟨h.tab.kept hg (Nat.ne_of_lt hb.2), fun i hi => by
  have h1 := h.faults i hi
  have hl : i < faultTexts.size := hi
  rw [Array.getElem?_eq_getElem hl] at h1 ⊢
  exact kept_cell h1 hg (Nat.ne_of_lt hb.1), Nat.lt_of_lt_of_le h.room.1 hg.size, Nat.lt_of_lt_of_le h.room.2 hg.size⟩
theorem kept_below {w w' : World} {b : Nat} (hb : Below w.heap.size w w') : w.grownBy w' (some b) := only_of_below hb _
theorem kept_trans {a b c : World} {r : Nat} (h : a.grownBy b (some r)) (k : b.grownBy c (some r)) : a.grownBy c (some r) := only_trans h k
theorem CellsAt.kept {w w' : World} {ab ao b : Nat} {k n d t on c r s it : Value} (h : CellsAt w ab ao k n d t on c r s it) (hg : w.grownBy w' (some b)) (hne : ab ≠ b) : CellsAt w' ab ao k n d t on c r s it := by
 obtain ⟨h0, h1, h2, h3, h4, h5, h6, h7, h8⟩ := h
 exact ⟨kept_cell h0 hg hne, kept_cell h1 hg hne, kept_cell h2 hg hne, kept_cell h3 hg hne, kept_cell h4 hg hne, kept_cell h5 hg hne, kept_cell h6 hg hne, kept_cell h7 hg hne, kept_cell h8 hg hne⟩
theorem but_cell {W W' : World} {R : Nat} {p : Addr} {v : Value} (h : W.cell? p = some v) (ho : ∀ k, k ≠ R → W'.heap[k]? = W.heap[k]?) (hne : p.block ≠ R) : W'.cell? p = some v := by
 have := ho p.block hne
 simp only [World.cell?] at h ⊢
 rw [this]; exact h
theorem CellsAt.but {W W' : World} {ab ao R : Nat} {k n d t on c r s it : Value} (h : CellsAt W ab ao k n d t on c r s it) (ho : ∀ k, k ≠ R → W'.heap[k]? = W.heap[k]?) (hne : ab ≠ R) : CellsAt W' ab ao k n d t on c r s it := by
 obtain ⟨h0, h1, h2, h3, h4, h5, h6, h7, h8⟩ := h
 exact ⟨but_cell h0 ho hne, but_cell h1 ho hne, but_cell h2 ho hne, but_cell h3 ho hne, but_cell h4 ho hne, but_cell h5 ho hne, but_cell h6 ho hne, but_cell h7 ho hne, but_cell h8 ho hne⟩
theorem kept_set9 {w W : World} {b R : Nat} (h : w.grownBy W (some b)) (hge : w.heap.size ≤ R) (x0 x1 x2 x3 x4 x5 x6 x7 x8 : Value) : w.grownBy (((((((((W.setCell ⟨R, 0, none⟩ x0).setCell ⟨R, 1, none⟩ x1).setCell ⟨R, 2, none⟩ x2).setCell ⟨R, 3, none⟩ x3).setCell ⟨R, 4, none⟩ x4).setCell ⟨R, 5, none⟩ x5).setCell ⟨R, 6, none⟩ x6).setCell ⟨R, 7, none⟩ x7).setCell ⟨R, 8, none⟩ x8) (some b) := (only_setCell (p := ⟨R, 8, none⟩) (only_setCell (p := ⟨R, 7, none⟩) (only_setCell (p := ⟨R, 6, none⟩) (only_setCell (p := ⟨R, 5, none⟩) (only_setCell (p := ⟨R, 4, none⟩) (only_setCell (p := ⟨R, 3, none⟩) (only_setCell (p := ⟨R, 2, none⟩) (only_setCell (p := ⟨R, 1, none⟩) (only_setCell (p := ⟨R, 0, none⟩) h (.inr hge) x0) (.inr hge) x1) (.inr hge) x2) (.inr hge) x3) (.inr hge) x4) (.inr hge) x5) (.inr hge) x6) (.inr hge) x7) (.inr hge) x8)
theorem kept_drew {w W : World} {b : Nat} (h : w.grownBy W (some b)) : w.grownBy W.drew (some b) := ⟨h.os, h.tape, h.output, h.size, h.block⟩
theorem CellsAt.drew {W : World} {ab ao : Nat} {k n d t on c r s it : Value} (h : CellsAt W ab ao k n d t on c r s it) : CellsAt W.drew ab ao k n d t on c r s it := h
theorem elev {W : World} {b ab ao : Nat} {T : TypeId} {y0 y1 k n d t on c r s it : Value} (hB : W.heap[b]? = some (.cells #[y0, y1] T (0, 0))) (hC : CellsAt W ab ao k n d t on c r s it) :
  W.cell? ⟨b, 0, none⟩ = some y0 ∧ W.cell? ⟨b, 1, none⟩ = some y1 ∧ W.cell? ⟨ab, ao, none⟩ = some k ∧ W.cell? ⟨ab, ao + 1, none⟩ = some n ∧ W.cell? ⟨ab, ao + 2, none⟩ = some d ∧ W.cell? ⟨ab, ao + 3, none⟩ = some t ∧ W.cell? ⟨ab, ao + 4, none⟩ = some on ∧ W.cell? ⟨ab, ao + 5, none⟩ = some c ∧ W.cell? ⟨ab, ao + 6, none⟩ = some r ∧ W.cell? ⟨ab, ao + 7, none⟩ = some s ∧ W.cell? ⟨ab, ao + 8, none⟩ = some it :=
 ⟨Lib.cell_of_heap hB 0, Lib.cell_of_heap hB 1, hC⟩

set_option maxHeartbeats 4000000 in
set_option maxRecDepth 100000 in
theorem more_any (b : Nat) (A : Option Addr) (L C n : Nat) (w : World) (h : ArgsAt w b A L C n) (_ : L ≤ 1000000000) :
  Calls Tryz.prog 125 #[.pointer (some ⟨b, 0, none⟩)] w fun e w' => e = .returned (.bool (decide (n < L))) ∧ Below w.heap.size w w' := by
 have HB := Lib.hid h
 clear h
 obtain ⟨⟨x0, x1⟩, xf0, xf1⟩ := two_at HB.out
 go_enter Tryz.func125, Tryz.ntmps125
 go_wp2
 go_quiet (fail)
 go_wp2
 go_ret
 exact ⟨by first | rfl | simp, below_drewN (Below.refl _ _) _⟩

set_option maxHeartbeats 4000000 in
set_option maxRecDepth 100000 in
theorem value_any (b ab ao L C n : Nat) (k : Int) (nn d t : ByteArray) (on : Bool) (c r s : Int) (IA : Option Addr) (IL IC : Nat) (w : World) (h : ArgsAt w b (some ⟨ab, ao, none⟩) L C n) (hn : n < L) (hL : L ≤ 1000000000) (hne : ab ≠ b) (hc : CellsAt w ab (ao + n * 9) (.int .i64 k) (.string nn) (.string d) (.string t) (.bool on) (.int .i64 c) (.int .i64 r) (.int .i64 s) (.slice IA IL IC)) :
  Calls Tryz.prog 46 #[.pointer (some ⟨b, 0, none⟩)] w fun e w' => e = .returned (.agg #[.int .i64 k, .string nn, .string d, .string t, .bool on, .int .i64 c, .int .i64 r, .int .i64 s, .slice IA IL IC]) ∧ ArgsAt w' b (some ⟨ab, ao, none⟩) L C (n + 1) ∧ w.grownBy w' (some b) := by
 have hb : Below w.heap.size w (w.alloc (.cells #[.int .i64 0, .string { data := #[] }, .string { data := #[] }, .string { data := #[] }, .bool false, .int .i64 0, .int .i64 0, .int .i64 0, .slice none 0 0] 27)) := (Below.refl _ _).alloc (Nat.le_refl _) _
 have TM := Lib.hid (fun W g => more_any b (some ⟨ab, ao, none⟩) L C n W g hL)
 have HB := Lib.hid (keep_block h hb)
 have hdn : decide (n < L) = true := decide_eq_true hn
 go_enter Tryz.func46, Tryz.ntmps46
 go_wp2_with fail
 refine (TM.out _ HB.out).mono ?_
 rintro e W1 ⟨rfl, hb1⟩
 rw [hdn]
 have HR := Lib.hid (keep_block (heap_alloc_new w (.cells #[.int .i64 0, .string { data := #[] }, .string { data := #[] }, .string { data := #[] }, .bool false, .int .i64 0, .int .i64 0, .int .i64 0, .slice none 0 0] 27)) hb1)
 replace HB := Lib.hid (keep_block HB.out hb1)
 have HC := Lib.hid (hc.below (hb.trans (hb1.mono (by simp))))
 have HL := Lib.hid (hb.trans (hb1.mono (by simp)))
 have HBW := Lib.hid (heap_lt h)
 have HAB := Lib.hid (cell_lt hc.1)
 clear hb hb1 hc h
 obtain ⟨⟨x0, x1⟩, xf0, xf1⟩ := two_at HB.out
 have hnot : ∀ (x : Bool) (w : World), (Op.unary .not (.bool x)).run Tryz.prog w = .ok (.bool (!x)) w := fun _ _ => rfl
 go_wp2
 obtain ⟨W2, hW2⟩ : ∃ W2, W1.setCell ⟨b, 1, none⟩ (.int .i64 ((n : Int) + 1)) = W2 := ⟨_, rfl⟩
 have HB2 : Hid (W2.heap[b]? = some (.cells #[.slice (some ⟨ab, ao, none⟩) L C, .int .i64 ((n : Int) + 1)] 101 (0, 0))) := Lib.hid (by rw [← hW2]; exact heap_setCell_at HB.out 1 _)
 have HR2 := Lib.hid ((Below.heap_setCell W1 ⟨b, 1, none⟩ (.int .i64 ((n : Int) + 1)) w.heap.size (by have := HBW.out; simp only []; omega)).trans HR.out)
 have HC2 := Lib.hid (HC.out.kept (only_setCell (p := ⟨b, 1, none⟩) (only_refl W1 (some b)) (.inl rfl) (.int .i64 ((n : Int) + 1))) hne)
 have HG2 := Lib.hid (show w.grownBy W2 (some b) from by rw [← hW2]; exact only_setCell (only_of_below HL.out _) (.inl rfl) _)
 rw [hW2] at HR2 HC2 ⊢
 clear x0 x1 xf0 xf1 hW2
 obtain ⟨⟨x0, x1⟩, xf0, xf1⟩ := two_at HB2.out
 obtain ⟨c0, c1, c2, c3, c4, c5, c6, c7, c8⟩ := HC2.out
 obtain ⟨⟨r0, r1, r2, r3, r4, r5, r6, r7, r8⟩, g0, g1, g2, g3, g4, g5, g6, g7, g8⟩ := nine_at HR2.out
 have hsub : IntKind.i64.wrap ((n : Int) + 1 - 1) = (n : Int) := by rw [show (n : Int) + 1 - 1 = n by omega]; exact IntWalk.i64_in _ (by omega)
 have hsub2 : IntKind.i64.wrap (n : Int) = (n : Int) := IntWalk.i64_in _ (by omega)
 have hi0 : (0 : Int) ≤ (n : Int) := by omega
 have hi1 : (n : Int) < (L : Int) := by omega
 go_wp2
 have NE := Lib.hid (show ab ≠ w.heap.size ∧ b ≠ w.heap.size from ⟨by have := HAB.out; omega, by have := HBW.out; omega⟩)
 go_region_held3 (fun W => W.cell? ⟨b, 0, none⟩ = some (.slice (some ⟨ab, ao, none⟩) L C) ∧ W.cell? ⟨b, 1, none⟩ = some (.int .i64 ((n : Int) + 1)) ∧ W.cell? ⟨ab, ao + n * 9, none⟩ = some (.int .i64 k) ∧ W.cell? ⟨ab, ao + n * 9 + 1, none⟩ = some (.string nn) ∧ W.cell? ⟨ab, ao + n * 9 + 2, none⟩ = some (.string d) ∧ W.cell? ⟨ab, ao + n * 9 + 3, none⟩ = some (.string t) ∧ W.cell? ⟨ab, ao + n * 9 + 4, none⟩ = some (.bool on) ∧ W.cell? ⟨ab, ao + n * 9 + 5, none⟩ = some (.int .i64 c) ∧ W.cell? ⟨ab, ao + n * 9 + 6, none⟩ = some (.int .i64 r) ∧ W.cell? ⟨ab, ao + n * 9 + 7, none⟩ = some (.int .i64 s) ∧ W.cell? ⟨ab, ao + n * 9 + 8, none⟩ = some (.slice IA IL IC))
  (first | (with_reducible exact elev (drew_block HB2.out) HC2.out.drew) | (with_reducible exact elev (drew_block ((set9_other _ _ _ _ _ _ _ _ _ _ _ NE.out.2).trans HB2.out)) (HC2.out.but (fun k hk => set9_other _ _ _ _ _ _ _ _ _ _ _ hk) NE.out.1).drew) | fail)
  ((first | fail))
 have hF := drew_block (set9_at HR2.out (.int .i64 k) (.string nn) (.string d) (.string t) (.bool on) (.int .i64 c) (.int .i64 r) (.int .i64 s) (.slice IA IL IC))
 obtain ⟨⟨e0, e1, e2, e3, e4, e5, e6, e7, e8⟩, _⟩ := nine_at hF
 have HG3 := Lib.hid (kept_drew (kept_set9 HG2.out (Nat.le_refl _) (.int .i64 k) (.string nn) (.string d) (.string t) (.bool on) (.int .i64 c) (.int .i64 r) (.int .i64 s) (.slice IA IL IC)))
 have HB3 := Lib.hid (drew_block ((set9_other W2 w.heap.size (.int .i64 k) (.string nn) (.string d) (.string t) (.bool on) (.int .i64 c) (.int .i64 r) (.int .i64 s) (.slice IA IL IC) NE.out.2).trans HB2.out))
 clear hF
 go_wp2
 refine bodyPost_ret (v := .agg #[.int .i64 k, .string nn, .string d, .string t, .bool on, .int .i64 c, .int .i64 r, .int .i64 s, .slice IA IL IC]) (by simp [results, Tryz.results46, go_sem, e0, e1, e2, e3, e4, e5, e6, e7, e8]) rfl ⟨rfl, by unfold ArgsAt; rw [show ((n + 1 : Nat) : Int) = (n : Int) + 1 from rfl]; exact HB3.out, HG3.out⟩
end Go.Proofs.YtkghpiaoggljjaaGreatDoor.Num

/- package value: Num, Down, Whole. Conditions: the argument is a valid number; the tables lie as they are laid. -/
namespace Go.Proofs.YtkghpiaoggljjaaGreatDoor.Num
open Go.RowKit Go.Lib

/-- the cells of a number -/
def NumCells (w : World) (ab ao : Nat) (q : Rat) : Prop := CellsAt w ab ao (.int .i64 1) (.string (numS q)) (.string (denS q)) (.string { data := #[] }) (.bool false) (.int .i64 0) (.int .i64 0) (.int .i64 0) (.slice none 0 0)
/-- what a reading of an argument leaves -/
def ArgRet (w : World) (b : Nat) (A : Option Addr) (L C n : Nat) (w' : World) : Prop := ArgsAt w' b A L C n ∧ w.grownBy w' (some b)

set_option maxHeartbeats 4000000 in
set_option maxRecDepth 100000 in
theorem argNum_any (b ab ao L C n : Nat) (q : Rat) (w : World) (h : ArgsAt w b (some ⟨ab, ao, none⟩) L C n) (hn : n < L) (hL : L ≤ 1000000000) (hne : ab ≠ b) (hc : NumCells w ab (ao + n * 9) q) (hq : fits q = true) (hE : Env w) (hP : Past b) :
  Calls Tryz.prog 82 #[.pointer (some ⟨b, 0, none⟩)] w fun e w' => e = .returned (fracV q) ∧ ArgRet w b (some ⟨ab, ao, none⟩) L C (n + 1) w' := by
 have TV := Lib.hid (fun W g g' => value_any b ab ao L C n 1 (numS q) (denS q) { data := #[] } false 0 0 0 none 0 0 W g hn hL hne g')
 have TN := Lib.hid (fun W g => toNumber_num q W hq g)
 rw [fracV_is q] at TN ⊢
 have hb : Below w.heap.size w (w.alloc (.cells #[.string { data := #[] }, .string { data := #[] }] 24)) := (Below.refl _ _).alloc (Nat.le_refl _) _
 have HA := Lib.hid (keep_block h hb)
 have HC := Lib.hid (CellsAt.below hc hb)
 have HE := Lib.hid (hE.below hb)
 have HR := Lib.hid (heap_alloc_new w (.cells #[.string { data := #[] }, .string { data := #[] }] 24))
 have HG := Lib.hid (only_of_below hb (some b))
 have NE := Lib.hid (show w.heap.size ≠ b from Nat.ne_of_gt (heap_lt h))
 have HP := Lib.hid hP
 clear h hc hE hb hn hL hne hq hP
 go_enter Tryz.func82, Tryz.ntmps82
 go_wp2_with fail
 refine (TV.out _ HA.out HC.out).mono ?_
 rintro e W1 ⟨rfl, ha, hg⟩
 replace HA := Lib.hid ha
 replace HR := Lib.hid (kept_block HR.out hg NE.out)
 replace HE := Lib.hid (HE.out.kept hg HP.out)
 replace HG := Lib.hid (kept_trans HG.out hg)
 clear ha hg
 go_wp2_with fail
 refine (TN.out _ HE.out).mono ?_
 rintro e W2 ⟨rfl, hb⟩
 replace HA := Lib.hid (keep_block HA.out hb)
 replace HR := Lib.hid (keep_block HR.out hb)
 replace HG := Lib.hid (kept_trans HG.out (kept_below hb))
 clear hb
 go_wp2_with fail
 refine (stop_zero _).mono ?_
 rintro e w3 ⟨rfl, rfl⟩
 have HRS := Lib.hid (heap_lt HR.out)
 have hRS := HRS.out
 obtain ⟨⟨r0, r1⟩, rf0, rf1⟩ := two_at HR.out
 go_wp2
 obtain ⟨e0, e1⟩ := set2_alloc HR.out (.string (numS q)) (.string (denS q)) (.cells #[.string (numS q), .string (denS q)] 24)
 refine bodyPost_ret (v := .agg #[.string (numS q), .string (denS q)]) (by simp [results, Tryz.results82, go_sem, e0, e1]) rfl ⟨rfl, ?_, ?_⟩
 ·refine (Below.heap_alloc _ _ _ (by simp only [size_setCell]; exact heap_lt HA.out)).trans ?_
  exact (Below.heap_setCell _ _ _ _ (Ne.symm NE.out)).trans ((Below.heap_setCell _ _ _ _ (Ne.symm NE.out)).trans HA.out)
 ·exact only_alloc (only_setCell (p := ⟨w.heap.size, 1, none⟩) (only_setCell (p := ⟨w.heap.size, 0, none⟩) HG.out (.inr (Nat.le_refl _)) _) (.inr (Nat.le_refl _)) _) _

set_option maxHeartbeats 4000000 in
set_option maxRecDepth 100000 in
theorem down_any (q : Rat) (w : World) (hq : fits q = true) (h0 : -1000000000 ≤ q.floor) (h1 : q.floor ≤ 1000000000) (hE : Env w) :
  Calls Tryz.prog 231 #[fracV q] w fun e w' => e = .returned (.int .i64 q.floor) ∧ Below w.heap.size w w' := by
 obtain ⟨n, hn⟩ : ∃ n, q.floor = n := ⟨_, rfl⟩
 have TF := Lib.hid (fun W g => floor_any q W hq g)
 have TI := Lib.hid (fun W => int_ok n W (by omega))
 rw [hn] at h0 h1 TF ⊢
 rw [wroteV_ok (fits_int n (by omega))] at TF
 rw [fracV_is (n : Rat)] at TF TI
 rw [fracV_is q] at TF ⊢
 have hb : Below w.heap.size w (w.alloc (.cells #[.string (numS q), .string (denS q)] 24)) := (Below.refl _ _).alloc (Nat.le_refl _) _
 have HX := Lib.hid (heap_alloc_new w (.cells #[.string (numS q), .string (denS q)] 24))
 have HE := Lib.hid (hE.below hb)
 have HL := Lib.hid hb
 have d1 : decide (n < -1000000000) = false := decide_eq_false (by omega)
 have d2 : decide (1000000000 < n) = false := decide_eq_false (by omega)
 have hnot : ∀ (x : Bool) (w : World), (Op.unary .not (.bool x)).run Tryz.prog w = .ok (.bool (!x)) w := fun _ _ => rfl
 clear hb hE hn h0 h1 hq
 go_enter Tryz.func231, Tryz.ntmps231
 go_wp2_with fail
 refine (TF.out _ HE.out.tab).mono ?_
 rintro e W1 ⟨rfl, hb⟩
 replace HX := Lib.hid (keep_block HX.out hb)
 replace HE := Lib.hid (HE.out.below hb)
 replace HL := Lib.hid (HL.out.trans (hb.mono HL.out.size))
 clear hb
 have HX2 := Lib.hid (set2_at HX.out (.string (numS (n : Rat))) (.string (denS (n : Rat))))
 have HL2 := Lib.hid ((HL.out.setCell (p := ⟨w.heap.size, 0, none⟩) (Nat.le_refl _) (.string (numS (n : Rat)))).setCell (p := ⟨w.heap.size, 1, none⟩) (Nat.le_refl _) (.string (denS (n : Rat))))
 obtain ⟨⟨x0, x1⟩, xf0, xf1⟩ := two_at HX.out
 go_wp2_with fail
 refine (TI.out _).mono ?_
 rintro e W2 ⟨rfl, hb⟩
 replace HL2 := Lib.hid (HL2.out.trans (hb.mono HL2.out.size))
 clear hb
 clear x0 x1 xf0 xf1
 go_wp2
 go_ret
 exact ⟨rfl, HL2.out⟩

set_option maxHeartbeats 4000000 in
set_option maxRecDepth 100000 in
theorem argWhole_any (b ab ao L C n : Nat) (q : Rat) (w : World) (h : ArgsAt w b (some ⟨ab, ao, none⟩) L C n) (hn : n < L) (hL : L ≤ 1000000000) (hne : ab ≠ b) (hc : NumCells w ab (ao + n * 9) q) (hq : fits q = true) (h0 : -1000000000 ≤ q.floor) (h1 : q.floor ≤ 1000000000) (hE : Env w) (hP : Past b) :
  Calls Tryz.prog 126 #[.pointer (some ⟨b, 0, none⟩)] w fun e w' => e = .returned (.int .i64 q.floor) ∧ ArgRet w b (some ⟨ab, ao, none⟩) L C (n + 1) w' := by
 have TN := Lib.hid (argNum_any b ab ao L C n q w h hn hL hne hc hq hE hP)
 have TD := Lib.hid (fun W g => down_any q W hq h0 h1 g)
 have HE := Lib.hid hE
 have HP := Lib.hid hP
 clear h hn hL hne hc hq h0 h1 hE hP
 rw [fracV_is q] at TN TD
 obtain ⟨z, hz⟩ : ∃ z, q.floor = z := ⟨_, rfl⟩
 rw [hz] at TD ⊢
 clear hz
 go_enter Tryz.func126, Tryz.ntmps126
 go_wp2_with fail
 refine TN.out.mono ?_
 rintro e W1 ⟨rfl, ha, hg⟩
 have HA := Lib.hid ha
 have HG := Lib.hid hg
 replace HE := Lib.hid (HE.out.kept hg HP.out)
 clear ha hg
 go_wp2_with fail
 refine (TD.out _ HE.out).mono ?_
 rintro e W2 ⟨rfl, hb⟩
 replace HA := Lib.hid (keep_block HA.out hb)
 replace HG := Lib.hid (kept_trans HG.out (kept_below hb))
 clear hb
 go_wp2
 go_ret
 exact ⟨rfl, HA.out, HG.out⟩
end Go.Proofs.YtkghpiaoggljjaaGreatDoor.Num

/- a table of functions as a map that the call makes: its entries, a new entry, a look-up; fmath.entry, fmath.num. No conditions. -/
namespace Go.Proofs.YtkghpiaoggljjaaGreatDoor.Num
open Go.RowKit Go.Lib Go.MapKept

theorem run_store_func {P : Program} {w : World} {a : Addr} {m : Mode} (f : Fn) (c d : Array Value) : (store a (.func f c d) m).run P w = stored P w a (.func f c d) m := run_store P w a _ m rfl
attribute [local go_sem] run_store_func
/-- a row of a table of functions -/
structure Row where
 name : ByteArray
 least : Int
 most : Int
 kinds : ByteArray
 num : Bool
 fn : FuncId
/-- a function value that wraps the row's function -/
def RowFn (w : World) (v : Value) (r : Row) : Prop :=
 if r.num then ∃ e f, v = .func (.func 173) #[] #[.pointer (some ⟨e, 0, none⟩)] ∧ w.cell? ⟨e, 0, none⟩ = some (.func (.func 157) #[] #[.pointer (some ⟨f, 0, none⟩)]) ∧ w.cell? ⟨f, 0, none⟩ = some (.func (.func r.fn) #[] #[])
 else ∃ e, v = .func (.func 173) #[] #[.pointer (some ⟨e, 0, none⟩)] ∧ w.cell? ⟨e, 0, none⟩ = some (.func (.func r.fn) #[] #[])
/-- an entry of the table as it lies in the map -/
def EntryAt (w : World) (x : MapEntry) (r : Row) : Prop := x.key = .string r.name ∧ ∃ v, x.val = .agg #[.int .i64 r.least, .int .i64 r.most, .string r.kinds, v] ∧ RowFn w v r
/-- block b is a map with just these rows -/
def TableAt (w : World) (b : Nat) (l : List Row) : Prop :=
 ∃ es clock, w.heap[b]? = some (.map es clock) ∧ es.size = l.length ∧ ∀ i (h : i < l.length) (h' : i < es.size), EntryAt w es[i] l[i]

theorem RowFn.mono {w w' : World} {v : Value} {r : Row} (h : RowFn w v r) (hc : ∀ (p : Addr) (x : Value), w.cell? p = some x → w'.cell? p = some x) : RowFn w' v r := by
 unfold RowFn at h ⊢
 split
 ·rename_i hn
  rw [if_pos hn] at h
  obtain ⟨e, f, h1, h2, h3⟩ := h
  exact ⟨e, f, h1, hc _ _ h2, hc _ _ h3⟩
 ·rename_i hn
  rw [if_neg hn] at h
  obtain ⟨e, h1, h2⟩ := h
  exact ⟨e, h1, hc _ _ h2⟩
theorem EntryAt.mono {w w' : World} {x : MapEntry} {r : Row} (h : EntryAt w x r) (hc : ∀ (p : Addr) (x : Value), w.cell? p = some x → w'.cell? p = some x) : EntryAt w' x r :=
 let ⟨hk, v, hv, hr⟩ := h; ⟨hk, v, hv, hr.mono hc⟩
theorem TableAt.below {w w' : World} {b : Nat} {l : List Row} (h : TableAt w b l) (hb : Below w.heap.size w w') : TableAt w' b l := by
 obtain ⟨es, clock, hm, hs, he⟩ := h
 exact ⟨es, clock, keep_block hm hb, hs, fun i hi hi' => (he i hi hi').mono fun p x hp => cell_below hp hb⟩
theorem TableAt.made (w : World) : TableAt (w.alloc (.map #[] 0)) w.heap.size [] := ⟨#[], 0, heap_alloc_new w _, rfl, fun _ hi => absurd hi (Nat.not_lt_zero _)⟩
/-- no row has this name -/
def Fresh (s : ByteArray) (l : List Row) : Prop := ∀ r ∈ l, (s == r.name) = false
theorem findNow_fresh (s : ByteArray) : ∀ (es : List MapEntry) (i : Nat), (∀ x ∈ es, ∃ t, x.key = .string t ∧ (s == t) = false) → Instr.findNow .string (.string s) es i = some none
 | [], _, _ => rfl
 | x :: r, i, h => by
  obtain ⟨t, ht, hne⟩ := h x (List.mem_cons_self ..)
  unfold Instr.findNow
  rw [ht]
  simp only [Instr.sameNow, hne]
  exact findNow_fresh s r (i + 1) fun y hy => h y (List.mem_cons_of_mem _ hy)
theorem findNow_at (s : ByteArray) : ∀ (es : List MapEntry) (k i : Nat) (x : MapEntry), es[k]? = some x → x.key = .string s → (∀ j y, j < k → es[j]? = some y → ∃ t, y.key = .string t ∧ (s == t) = false) → Instr.findNow .string (.string s) es i = some (some (i + k, x.val))
 | [], k, _, _, h, _, _ => by simp at h
 | x :: r, 0, i, y, h, hk, _ => by
  simp at h
  subst h
  unfold Instr.findNow
  rw [hk]
  have hss : (s == s) = true := by rw [bytes_beq]
  simp only [Instr.sameNow, hss]
  rfl
 | x :: r, k + 1, i, y, h, hk, hn => by
  obtain ⟨t, ht, hne⟩ := hn 0 x (Nat.succ_pos _) rfl
  unfold Instr.findNow
  rw [ht]
  simp only [Instr.sameNow, hne]
  have := findNow_at s r k (i + 1) y (by simpa using h) hk (fun j z hj hz => hn (j + 1) z (by omega) (by simpa using hz))
  rw [this]
  congr 3
  omega
/-- the world behind a store of a map's block -/
def putMap (w : World) (b : Nat) (o : Obj) : World := { w with heap := w.heap.setIfInBounds b o }
theorem putMap_cell {w : World} {b : Nat} {es es' : Array MapEntry} {k k' : Nat} (h : w.heap[b]? = some (.map es k)) (p : Addr) (x : Value) (hp : w.cell? p = some x) : (putMap w b (.map es' k')).cell? p = some x := by
 have hne : p.block ≠ b := by
  rintro rfl
  simp only [World.cell?, h] at hp
  cases hp
 have h2 := (heap_set (o' := .map es' k') h).2 p.block hne
 simp only [World.cell?, putMap] at hp ⊢
 rw [h2]; exact hp
theorem putMap_grown {w : World} {b : Nat} {o o' : Obj} (h : w.heap[b]? = some o) : w.grownBy (putMap w b o') (some b) :=
 ⟨rfl, rfl, rfl, by simp [putMap], fun i _ hne => (heap_set (o' := o') h).2 i (fun e => hne (by rw [e]))⟩
theorem TableAt.store {w : World} {b mt kt et : Nat} {l : List Row} (h : TableAt w b l) (r : Row) (v : Value) (hr : RowFn w v r) (hf : Fresh r.name l) (hm : Tryz.prog.underlying mt = some (.map kt et)) (hk : Tryz.prog.underlying kt = some .string) :
  ∃ w', (Instr.mapUpdate mt (.map (some b)) (.string r.name) (.agg #[.int .i64 r.least, .int .i64 r.most, .string r.kinds, v])).run Tryz.prog w = .ok () w' ∧ TableAt w' b (l ++ [r]) ∧ w.grownBy w' (some b) := by
 obtain ⟨es, clock, hb, hs, he⟩ := h
 have hall : ∀ x ∈ es.toList, ∃ t, x.key = .string t ∧ (r.name == t) = false := by
  intro x hx
  obtain ⟨i, hi, rfl⟩ := List.getElem_of_mem hx
  have hi' : i < es.size := by simpa using hi
  have hil : i < l.length := by omega
  have := (he i hil hi').1
  exact ⟨l[i].name, by simpa using this, hf l[i] (List.getElem_mem hil)⟩
 have hfind := findNow_fresh r.name es.toList 0 hall
 have hc : (Instr.checkKey false 10000 kt (.string r.name)).run Tryz.prog w = .ok () w := MapKept.run_checkKey (k := .string r.name) hk (by simp [IsKey]) false 9999
 refine ⟨putMap w b (.map (es.push { key := .string r.name, val := .agg #[.int .i64 r.least, .int .i64 r.most, .string r.kinds, v], born := clock }) (clock + 1)), ?_, ?_, putMap_grown hb⟩
 ·simp [Instr.mapUpdate, run_underlying hm, MapKept.run_getObj_map hb, hc, MapKept.run_findKey hk hfind, MapKept.run_setObj_map _ hb, Result.andThen, putMap]
 ·refine ⟨_, _, (heap_set hb).1, by simp [hs], fun i hi hi' => ?_⟩
  by_cases hlt : i < es.size
  ·have hil : i < l.length := by omega
   rw [Array.getElem_push_lt hlt, List.getElem_append_left hil]
   exact (he i hil hlt).mono (putMap_cell hb)
  ·have : i = es.size := by simp at hi'; omega
   subst this
   rw [Array.getElem_push_eq]
   have hl : (l ++ [r])[es.size] = r := by simp [hs]
   rw [hl]
   exact ⟨rfl, v, rfl, hr.mono (putMap_cell hb)⟩
/-- the row at a name -/
theorem TableAt.look {w : World} {b mt kt et : Nat} {l : List Row} (h : TableAt w b l) (i : Nat) (hi : i < l.length) (hf : ∀ j (hj : j < i), (l[i].name == (l[j]'(by omega)).name) = false) (hm : Tryz.prog.underlying mt = some (.map kt et)) (hk : Tryz.prog.underlying kt = some .string) :
  ∃ v, RowFn w v l[i] ∧ (Instr.lookup mt (.map (some b)) (.string l[i].name) true).run Tryz.prog w = .ok (.tuple #[.agg #[.int .i64 l[i].least, .int .i64 l[i].most, .string l[i].kinds, v], .bool true]) w := by
 obtain ⟨es, clock, hb, hs, he⟩ := h
 have hi' : i < es.size := by omega
 obtain ⟨hkey, v, hv, hr⟩ := he i hi hi'
 refine ⟨v, hr, ?_⟩
 have hat : es.toList[i]? = some es[i] := by simp [hi']
 have hfind := findNow_at l[i].name es.toList i 0 es[i] hat hkey (fun j y hj hy => by
  have hjl : j < l.length := by omega
  have hje : j < es.size := by omega
  have hy' : es[j] = y := by simpa [hje] using hy
  exact ⟨l[j].name, by rw [← hy']; exact (he j hjl hje).1, hf j hj⟩)
 rw [Nat.zero_add, hv] at hfind
 have hc : (Instr.checkKey es.isEmpty 10000 kt (.string l[i].name)).run Tryz.prog w = .ok () w := MapKept.run_checkKey (k := .string l[i].name) hk (by simp [IsKey]) _ 9999
 simp [Instr.lookup, run_underlying hm, MapKept.run_getObj_map hb, hc, MapKept.run_findKey hk hfind, Result.andThen]

section
variable {ops : Array Oper} {rest : List Oper} {o : Oper} {a : Act} {Q : Exit → Act → World → Prop}
theorem wpList_insert_row (w : World) (hg : o.guard = none) (m x u : Operand) (t : TypeId) (hop : o.op = Op.insert t m x u ∨ o.op = Op.mapUpdate t m x u) {b kt et : Nat} {l : List Row} (hm : a.eval m = .map (some b)) (h : TableAt w b l) (r : Row) (v : Value) (hx : a.eval x = .string r.name) (hv : a.eval u = .agg #[.int .i64 r.least, .int .i64 r.most, .string r.kinds, v]) (hr : RowFn w v r) (hf : Fresh r.name l) (ht : Tryz.prog.underlying t = some (.map kt et)) (hk : Tryz.prog.underlying kt = some .string)
  (hK : ∀ w', TableAt w' b (l ++ [r]) → w.grownBy w' (some b) → wpList Tryz.prog ops Q rest (a.put o.dst undef) w') :
  wpList Tryz.prog ops Q (o :: rest) a w := by
 refine wpList_plain hg fun K' hK' => ?_
 obtain ⟨w', hrun, r1, r2⟩ := h.store r v hr hf ht hk
 unfold Oper.wp
 rcases hop with hop | hop
 ·simp [execOp, hop, hm, hx, hv, hrun, Result.andThen]
  exact hK' _ _ (hK w' r1 r2)
 ·simp [execOp, hop, hm, hx, hv, hrun, Result.andThen]
  exact hK' _ _ (hK w' r1 r2)
end

set_option maxHeartbeats 1000000 in
theorem entry_any (least most : Int) (kinds : ByteArray) (F : Value) (w : World) (hF : ∃ f c d, F = .func f c d) :
  Calls Tryz.prog 108 #[.int .i64 least, .int .i64 most, .string kinds, F] w fun e w' => e = .returned (.agg #[.int .i64 least, .int .i64 most, .string kinds, .func (.func 173) #[] #[.pointer (some ⟨w.heap.size, 0, none⟩)]]) ∧ w'.cell? ⟨w.heap.size, 0, none⟩ = some F ∧ Below w.heap.size w w' := by
 obtain ⟨f, c, d, rfl⟩ := hF
 have hmf : ∀ (fn : Fn) (first cap : Array Value) (w : World), (Instr.makeFunc fn first cap).run Tryz.prog w = .ok (.func fn first cap) w := fun _ _ _ _ => rfl
 go_enter Tryz.func108, Tryz.ntmps108
 go_wp2
 have hc : (((w.alloc (.cells #[.func f c d] 65)).alloc (.cells #[.int .i64 least, .int .i64 most, .string kinds, .func (.func 173) #[] #[.pointer (some ⟨w.heap.size, 0, none⟩)]] 60))).cell? ⟨w.heap.size, 0, none⟩ = some (.func f c d) :=
  Lib.cell_of_heap ((Below.heap_alloc _ _ _ (by simp)).trans (heap_alloc_new w _)) 0
 exact bodyPost_ret (v := .agg #[.int .i64 least, .int .i64 most, .string kinds, .func (.func 173) #[] #[.pointer (some ⟨w.heap.size, 0, none⟩)]]) (by simp [results, Tryz.results108, go_sem]) rfl ⟨rfl, hc, ((Below.refl _ _).alloc (Nat.le_refl _) _).alloc (by simp) _⟩
end Go.Proofs.YtkghpiaoggljjaaGreatDoor.Num

/- package fmath's table of functions. No conditions. -/
namespace Go.Proofs.YtkghpiaoggljjaaGreatDoor.Num
open Go.RowKit Go.Lib Go.MapKept

/-- what fmath.num and fmath.entry leave -/
def RowRet (w : World) (r : Row) (e : Ending) (w' : World) : Prop := ∃ v, e = .returned (.agg #[.int .i64 r.least, .int .i64 r.most, .string r.kinds, v]) ∧ RowFn w' v r ∧ Below w.heap.size w w'
/-- a block of four cells -/
def Quad (W : World) (b : Nat) (x y z u : Value) : Prop :=
 (W.cell? ⟨b, 0, none⟩ = some x ∧ W.cell? ⟨b, 1, none⟩ = some y ∧ W.cell? ⟨b, 2, none⟩ = some z ∧ W.cell? ⟨b, 3, none⟩ = some u) ∧ W.frozen? ⟨b, 0, none⟩ = false ∧ W.frozen? ⟨b, 1, none⟩ = false ∧ W.frozen? ⟨b, 2, none⟩ = false ∧ W.frozen? ⟨b, 3, none⟩ = false
theorem quad_at {W : World} {b : Nat} {x y z u : Value} {T : TypeId} (h : W.heap[b]? = some (.cells #[x, y, z, u] T (0, 0))) : Quad W b x y z u :=
 ⟨⟨Lib.cell_of_heap h 0, Lib.cell_of_heap h 1, Lib.cell_of_heap h 2, Lib.cell_of_heap h 3⟩, by rw [Lib.frozen_of_heap h 0], by rw [Lib.frozen_of_heap h 1], by rw [Lib.frozen_of_heap h 2], by rw [Lib.frozen_of_heap h 3]⟩
theorem set4_at {W : World} {b : Nat} {x0 y0 z0 u0 : Value} {T : TypeId} (h : W.heap[b]? = some (.cells #[x0, y0, z0, u0] T (0, 0))) (x y z u : Value) :
  ((((W.setCell ⟨b, 0, none⟩ x).setCell ⟨b, 1, none⟩ y).setCell ⟨b, 2, none⟩ z).setCell ⟨b, 3, none⟩ u).heap[b]? = some (.cells #[x, y, z, u] T (0, 0)) := by
 have h1 := heap_setCell_at h 0 x
 have h2 := heap_setCell_at h1 1 y
 have h3 := heap_setCell_at h2 2 z
 have h4 := heap_setCell_at h3 3 u
 rw [h4]; rfl
theorem set4_other (W : World) (b : Nat) (x y z u : Value) {k : Nat} (hk : k ≠ b) : ((((W.setCell ⟨b, 0, none⟩ x).setCell ⟨b, 1, none⟩ y).setCell ⟨b, 2, none⟩ z).setCell ⟨b, 3, none⟩ u).heap[k]? = W.heap[k]? :=
 (Below.heap_setCell _ ⟨b, 3, none⟩ u k hk).trans ((Below.heap_setCell _ ⟨b, 2, none⟩ z k hk).trans ((Below.heap_setCell _ ⟨b, 1, none⟩ y k hk).trans (Below.heap_setCell W ⟨b, 0, none⟩ x k hk)))
attribute [local go_sem] run_store_func

theorem entry_row (r : Row) (hr : r.num = false) (w : World) : Calls Tryz.prog 108 #[.int .i64 r.least, .int .i64 r.most, .string r.kinds, .func (.func r.fn) #[] #[]] w (RowRet w r) :=
 (entry_any r.least r.most r.kinds _ w ⟨_, _, _, rfl⟩).mono fun e w' ⟨he, hc, hb⟩ => ⟨_, he, by unfold RowFn; rw [hr, if_neg (by decide)]; exact ⟨_, rfl, hc⟩, hb⟩

set_option maxHeartbeats 1000000 in
theorem num_row (r : Row) (hr : r.num = true) (w : World) : Calls Tryz.prog 79 #[.int .i64 r.least, .int .i64 r.most, .string r.kinds, .func (.func r.fn) #[] #[]] w (RowRet w r) := by
 obtain ⟨name, least, most, kinds, num, F⟩ := r
 simp only at hr
 subst hr
 have hmf : ∀ (fn : Fn) (first cap : Array Value) (w : World), (Instr.makeFunc fn first cap).run Tryz.prog w = .ok (.func fn first cap) w := fun _ _ _ _ => rfl
 obtain ⟨hx, hr, hb⟩ := two_new w (.cells #[.func (.func F) #[] #[]] 89) (.cells #[.int .i64 0, .int .i64 0, .string { data := #[] }, .nilFunc] 60)
 have HX := Lib.hid hx
 have HR := Lib.hid hr
 have HL := Lib.hid hb
 have TE := Lib.hid (fun W => entry_any least most kinds (.func (.func 157) #[] #[.pointer (some ⟨w.heap.size, 0, none⟩)]) W ⟨_, _, _, rfl⟩)
 clear hx hr hb
 go_enter Tryz.func79, Tryz.ntmps79
 go_wp2_with fail
 refine (TE.out _).mono ?_
 rintro e W1 ⟨rfl, hc, hb⟩
 have HC := Lib.hid hc
 clear hc
 replace HX := Lib.hid (keep_block HX.out hb)
 replace HR := Lib.hid (keep_block HR.out hb)
 replace HL := Lib.hid (HL.out.trans (hb.mono HL.out.size))
 clear hb
 obtain ⟨⟨r0, r1, r2, r3⟩, f0, f1, f2, f3⟩ := quad_at HR.out
 go_wp2
 have hpos : ((w.alloc (.cells #[.func (.func F) #[] #[]] 89)).alloc (.cells #[.int .i64 0, .int .i64 0, .string { data := #[] }, .nilFunc] 60)).heap.size = w.heap.size + 1 + 1 := by simp
 rw [hpos] at HC
 have hF := set4_at HR.out (.int .i64 least) (.int .i64 most) (.string kinds) (.func (.func 173) #[] #[.pointer (some ⟨w.heap.size + 1 + 1, 0, none⟩)])
 obtain ⟨⟨e0, e1, e2, e3⟩, _⟩ := quad_at hF
 refine bodyPost_ret (v := .agg #[.int .i64 least, .int .i64 most, .string kinds, .func (.func 173) #[] #[.pointer (some ⟨w.heap.size + 1 + 1, 0, none⟩)]]) (by simp [results, Tryz.results79, go_sem, e0, e1, e2, e3]) rfl ⟨_, rfl, ?_, ?_⟩
 ·unfold RowFn
  rw [if_pos rfl]
  refine ⟨_, _, rfl, but_cell HC.out (fun k hk => set4_other _ _ _ _ _ _ hk) (by simp only []; omega), ?_⟩
  exact but_cell (Lib.cell_of_heap HX.out 0) (fun k hk => set4_other _ _ _ _ _ _ hk) (by simp only []; omega)
 ·have hge : w.heap.size ≤ w.heap.size + 1 := Nat.le_succ _
  exact (((HL.out.setCell (p := ⟨w.heap.size + 1, 0, none⟩) hge _).setCell (p := ⟨w.heap.size + 1, 1, none⟩) hge _).setCell (p := ⟨w.heap.size + 1, 2, none⟩) hge _).setCell (p := ⟨w.heap.size + 1, 3, none⟩) hge _

theorem num_lit (name : ByteArray) (least most : Int) (kinds : ByteArray) (F : FuncId) (w : World) : Calls Tryz.prog 79 #[.int .i64 least, .int .i64 most, .string kinds, .func (.func F) #[] #[]] w fun e w' => ∃ v, e = .returned (.agg #[.int .i64 least, .int .i64 most, .string kinds, v]) ∧ RowFn w' v ⟨name, least, most, kinds, true, F⟩ ∧ Below w.heap.size w w' := num_row ⟨name, least, most, kinds, true, F⟩ rfl w
theorem entry_lit (name : ByteArray) (least most : Int) (kinds : ByteArray) (F : FuncId) (w : World) : Calls Tryz.prog 108 #[.int .i64 least, .int .i64 most, .string kinds, .func (.func F) #[] #[]] w fun e w' => ∃ v, e = .returned (.agg #[.int .i64 least, .int .i64 most, .string kinds, v]) ∧ RowFn w' v ⟨name, least, most, kinds, false, F⟩ ∧ Below w.heap.size w w' := entry_row ⟨name, least, most, kinds, false, F⟩ rfl w
def freshB (s : ByteArray) (l : List Row) : Bool := l.all fun r => !(s == r.name)
theorem fresh_of {s : ByteArray} {l : List Row} (h : freshB s l = true) : Fresh s l := by
 intro r hr
 unfold freshB at h
 have := List.all_eq_true.1 h r hr
 simpa using this
theorem below_map {w W W' : World} {b : Nat} (h : Below w.heap.size w W) (hb : w.heap.size ≤ b) (hg : W.grownBy W' (some b)) : Below w.heap.size w W' := h.trans (below_of_only hg hb h.size)

def allRows : List Row := [⟨{ data := #[65, 66, 83] }, 1, 1, { data := #[115] }, true, 80⟩,
 ⟨{ data := #[83, 73, 71, 78] }, 1, 1, { data := #[115] }, true, 83⟩,
 ⟨{ data := #[73, 78, 84] }, 1, 1, { data := #[115] }, true, 85⟩,
 ⟨{ data := #[82, 79, 85, 78, 68] }, 2, 2, { data := #[115] }, true, 87⟩,
 ⟨{ data := #[82, 79, 85, 78, 68, 85, 80] }, 2, 2, { data := #[115] }, true, 88⟩,
 ⟨{ data := #[82, 79, 85, 78, 68, 68, 79, 87, 78] }, 2, 2, { data := #[115] }, true, 90⟩,
 ⟨{ data := #[84, 82, 85, 78, 67] }, 1, 2, { data := #[115] }, true, 91⟩,
 ⟨{ data := #[77, 82, 79, 85, 78, 68] }, 2, 2, { data := #[115] }, true, 92⟩,
 ⟨{ data := #[67, 69, 73, 76, 73, 78, 71] }, 2, 2, { data := #[115] }, true, 95⟩,
 ⟨{ data := #[70, 76, 79, 79, 82] }, 2, 2, { data := #[115] }, true, 97⟩,
 ⟨{ data := #[69, 86, 69, 78] }, 1, 1, { data := #[115] }, true, 98⟩,
 ⟨{ data := #[79, 68, 68] }, 1, 1, { data := #[115] }, true, 100⟩,
 ⟨{ data := #[77, 79, 68] }, 2, 2, { data := #[115] }, true, 101⟩,
 ⟨{ data := #[81, 85, 79, 84, 73, 69, 78, 84] }, 2, 2, { data := #[115] }, true, 102⟩,
 ⟨{ data := #[80, 79, 87, 69, 82] }, 2, 2, { data := #[115] }, true, 105⟩,
 ⟨{ data := #[83, 81, 82, 84] }, 1, 1, { data := #[115] }, true, 107⟩,
 ⟨{ data := #[78] }, 1, 1, { data := #[115] }, false, 109⟩,
 ⟨{ data := #[83, 85, 77] }, 1, 255, { data := #[97] }, true, 174⟩,
 ⟨{ data := #[80, 82, 79, 68, 85, 67, 84] }, 1, 255, { data := #[97] }, true, 177⟩,
 ⟨{ data := #[83, 85, 77, 83, 81] }, 1, 255, { data := #[97] }, true, 178⟩,
 ⟨{ data := #[83, 85, 77, 80, 82, 79, 68, 85, 67, 84] }, 1, 255, { data := #[97] }, true, 179⟩,
 ⟨{ data := #[83, 85, 77, 88, 50, 77, 89, 50] }, 2, 2, { data := #[97] }, true, 180⟩,
 ⟨{ data := #[83, 85, 77, 88, 50, 80, 89, 50] }, 2, 2, { data := #[97] }, true, 183⟩,
 ⟨{ data := #[83, 85, 77, 88, 77, 89, 50] }, 2, 2, { data := #[97] }, true, 185⟩,
 ⟨{ data := #[83, 69, 82, 73, 69, 83, 83, 85, 77] }, 4, 4, { data := #[115, 115, 115, 97] }, true, 187⟩,
 ⟨{ data := #[71, 67, 68] }, 1, 255, { data := #[97] }, true, 188⟩,
 ⟨{ data := #[76, 67, 77] }, 1, 255, { data := #[97] }, true, 191⟩,
 ⟨{ data := #[70, 65, 67, 84] }, 1, 1, { data := #[115] }, true, 192⟩,
 ⟨{ data := #[67, 79, 77, 66, 73, 78] }, 2, 2, { data := #[115] }, true, 195⟩,
 ⟨{ data := #[80, 69, 82, 77, 85, 84] }, 2, 2, { data := #[115] }, true, 197⟩,
 ⟨{ data := #[77, 85, 76, 84, 73, 78, 79, 77, 73, 65, 76] }, 1, 255, { data := #[97] }, true, 198⟩,
 ⟨{ data := #[83, 69, 81, 85, 69, 78, 67, 69] }, 1, 4, { data := #[115] }, false, 199⟩,
 ⟨{ data := #[77, 85, 78, 73, 84] }, 1, 1, { data := #[115] }, false, 200⟩,
 ⟨{ data := #[77, 77, 85, 76, 84] }, 2, 2, { data := #[97] }, false, 203⟩,
 ⟨{ data := #[77, 68, 69, 84, 69, 82, 77] }, 1, 1, { data := #[97] }, true, 204⟩,
 ⟨{ data := #[77, 73, 78, 86, 69, 82, 83, 69] }, 1, 1, { data := #[97] }, false, 207⟩,
 ⟨{ data := #[66, 65, 83, 69] }, 2, 3, { data := #[115] }, false, 208⟩,
 ⟨{ data := #[68, 69, 67, 73, 77, 65, 76] }, 2, 2, { data := #[115] }, true, 209⟩,
 ⟨{ data := #[82, 79, 77, 65, 78] }, 1, 1, { data := #[115] }, false, 210⟩,
 ⟨{ data := #[65, 82, 65, 66, 73, 67] }, 1, 1, { data := #[115] }, true, 213⟩]
set_option maxHeartbeats 8000000 in
set_option maxRecDepth 100000 in
theorem sums_part (b : Nat) (w : World) (h : TableAt w b (allRows.take 17)) : Calls Tryz.prog 110 #[.map (some b)] w fun e w' => e = .returned (.tuple #[]) ∧ TableAt w' b (allRows.take 25) ∧ w.grownBy w' (some b) := by
 have TA := Lib.hid h
 have HL := Lib.hid (only_refl w (some b))
 clear h
 go_enter Tryz.func110, Tryz.ntmps110
 go_wp2_with fail
 refine (num_lit { data := #[83, 85, 77] } 1 255 { data := #[97] } 174 _).mono ?_
 rintro e W17 ⟨v, rfl, hr, hb⟩
 have RF := Lib.hid hr
 replace TA := Lib.hid (TA.out.below hb)
 replace HL := Lib.hid (kept_trans HL.out (kept_below hb))
 clear hr hb
 go_wp2_with (first | (refine wpList_insert_row _ rfl _ _ _ _ (.inr rfl) rfl TA.out ⟨{ data := #[83, 85, 77] }, 1, 255, { data := #[97] }, true, 174⟩ v rfl rfl RF.out (fresh_of (by kernel_rfl)) Tryz.underlying46 Tryz.underlying9 ?_; intro V17 ta hg; replace TA := Lib.hid (show TableAt V17 _ (allRows.take 18) from ta); replace HL := Lib.hid (kept_trans HL.out hg); clear ta hg RF))
 go_wp2_with fail
 refine (num_lit { data := #[80, 82, 79, 68, 85, 67, 84] } 1 255 { data := #[97] } 177 _).mono ?_
 rintro e W18 ⟨v, rfl, hr, hb⟩
 have RF := Lib.hid hr
 replace TA := Lib.hid (TA.out.below hb)
 replace HL := Lib.hid (kept_trans HL.out (kept_below hb))
 clear hr hb
 go_wp2_with (first | (refine wpList_insert_row _ rfl _ _ _ _ (.inr rfl) rfl TA.out ⟨{ data := #[80, 82, 79, 68, 85, 67, 84] }, 1, 255, { data := #[97] }, true, 177⟩ v rfl rfl RF.out (fresh_of (by kernel_rfl)) Tryz.underlying46 Tryz.underlying9 ?_; intro V18 ta hg; replace TA := Lib.hid (show TableAt V18 _ (allRows.take 19) from ta); replace HL := Lib.hid (kept_trans HL.out hg); clear ta hg RF))
 go_wp2_with fail
 refine (num_lit { data := #[83, 85, 77, 83, 81] } 1 255 { data := #[97] } 178 _).mono ?_
 rintro e W19 ⟨v, rfl, hr, hb⟩
 have RF := Lib.hid hr
 replace TA := Lib.hid (TA.out.below hb)
 replace HL := Lib.hid (kept_trans HL.out (kept_below hb))
 clear hr hb
 go_wp2_with (first | (refine wpList_insert_row _ rfl _ _ _ _ (.inr rfl) rfl TA.out ⟨{ data := #[83, 85, 77, 83, 81] }, 1, 255, { data := #[97] }, true, 178⟩ v rfl rfl RF.out (fresh_of (by kernel_rfl)) Tryz.underlying46 Tryz.underlying9 ?_; intro V19 ta hg; replace TA := Lib.hid (show TableAt V19 _ (allRows.take 20) from ta); replace HL := Lib.hid (kept_trans HL.out hg); clear ta hg RF))
 go_wp2_with fail
 refine (num_lit { data := #[83, 85, 77, 80, 82, 79, 68, 85, 67, 84] } 1 255 { data := #[97] } 179 _).mono ?_
 rintro e W20 ⟨v, rfl, hr, hb⟩
 have RF := Lib.hid hr
 replace TA := Lib.hid (TA.out.below hb)
 replace HL := Lib.hid (kept_trans HL.out (kept_below hb))
 clear hr hb
 go_wp2_with (first | (refine wpList_insert_row _ rfl _ _ _ _ (.inr rfl) rfl TA.out ⟨{ data := #[83, 85, 77, 80, 82, 79, 68, 85, 67, 84] }, 1, 255, { data := #[97] }, true, 179⟩ v rfl rfl RF.out (fresh_of (by kernel_rfl)) Tryz.underlying46 Tryz.underlying9 ?_; intro V20 ta hg; replace TA := Lib.hid (show TableAt V20 _ (allRows.take 21) from ta); replace HL := Lib.hid (kept_trans HL.out hg); clear ta hg RF))
 go_wp2_with fail
 refine (num_lit { data := #[83, 85, 77, 88, 50, 77, 89, 50] } 2 2 { data := #[97] } 180 _).mono ?_
 rintro e W21 ⟨v, rfl, hr, hb⟩
 have RF := Lib.hid hr
 replace TA := Lib.hid (TA.out.below hb)
 replace HL := Lib.hid (kept_trans HL.out (kept_below hb))
 clear hr hb
 go_wp2_with (first | (refine wpList_insert_row _ rfl _ _ _ _ (.inr rfl) rfl TA.out ⟨{ data := #[83, 85, 77, 88, 50, 77, 89, 50] }, 2, 2, { data := #[97] }, true, 180⟩ v rfl rfl RF.out (fresh_of (by kernel_rfl)) Tryz.underlying46 Tryz.underlying9 ?_; intro V21 ta hg; replace TA := Lib.hid (show TableAt V21 _ (allRows.take 22) from ta); replace HL := Lib.hid (kept_trans HL.out hg); clear ta hg RF))
 go_wp2_with fail
 refine (num_lit { data := #[83, 85, 77, 88, 50, 80, 89, 50] } 2 2 { data := #[97] } 183 _).mono ?_
 rintro e W22 ⟨v, rfl, hr, hb⟩
 have RF := Lib.hid hr
 replace TA := Lib.hid (TA.out.below hb)
 replace HL := Lib.hid (kept_trans HL.out (kept_below hb))
 clear hr hb
 go_wp2_with (first | (refine wpList_insert_row _ rfl _ _ _ _ (.inr rfl) rfl TA.out ⟨{ data := #[83, 85, 77, 88, 50, 80, 89, 50] }, 2, 2, { data := #[97] }, true, 183⟩ v rfl rfl RF.out (fresh_of (by kernel_rfl)) Tryz.underlying46 Tryz.underlying9 ?_; intro V22 ta hg; replace TA := Lib.hid (show TableAt V22 _ (allRows.take 23) from ta); replace HL := Lib.hid (kept_trans HL.out hg); clear ta hg RF))
 go_wp2_with fail
 refine (num_lit { data := #[83, 85, 77, 88, 77, 89, 50] } 2 2 { data := #[97] } 185 _).mono ?_
 rintro e W23 ⟨v, rfl, hr, hb⟩
 have RF := Lib.hid hr
 replace TA := Lib.hid (TA.out.below hb)
 replace HL := Lib.hid (kept_trans HL.out (kept_below hb))
 clear hr hb
 go_wp2_with (first | (refine wpList_insert_row _ rfl _ _ _ _ (.inr rfl) rfl TA.out ⟨{ data := #[83, 85, 77, 88, 77, 89, 50] }, 2, 2, { data := #[97] }, true, 185⟩ v rfl rfl RF.out (fresh_of (by kernel_rfl)) Tryz.underlying46 Tryz.underlying9 ?_; intro V23 ta hg; replace TA := Lib.hid (show TableAt V23 _ (allRows.take 24) from ta); replace HL := Lib.hid (kept_trans HL.out hg); clear ta hg RF))
 go_wp2_with fail
 refine (num_lit { data := #[83, 69, 82, 73, 69, 83, 83, 85, 77] } 4 4 { data := #[115, 115, 115, 97] } 187 _).mono ?_
 rintro e W24 ⟨v, rfl, hr, hb⟩
 have RF := Lib.hid hr
 replace TA := Lib.hid (TA.out.below hb)
 replace HL := Lib.hid (kept_trans HL.out (kept_below hb))
 clear hr hb
 go_wp2_with (first | (refine wpList_insert_row _ rfl _ _ _ _ (.inr rfl) rfl TA.out ⟨{ data := #[83, 69, 82, 73, 69, 83, 83, 85, 77] }, 4, 4, { data := #[115, 115, 115, 97] }, true, 187⟩ v rfl rfl RF.out (fresh_of (by kernel_rfl)) Tryz.underlying46 Tryz.underlying9 ?_; intro V24 ta hg; replace TA := Lib.hid (show TableAt V24 _ (allRows.take 25) from ta); replace HL := Lib.hid (kept_trans HL.out hg); clear ta hg RF))
 go_wp2
 go_end0
 exact ⟨rfl, TA.out, HL.out⟩

set_option maxHeartbeats 8000000 in
set_option maxRecDepth 100000 in
theorem counts_part (b : Nat) (w : World) (h : TableAt w b (allRows.take 25)) : Calls Tryz.prog 111 #[.map (some b)] w fun e w' => e = .returned (.tuple #[]) ∧ TableAt w' b (allRows.take 31) ∧ w.grownBy w' (some b) := by
 have TA := Lib.hid h
 have HL := Lib.hid (only_refl w (some b))
 clear h
 go_enter Tryz.func111, Tryz.ntmps111
 go_wp2_with fail
 refine (num_lit { data := #[71, 67, 68] } 1 255 { data := #[97] } 188 _).mono ?_
 rintro e W25 ⟨v, rfl, hr, hb⟩
 have RF := Lib.hid hr
 replace TA := Lib.hid (TA.out.below hb)
 replace HL := Lib.hid (kept_trans HL.out (kept_below hb))
 clear hr hb
 go_wp2_with (first | (refine wpList_insert_row _ rfl _ _ _ _ (.inr rfl) rfl TA.out ⟨{ data := #[71, 67, 68] }, 1, 255, { data := #[97] }, true, 188⟩ v rfl rfl RF.out (fresh_of (by kernel_rfl)) Tryz.underlying46 Tryz.underlying9 ?_; intro V25 ta hg; replace TA := Lib.hid (show TableAt V25 _ (allRows.take 26) from ta); replace HL := Lib.hid (kept_trans HL.out hg); clear ta hg RF))
 go_wp2_with fail
 refine (num_lit { data := #[76, 67, 77] } 1 255 { data := #[97] } 191 _).mono ?_
 rintro e W26 ⟨v, rfl, hr, hb⟩
 have RF := Lib.hid hr
 replace TA := Lib.hid (TA.out.below hb)
 replace HL := Lib.hid (kept_trans HL.out (kept_below hb))
 clear hr hb
 go_wp2_with (first | (refine wpList_insert_row _ rfl _ _ _ _ (.inr rfl) rfl TA.out ⟨{ data := #[76, 67, 77] }, 1, 255, { data := #[97] }, true, 191⟩ v rfl rfl RF.out (fresh_of (by kernel_rfl)) Tryz.underlying46 Tryz.underlying9 ?_; intro V26 ta hg; replace TA := Lib.hid (show TableAt V26 _ (allRows.take 27) from ta); replace HL := Lib.hid (kept_trans HL.out hg); clear ta hg RF))
 go_wp2_with fail
 refine (num_lit { data := #[70, 65, 67, 84] } 1 1 { data := #[115] } 192 _).mono ?_
 rintro e W27 ⟨v, rfl, hr, hb⟩
 have RF := Lib.hid hr
 replace TA := Lib.hid (TA.out.below hb)
 replace HL := Lib.hid (kept_trans HL.out (kept_below hb))
 clear hr hb
 go_wp2_with (first | (refine wpList_insert_row _ rfl _ _ _ _ (.inr rfl) rfl TA.out ⟨{ data := #[70, 65, 67, 84] }, 1, 1, { data := #[115] }, true, 192⟩ v rfl rfl RF.out (fresh_of (by kernel_rfl)) Tryz.underlying46 Tryz.underlying9 ?_; intro V27 ta hg; replace TA := Lib.hid (show TableAt V27 _ (allRows.take 28) from ta); replace HL := Lib.hid (kept_trans HL.out hg); clear ta hg RF))
 go_wp2_with fail
 refine (num_lit { data := #[67, 79, 77, 66, 73, 78] } 2 2 { data := #[115] } 195 _).mono ?_
 rintro e W28 ⟨v, rfl, hr, hb⟩
 have RF := Lib.hid hr
 replace TA := Lib.hid (TA.out.below hb)
 replace HL := Lib.hid (kept_trans HL.out (kept_below hb))
 clear hr hb
 go_wp2_with (first | (refine wpList_insert_row _ rfl _ _ _ _ (.inr rfl) rfl TA.out ⟨{ data := #[67, 79, 77, 66, 73, 78] }, 2, 2, { data := #[115] }, true, 195⟩ v rfl rfl RF.out (fresh_of (by kernel_rfl)) Tryz.underlying46 Tryz.underlying9 ?_; intro V28 ta hg; replace TA := Lib.hid (show TableAt V28 _ (allRows.take 29) from ta); replace HL := Lib.hid (kept_trans HL.out hg); clear ta hg RF))
 go_wp2_with fail
 refine (num_lit { data := #[80, 69, 82, 77, 85, 84] } 2 2 { data := #[115] } 197 _).mono ?_
 rintro e W29 ⟨v, rfl, hr, hb⟩
 have RF := Lib.hid hr
 replace TA := Lib.hid (TA.out.below hb)
 replace HL := Lib.hid (kept_trans HL.out (kept_below hb))
 clear hr hb
 go_wp2_with (first | (refine wpList_insert_row _ rfl _ _ _ _ (.inr rfl) rfl TA.out ⟨{ data := #[80, 69, 82, 77, 85, 84] }, 2, 2, { data := #[115] }, true, 197⟩ v rfl rfl RF.out (fresh_of (by kernel_rfl)) Tryz.underlying46 Tryz.underlying9 ?_; intro V29 ta hg; replace TA := Lib.hid (show TableAt V29 _ (allRows.take 30) from ta); replace HL := Lib.hid (kept_trans HL.out hg); clear ta hg RF))
 go_wp2_with fail
 refine (num_lit { data := #[77, 85, 76, 84, 73, 78, 79, 77, 73, 65, 76] } 1 255 { data := #[97] } 198 _).mono ?_
 rintro e W30 ⟨v, rfl, hr, hb⟩
 have RF := Lib.hid hr
 replace TA := Lib.hid (TA.out.below hb)
 replace HL := Lib.hid (kept_trans HL.out (kept_below hb))
 clear hr hb
 go_wp2_with (first | (refine wpList_insert_row _ rfl _ _ _ _ (.inr rfl) rfl TA.out ⟨{ data := #[77, 85, 76, 84, 73, 78, 79, 77, 73, 65, 76] }, 1, 255, { data := #[97] }, true, 198⟩ v rfl rfl RF.out (fresh_of (by kernel_rfl)) Tryz.underlying46 Tryz.underlying9 ?_; intro V30 ta hg; replace TA := Lib.hid (show TableAt V30 _ (allRows.take 31) from ta); replace HL := Lib.hid (kept_trans HL.out hg); clear ta hg RF))
 go_wp2
 go_end0
 exact ⟨rfl, TA.out, HL.out⟩

set_option maxHeartbeats 8000000 in
set_option maxRecDepth 100000 in
theorem matrices_part (b : Nat) (w : World) (h : TableAt w b (allRows.take 31)) : Calls Tryz.prog 112 #[.map (some b)] w fun e w' => e = .returned (.tuple #[]) ∧ TableAt w' b (allRows.take 36) ∧ w.grownBy w' (some b) := by
 have TA := Lib.hid h
 have HL := Lib.hid (only_refl w (some b))
 clear h
 go_enter Tryz.func112, Tryz.ntmps112
 go_wp2_with fail
 refine (entry_lit { data := #[83, 69, 81, 85, 69, 78, 67, 69] } 1 4 { data := #[115] } 199 _).mono ?_
 rintro e W31 ⟨v, rfl, hr, hb⟩
 have RF := Lib.hid hr
 replace TA := Lib.hid (TA.out.below hb)
 replace HL := Lib.hid (kept_trans HL.out (kept_below hb))
 clear hr hb
 go_wp2_with (first | (refine wpList_insert_row _ rfl _ _ _ _ (.inr rfl) rfl TA.out ⟨{ data := #[83, 69, 81, 85, 69, 78, 67, 69] }, 1, 4, { data := #[115] }, false, 199⟩ v rfl rfl RF.out (fresh_of (by kernel_rfl)) Tryz.underlying46 Tryz.underlying9 ?_; intro V31 ta hg; replace TA := Lib.hid (show TableAt V31 _ (allRows.take 32) from ta); replace HL := Lib.hid (kept_trans HL.out hg); clear ta hg RF))
 go_wp2_with fail
 refine (entry_lit { data := #[77, 85, 78, 73, 84] } 1 1 { data := #[115] } 200 _).mono ?_
 rintro e W32 ⟨v, rfl, hr, hb⟩
 have RF := Lib.hid hr
 replace TA := Lib.hid (TA.out.below hb)
 replace HL := Lib.hid (kept_trans HL.out (kept_below hb))
 clear hr hb
 go_wp2_with (first | (refine wpList_insert_row _ rfl _ _ _ _ (.inr rfl) rfl TA.out ⟨{ data := #[77, 85, 78, 73, 84] }, 1, 1, { data := #[115] }, false, 200⟩ v rfl rfl RF.out (fresh_of (by kernel_rfl)) Tryz.underlying46 Tryz.underlying9 ?_; intro V32 ta hg; replace TA := Lib.hid (show TableAt V32 _ (allRows.take 33) from ta); replace HL := Lib.hid (kept_trans HL.out hg); clear ta hg RF))
 go_wp2_with fail
 refine (entry_lit { data := #[77, 77, 85, 76, 84] } 2 2 { data := #[97] } 203 _).mono ?_
 rintro e W33 ⟨v, rfl, hr, hb⟩
 have RF := Lib.hid hr
 replace TA := Lib.hid (TA.out.below hb)
 replace HL := Lib.hid (kept_trans HL.out (kept_below hb))
 clear hr hb
 go_wp2_with (first | (refine wpList_insert_row _ rfl _ _ _ _ (.inr rfl) rfl TA.out ⟨{ data := #[77, 77, 85, 76, 84] }, 2, 2, { data := #[97] }, false, 203⟩ v rfl rfl RF.out (fresh_of (by kernel_rfl)) Tryz.underlying46 Tryz.underlying9 ?_; intro V33 ta hg; replace TA := Lib.hid (show TableAt V33 _ (allRows.take 34) from ta); replace HL := Lib.hid (kept_trans HL.out hg); clear ta hg RF))
 go_wp2_with fail
 refine (num_lit { data := #[77, 68, 69, 84, 69, 82, 77] } 1 1 { data := #[97] } 204 _).mono ?_
 rintro e W34 ⟨v, rfl, hr, hb⟩
 have RF := Lib.hid hr
 replace TA := Lib.hid (TA.out.below hb)
 replace HL := Lib.hid (kept_trans HL.out (kept_below hb))
 clear hr hb
 go_wp2_with (first | (refine wpList_insert_row _ rfl _ _ _ _ (.inr rfl) rfl TA.out ⟨{ data := #[77, 68, 69, 84, 69, 82, 77] }, 1, 1, { data := #[97] }, true, 204⟩ v rfl rfl RF.out (fresh_of (by kernel_rfl)) Tryz.underlying46 Tryz.underlying9 ?_; intro V34 ta hg; replace TA := Lib.hid (show TableAt V34 _ (allRows.take 35) from ta); replace HL := Lib.hid (kept_trans HL.out hg); clear ta hg RF))
 go_wp2_with fail
 refine (entry_lit { data := #[77, 73, 78, 86, 69, 82, 83, 69] } 1 1 { data := #[97] } 207 _).mono ?_
 rintro e W35 ⟨v, rfl, hr, hb⟩
 have RF := Lib.hid hr
 replace TA := Lib.hid (TA.out.below hb)
 replace HL := Lib.hid (kept_trans HL.out (kept_below hb))
 clear hr hb
 go_wp2_with (first | (refine wpList_insert_row _ rfl _ _ _ _ (.inr rfl) rfl TA.out ⟨{ data := #[77, 73, 78, 86, 69, 82, 83, 69] }, 1, 1, { data := #[97] }, false, 207⟩ v rfl rfl RF.out (fresh_of (by kernel_rfl)) Tryz.underlying46 Tryz.underlying9 ?_; intro V35 ta hg; replace TA := Lib.hid (show TableAt V35 _ (allRows.take 36) from ta); replace HL := Lib.hid (kept_trans HL.out hg); clear ta hg RF))
 go_wp2
 go_end0
 exact ⟨rfl, TA.out, HL.out⟩

set_option maxHeartbeats 8000000 in
set_option maxRecDepth 100000 in
theorem texts_part (b : Nat) (w : World) (h : TableAt w b (allRows.take 36)) : Calls Tryz.prog 113 #[.map (some b)] w fun e w' => e = .returned (.tuple #[]) ∧ TableAt w' b (allRows.take 40) ∧ w.grownBy w' (some b) := by
 have TA := Lib.hid h
 have HL := Lib.hid (only_refl w (some b))
 clear h
 go_enter Tryz.func113, Tryz.ntmps113
 go_wp2_with fail
 refine (entry_lit { data := #[66, 65, 83, 69] } 2 3 { data := #[115] } 208 _).mono ?_
 rintro e W36 ⟨v, rfl, hr, hb⟩
 have RF := Lib.hid hr
 replace TA := Lib.hid (TA.out.below hb)
 replace HL := Lib.hid (kept_trans HL.out (kept_below hb))
 clear hr hb
 go_wp2_with (first | (refine wpList_insert_row _ rfl _ _ _ _ (.inr rfl) rfl TA.out ⟨{ data := #[66, 65, 83, 69] }, 2, 3, { data := #[115] }, false, 208⟩ v rfl rfl RF.out (fresh_of (by kernel_rfl)) Tryz.underlying46 Tryz.underlying9 ?_; intro V36 ta hg; replace TA := Lib.hid (show TableAt V36 _ (allRows.take 37) from ta); replace HL := Lib.hid (kept_trans HL.out hg); clear ta hg RF))
 go_wp2_with fail
 refine (num_lit { data := #[68, 69, 67, 73, 77, 65, 76] } 2 2 { data := #[115] } 209 _).mono ?_
 rintro e W37 ⟨v, rfl, hr, hb⟩
 have RF := Lib.hid hr
 replace TA := Lib.hid (TA.out.below hb)
 replace HL := Lib.hid (kept_trans HL.out (kept_below hb))
 clear hr hb
 go_wp2_with (first | (refine wpList_insert_row _ rfl _ _ _ _ (.inr rfl) rfl TA.out ⟨{ data := #[68, 69, 67, 73, 77, 65, 76] }, 2, 2, { data := #[115] }, true, 209⟩ v rfl rfl RF.out (fresh_of (by kernel_rfl)) Tryz.underlying46 Tryz.underlying9 ?_; intro V37 ta hg; replace TA := Lib.hid (show TableAt V37 _ (allRows.take 38) from ta); replace HL := Lib.hid (kept_trans HL.out hg); clear ta hg RF))
 go_wp2_with fail
 refine (entry_lit { data := #[82, 79, 77, 65, 78] } 1 1 { data := #[115] } 210 _).mono ?_
 rintro e W38 ⟨v, rfl, hr, hb⟩
 have RF := Lib.hid hr
 replace TA := Lib.hid (TA.out.below hb)
 replace HL := Lib.hid (kept_trans HL.out (kept_below hb))
 clear hr hb
 go_wp2_with (first | (refine wpList_insert_row _ rfl _ _ _ _ (.inr rfl) rfl TA.out ⟨{ data := #[82, 79, 77, 65, 78] }, 1, 1, { data := #[115] }, false, 210⟩ v rfl rfl RF.out (fresh_of (by kernel_rfl)) Tryz.underlying46 Tryz.underlying9 ?_; intro V38 ta hg; replace TA := Lib.hid (show TableAt V38 _ (allRows.take 39) from ta); replace HL := Lib.hid (kept_trans HL.out hg); clear ta hg RF))
 go_wp2_with fail
 refine (num_lit { data := #[65, 82, 65, 66, 73, 67] } 1 1 { data := #[115] } 213 _).mono ?_
 rintro e W39 ⟨v, rfl, hr, hb⟩
 have RF := Lib.hid hr
 replace TA := Lib.hid (TA.out.below hb)
 replace HL := Lib.hid (kept_trans HL.out (kept_below hb))
 clear hr hb
 go_wp2_with (first | (refine wpList_insert_row _ rfl _ _ _ _ (.inr rfl) rfl TA.out ⟨{ data := #[65, 82, 65, 66, 73, 67] }, 1, 1, { data := #[115] }, true, 213⟩ v rfl rfl RF.out (fresh_of (by kernel_rfl)) Tryz.underlying46 Tryz.underlying9 ?_; intro V39 ta hg; replace TA := Lib.hid (show TableAt V39 _ (allRows.take 40) from ta); replace HL := Lib.hid (kept_trans HL.out hg); clear ta hg RF))
 go_wp2
 go_end0
 exact ⟨rfl, TA.out, HL.out⟩

set_option maxHeartbeats 8000000 in
set_option maxRecDepth 100000 in
theorem table_any (w : World) : Calls Tryz.prog 30 #[] w fun e w' => ∃ b, e = .returned (.map (some b)) ∧ TableAt w' b allRows ∧ Below w.heap.size w w' := by
 have hmm := @run_makeMap Tryz.prog
 have TA := Lib.hid (show TableAt (w.alloc (.map #[] 0)) w.heap.size (allRows.take 0) from TableAt.made w)
 have HL := Lib.hid (show Below w.heap.size w (w.alloc (.map #[] 0)) from (Below.refl _ _).alloc (Nat.le_refl _) _)
 go_enter Tryz.func30, Tryz.ntmps30
 go_wp2_with fail
 refine (num_lit { data := #[65, 66, 83] } 1 1 { data := #[115] } 80 _).mono ?_
 rintro e W0 ⟨v, rfl, hr, hb⟩
 have RF := Lib.hid hr
 replace TA := Lib.hid (TA.out.below hb)
 replace HL := Lib.hid (HL.out.trans (hb.mono HL.out.size))
 clear hr hb
 go_wp2_with (first | (refine wpList_insert_row _ rfl _ _ _ _ (.inl rfl) rfl TA.out ⟨{ data := #[65, 66, 83] }, 1, 1, { data := #[115] }, true, 80⟩ v rfl rfl RF.out (fresh_of (by kernel_rfl)) Tryz.underlying46 Tryz.underlying9 ?_; intro V0 ta hg; replace TA := Lib.hid (show TableAt V0 _ (allRows.take 1) from ta); replace HL := Lib.hid (below_map HL.out (Nat.le_refl _) hg); clear ta hg RF))
 go_wp2_with fail
 refine (num_lit { data := #[83, 73, 71, 78] } 1 1 { data := #[115] } 83 _).mono ?_
 rintro e W1 ⟨v, rfl, hr, hb⟩
 have RF := Lib.hid hr
 replace TA := Lib.hid (TA.out.below hb)
 replace HL := Lib.hid (HL.out.trans (hb.mono HL.out.size))
 clear hr hb
 go_wp2_with (first | (refine wpList_insert_row _ rfl _ _ _ _ (.inl rfl) rfl TA.out ⟨{ data := #[83, 73, 71, 78] }, 1, 1, { data := #[115] }, true, 83⟩ v rfl rfl RF.out (fresh_of (by kernel_rfl)) Tryz.underlying46 Tryz.underlying9 ?_; intro V1 ta hg; replace TA := Lib.hid (show TableAt V1 _ (allRows.take 2) from ta); replace HL := Lib.hid (below_map HL.out (Nat.le_refl _) hg); clear ta hg RF))
 go_wp2_with fail
 refine (num_lit { data := #[73, 78, 84] } 1 1 { data := #[115] } 85 _).mono ?_
 rintro e W2 ⟨v, rfl, hr, hb⟩
 have RF := Lib.hid hr
 replace TA := Lib.hid (TA.out.below hb)
 replace HL := Lib.hid (HL.out.trans (hb.mono HL.out.size))
 clear hr hb
 go_wp2_with (first | (refine wpList_insert_row _ rfl _ _ _ _ (.inl rfl) rfl TA.out ⟨{ data := #[73, 78, 84] }, 1, 1, { data := #[115] }, true, 85⟩ v rfl rfl RF.out (fresh_of (by kernel_rfl)) Tryz.underlying46 Tryz.underlying9 ?_; intro V2 ta hg; replace TA := Lib.hid (show TableAt V2 _ (allRows.take 3) from ta); replace HL := Lib.hid (below_map HL.out (Nat.le_refl _) hg); clear ta hg RF))
 go_wp2_with fail
 refine (num_lit { data := #[82, 79, 85, 78, 68] } 2 2 { data := #[115] } 87 _).mono ?_
 rintro e W3 ⟨v, rfl, hr, hb⟩
 have RF := Lib.hid hr
 replace TA := Lib.hid (TA.out.below hb)
 replace HL := Lib.hid (HL.out.trans (hb.mono HL.out.size))
 clear hr hb
 go_wp2_with (first | (refine wpList_insert_row _ rfl _ _ _ _ (.inl rfl) rfl TA.out ⟨{ data := #[82, 79, 85, 78, 68] }, 2, 2, { data := #[115] }, true, 87⟩ v rfl rfl RF.out (fresh_of (by kernel_rfl)) Tryz.underlying46 Tryz.underlying9 ?_; intro V3 ta hg; replace TA := Lib.hid (show TableAt V3 _ (allRows.take 4) from ta); replace HL := Lib.hid (below_map HL.out (Nat.le_refl _) hg); clear ta hg RF))
 go_wp2_with fail
 refine (num_lit { data := #[82, 79, 85, 78, 68, 85, 80] } 2 2 { data := #[115] } 88 _).mono ?_
 rintro e W4 ⟨v, rfl, hr, hb⟩
 have RF := Lib.hid hr
 replace TA := Lib.hid (TA.out.below hb)
 replace HL := Lib.hid (HL.out.trans (hb.mono HL.out.size))
 clear hr hb
 go_wp2_with (first | (refine wpList_insert_row _ rfl _ _ _ _ (.inl rfl) rfl TA.out ⟨{ data := #[82, 79, 85, 78, 68, 85, 80] }, 2, 2, { data := #[115] }, true, 88⟩ v rfl rfl RF.out (fresh_of (by kernel_rfl)) Tryz.underlying46 Tryz.underlying9 ?_; intro V4 ta hg; replace TA := Lib.hid (show TableAt V4 _ (allRows.take 5) from ta); replace HL := Lib.hid (below_map HL.out (Nat.le_refl _) hg); clear ta hg RF))
 go_wp2_with fail
 refine (num_lit { data := #[82, 79, 85, 78, 68, 68, 79, 87, 78] } 2 2 { data := #[115] } 90 _).mono ?_
 rintro e W5 ⟨v, rfl, hr, hb⟩
 have RF := Lib.hid hr
 replace TA := Lib.hid (TA.out.below hb)
 replace HL := Lib.hid (HL.out.trans (hb.mono HL.out.size))
 clear hr hb
 go_wp2_with (first | (refine wpList_insert_row _ rfl _ _ _ _ (.inl rfl) rfl TA.out ⟨{ data := #[82, 79, 85, 78, 68, 68, 79, 87, 78] }, 2, 2, { data := #[115] }, true, 90⟩ v rfl rfl RF.out (fresh_of (by kernel_rfl)) Tryz.underlying46 Tryz.underlying9 ?_; intro V5 ta hg; replace TA := Lib.hid (show TableAt V5 _ (allRows.take 6) from ta); replace HL := Lib.hid (below_map HL.out (Nat.le_refl _) hg); clear ta hg RF))
 go_wp2_with fail
 refine (num_lit { data := #[84, 82, 85, 78, 67] } 1 2 { data := #[115] } 91 _).mono ?_
 rintro e W6 ⟨v, rfl, hr, hb⟩
 have RF := Lib.hid hr
 replace TA := Lib.hid (TA.out.below hb)
 replace HL := Lib.hid (HL.out.trans (hb.mono HL.out.size))
 clear hr hb
 go_wp2_with (first | (refine wpList_insert_row _ rfl _ _ _ _ (.inl rfl) rfl TA.out ⟨{ data := #[84, 82, 85, 78, 67] }, 1, 2, { data := #[115] }, true, 91⟩ v rfl rfl RF.out (fresh_of (by kernel_rfl)) Tryz.underlying46 Tryz.underlying9 ?_; intro V6 ta hg; replace TA := Lib.hid (show TableAt V6 _ (allRows.take 7) from ta); replace HL := Lib.hid (below_map HL.out (Nat.le_refl _) hg); clear ta hg RF))
 go_wp2_with fail
 refine (num_lit { data := #[77, 82, 79, 85, 78, 68] } 2 2 { data := #[115] } 92 _).mono ?_
 rintro e W7 ⟨v, rfl, hr, hb⟩
 have RF := Lib.hid hr
 replace TA := Lib.hid (TA.out.below hb)
 replace HL := Lib.hid (HL.out.trans (hb.mono HL.out.size))
 clear hr hb
 go_wp2_with (first | (refine wpList_insert_row _ rfl _ _ _ _ (.inl rfl) rfl TA.out ⟨{ data := #[77, 82, 79, 85, 78, 68] }, 2, 2, { data := #[115] }, true, 92⟩ v rfl rfl RF.out (fresh_of (by kernel_rfl)) Tryz.underlying46 Tryz.underlying9 ?_; intro V7 ta hg; replace TA := Lib.hid (show TableAt V7 _ (allRows.take 8) from ta); replace HL := Lib.hid (below_map HL.out (Nat.le_refl _) hg); clear ta hg RF))
 go_wp2_with fail
 refine (num_lit { data := #[67, 69, 73, 76, 73, 78, 71] } 2 2 { data := #[115] } 95 _).mono ?_
 rintro e W8 ⟨v, rfl, hr, hb⟩
 have RF := Lib.hid hr
 replace TA := Lib.hid (TA.out.below hb)
 replace HL := Lib.hid (HL.out.trans (hb.mono HL.out.size))
 clear hr hb
 go_wp2_with (first | (refine wpList_insert_row _ rfl _ _ _ _ (.inl rfl) rfl TA.out ⟨{ data := #[67, 69, 73, 76, 73, 78, 71] }, 2, 2, { data := #[115] }, true, 95⟩ v rfl rfl RF.out (fresh_of (by kernel_rfl)) Tryz.underlying46 Tryz.underlying9 ?_; intro V8 ta hg; replace TA := Lib.hid (show TableAt V8 _ (allRows.take 9) from ta); replace HL := Lib.hid (below_map HL.out (Nat.le_refl _) hg); clear ta hg RF))
 go_wp2_with fail
 refine (num_lit { data := #[70, 76, 79, 79, 82] } 2 2 { data := #[115] } 97 _).mono ?_
 rintro e W9 ⟨v, rfl, hr, hb⟩
 have RF := Lib.hid hr
 replace TA := Lib.hid (TA.out.below hb)
 replace HL := Lib.hid (HL.out.trans (hb.mono HL.out.size))
 clear hr hb
 go_wp2_with (first | (refine wpList_insert_row _ rfl _ _ _ _ (.inl rfl) rfl TA.out ⟨{ data := #[70, 76, 79, 79, 82] }, 2, 2, { data := #[115] }, true, 97⟩ v rfl rfl RF.out (fresh_of (by kernel_rfl)) Tryz.underlying46 Tryz.underlying9 ?_; intro V9 ta hg; replace TA := Lib.hid (show TableAt V9 _ (allRows.take 10) from ta); replace HL := Lib.hid (below_map HL.out (Nat.le_refl _) hg); clear ta hg RF))
 go_wp2_with fail
 refine (num_lit { data := #[69, 86, 69, 78] } 1 1 { data := #[115] } 98 _).mono ?_
 rintro e W10 ⟨v, rfl, hr, hb⟩
 have RF := Lib.hid hr
 replace TA := Lib.hid (TA.out.below hb)
 replace HL := Lib.hid (HL.out.trans (hb.mono HL.out.size))
 clear hr hb
 go_wp2_with (first | (refine wpList_insert_row _ rfl _ _ _ _ (.inl rfl) rfl TA.out ⟨{ data := #[69, 86, 69, 78] }, 1, 1, { data := #[115] }, true, 98⟩ v rfl rfl RF.out (fresh_of (by kernel_rfl)) Tryz.underlying46 Tryz.underlying9 ?_; intro V10 ta hg; replace TA := Lib.hid (show TableAt V10 _ (allRows.take 11) from ta); replace HL := Lib.hid (below_map HL.out (Nat.le_refl _) hg); clear ta hg RF))
 go_wp2_with fail
 refine (num_lit { data := #[79, 68, 68] } 1 1 { data := #[115] } 100 _).mono ?_
 rintro e W11 ⟨v, rfl, hr, hb⟩
 have RF := Lib.hid hr
 replace TA := Lib.hid (TA.out.below hb)
 replace HL := Lib.hid (HL.out.trans (hb.mono HL.out.size))
 clear hr hb
 go_wp2_with (first | (refine wpList_insert_row _ rfl _ _ _ _ (.inl rfl) rfl TA.out ⟨{ data := #[79, 68, 68] }, 1, 1, { data := #[115] }, true, 100⟩ v rfl rfl RF.out (fresh_of (by kernel_rfl)) Tryz.underlying46 Tryz.underlying9 ?_; intro V11 ta hg; replace TA := Lib.hid (show TableAt V11 _ (allRows.take 12) from ta); replace HL := Lib.hid (below_map HL.out (Nat.le_refl _) hg); clear ta hg RF))
 go_wp2_with fail
 refine (num_lit { data := #[77, 79, 68] } 2 2 { data := #[115] } 101 _).mono ?_
 rintro e W12 ⟨v, rfl, hr, hb⟩
 have RF := Lib.hid hr
 replace TA := Lib.hid (TA.out.below hb)
 replace HL := Lib.hid (HL.out.trans (hb.mono HL.out.size))
 clear hr hb
 go_wp2_with (first | (refine wpList_insert_row _ rfl _ _ _ _ (.inl rfl) rfl TA.out ⟨{ data := #[77, 79, 68] }, 2, 2, { data := #[115] }, true, 101⟩ v rfl rfl RF.out (fresh_of (by kernel_rfl)) Tryz.underlying46 Tryz.underlying9 ?_; intro V12 ta hg; replace TA := Lib.hid (show TableAt V12 _ (allRows.take 13) from ta); replace HL := Lib.hid (below_map HL.out (Nat.le_refl _) hg); clear ta hg RF))
 go_wp2_with fail
 refine (num_lit { data := #[81, 85, 79, 84, 73, 69, 78, 84] } 2 2 { data := #[115] } 102 _).mono ?_
 rintro e W13 ⟨v, rfl, hr, hb⟩
 have RF := Lib.hid hr
 replace TA := Lib.hid (TA.out.below hb)
 replace HL := Lib.hid (HL.out.trans (hb.mono HL.out.size))
 clear hr hb
 go_wp2_with (first | (refine wpList_insert_row _ rfl _ _ _ _ (.inl rfl) rfl TA.out ⟨{ data := #[81, 85, 79, 84, 73, 69, 78, 84] }, 2, 2, { data := #[115] }, true, 102⟩ v rfl rfl RF.out (fresh_of (by kernel_rfl)) Tryz.underlying46 Tryz.underlying9 ?_; intro V13 ta hg; replace TA := Lib.hid (show TableAt V13 _ (allRows.take 14) from ta); replace HL := Lib.hid (below_map HL.out (Nat.le_refl _) hg); clear ta hg RF))
 go_wp2_with fail
 refine (num_lit { data := #[80, 79, 87, 69, 82] } 2 2 { data := #[115] } 105 _).mono ?_
 rintro e W14 ⟨v, rfl, hr, hb⟩
 have RF := Lib.hid hr
 replace TA := Lib.hid (TA.out.below hb)
 replace HL := Lib.hid (HL.out.trans (hb.mono HL.out.size))
 clear hr hb
 go_wp2_with (first | (refine wpList_insert_row _ rfl _ _ _ _ (.inl rfl) rfl TA.out ⟨{ data := #[80, 79, 87, 69, 82] }, 2, 2, { data := #[115] }, true, 105⟩ v rfl rfl RF.out (fresh_of (by kernel_rfl)) Tryz.underlying46 Tryz.underlying9 ?_; intro V14 ta hg; replace TA := Lib.hid (show TableAt V14 _ (allRows.take 15) from ta); replace HL := Lib.hid (below_map HL.out (Nat.le_refl _) hg); clear ta hg RF))
 go_wp2_with fail
 refine (num_lit { data := #[83, 81, 82, 84] } 1 1 { data := #[115] } 107 _).mono ?_
 rintro e W15 ⟨v, rfl, hr, hb⟩
 have RF := Lib.hid hr
 replace TA := Lib.hid (TA.out.below hb)
 replace HL := Lib.hid (HL.out.trans (hb.mono HL.out.size))
 clear hr hb
 go_wp2_with (first | (refine wpList_insert_row _ rfl _ _ _ _ (.inl rfl) rfl TA.out ⟨{ data := #[83, 81, 82, 84] }, 1, 1, { data := #[115] }, true, 107⟩ v rfl rfl RF.out (fresh_of (by kernel_rfl)) Tryz.underlying46 Tryz.underlying9 ?_; intro V15 ta hg; replace TA := Lib.hid (show TableAt V15 _ (allRows.take 16) from ta); replace HL := Lib.hid (below_map HL.out (Nat.le_refl _) hg); clear ta hg RF))
 go_wp2_with fail
 refine (entry_lit { data := #[78] } 1 1 { data := #[115] } 109 _).mono ?_
 rintro e W16 ⟨v, rfl, hr, hb⟩
 have RF := Lib.hid hr
 replace TA := Lib.hid (TA.out.below hb)
 replace HL := Lib.hid (HL.out.trans (hb.mono HL.out.size))
 clear hr hb
 go_wp2_with (first | (refine wpList_insert_row _ rfl _ _ _ _ (.inl rfl) rfl TA.out ⟨{ data := #[78] }, 1, 1, { data := #[115] }, false, 109⟩ v rfl rfl RF.out (fresh_of (by kernel_rfl)) Tryz.underlying46 Tryz.underlying9 ?_; intro V16 ta hg; replace TA := Lib.hid (show TableAt V16 _ (allRows.take 17) from ta); replace HL := Lib.hid (below_map HL.out (Nat.le_refl _) hg); clear ta hg RF))
 go_wp2_with fail
 refine (sums_part _ _ TA.out).mono ?_
 rintro e W_sums ⟨rfl, ta, hg⟩
 replace TA := Lib.hid ta
 replace HL := Lib.hid (below_map HL.out (Nat.le_refl _) hg)
 clear ta hg
 go_wp2_with fail
 refine (counts_part _ _ TA.out).mono ?_
 rintro e W_counts ⟨rfl, ta, hg⟩
 replace TA := Lib.hid ta
 replace HL := Lib.hid (below_map HL.out (Nat.le_refl _) hg)
 clear ta hg
 go_wp2_with fail
 refine (matrices_part _ _ TA.out).mono ?_
 rintro e W_matrices ⟨rfl, ta, hg⟩
 replace TA := Lib.hid ta
 replace HL := Lib.hid (below_map HL.out (Nat.le_refl _) hg)
 clear ta hg
 go_wp2_with fail
 refine (texts_part _ _ TA.out).mono ?_
 rintro e W_texts ⟨rfl, ta, hg⟩
 replace TA := Lib.hid ta
 replace HL := Lib.hid (below_map HL.out (Nat.le_refl _) hg)
 clear ta hg
 go_wp2
 go_ret
 exact ⟨_, rfl, TA.out, HL.out⟩

end Go.Proofs.YtkghpiaoggljjaaGreatDoor.Num

/- package value's Run: its deferred closure. Conditions: the tables lie as they are laid. -/
namespace Go.Proofs.YtkghpiaoggljjaaGreatDoor.Num
open Go.RowKit Go.Lib

theorem idle_any (p : Addr) (w : World) : CallsD Tryz.prog 33 #[.pointer (some p)] .returning w fun e u' w' => e = .returned (.tuple #[]) ∧ u' = .returning ∧ w' = w := by
 refine callsD_of_wpS Tryz.func33 rfl fun c₀ cs hu => ?_
 apply wpS_seq
 apply wpS_region
 simp [wpOpsS, go_sem, recoverD, hu, Tryz.ntmps33, Exit.thenS]
 refine wpS_of_wp ?_
 have hnil : ∀ w : World, (binOp BinOp.eql 20 .nilIface .nilIface).run Tryz.prog w = .ok (.bool true) w := fun _ => by kernel_rfl
 go_wp2
 cases c₀
 simp_all [bodyPostS, results, Tryz.results33]

end Go.Proofs.YtkghpiaoggljjaaGreatDoor.Num

/- package value: the closure that Run hands to Lift. Conditions: the tables lie as they are laid. -/
namespace Go.Proofs.YtkghpiaoggljjaaGreatDoor.Num
open Go.RowKit Go.Lib

set_option maxHeartbeats 4000000 in
set_option maxRecDepth 100000 in
theorem run1_value (pb _ e : Nat) (sl : Value) (k : Int) (n d t : ByteArray) (on : Bool) (c : Int) (A : Option Addr) (L C : Nat) (w : World) (hs : ∃ a l c, sl = .slice a l c) (hc : w.cell? ⟨pb, 3, none⟩ = some (.func (.func 173) #[] #[.pointer (some ⟨e, 0, none⟩)])) (hE : Env w)
  (hF : ∀ W, Below w.heap.size w W → Calls Tryz.prog 173 #[sl, .pointer (some ⟨e, 0, none⟩)] W fun e w' => e = .returned (.agg #[.int .i64 k, .string n, .string d, .string t, .bool on, .int .i64 c, .int .i64 0, .int .i64 0, .slice A L C]) ∧ Below W.heap.size W w') :
  Calls Tryz.prog 32 #[sl, .pointer (some ⟨pb, 0, none⟩)] w fun e w' => e = .returned (.agg #[.int .i64 k, .string n, .string d, .string t, .bool on, .int .i64 c, .int .i64 0, .int .i64 0, .slice A L C]) ∧ Below w.heap.size w w' := by
 obtain ⟨sa, slen, sc, rfl⟩ := hs
 have hmf : ∀ (fn : Fn) (first cap : Array Value) (w : World), (Instr.makeFunc fn first cap).run Tryz.prog w = .ok (.func fn first cap) w := fun _ _ _ _ => rfl
 have hb : Below w.heap.size w (w.alloc (.cells #[.int .i64 0, .string { data := #[] }, .string { data := #[] }, .string { data := #[] }, .bool false, .int .i64 0, .int .i64 0, .int .i64 0, .slice none 0 0] 27)) := (Below.refl _ _).alloc (Nat.le_refl _) _
 have HR := Lib.hid (heap_alloc_new w (.cells #[.int .i64 0, .string { data := #[] }, .string { data := #[] }, .string { data := #[] }, .bool false, .int .i64 0, .int .i64 0, .int .i64 0, .slice none 0 0] 27))
 have HX := Lib.hid (cell_below hc hb)
 have HL := Lib.hid hb
 have HE := Lib.hid (hE.below hb)
 have TF := Lib.hid (hF _ hb)
 clear hb hc hE hF
 obtain x3 := HX.out
 go_enter_defers Tryz.func32, Tryz.ntmps32
 go_wp2_with fail
 refine TF.out.mono ?_
 rintro e w1 ⟨rfl, hb⟩
 replace HR := Lib.hid (keep_block HR.out hb)
 replace HE := Lib.hid (HE.out.below hb)
 replace HL := Lib.hid (HL.out.trans (hb.mono HL.out.size))
 clear hb
 obtain ⟨⟨r0, r1, r2, r3, r4, r5, r6, r7, r8⟩, g0, g1, g2, g3, g4, g5, g6, g7, g8⟩ := nine_at HR.out
 have HR2 := Lib.hid (set9_at HR.out (.int .i64 k) (.string n) (.string d) (.string t) (.bool on) (.int .i64 c) (.int .i64 0) (.int .i64 0) (.slice A L C))
 have HL2 := Lib.hid (nine_end (x0 := (.int .i64 k)) (x1 := (.string n)) (x2 := (.string d)) (x3 := (.string t)) (x4 := (.bool on)) (x5 := (.int .i64 c)) (x6 := (.int .i64 0)) (x7 := (.int .i64 0)) (x8 := (.slice A L C)) HR.out HL.out (Nat.le_refl _)).1
 go_wp2_with fail
 obtain ⟨W2, hW2⟩ : ∃ W2, (((((((((w1.setCell ⟨w.heap.size, 0, none⟩ (.int .i64 k)).setCell ⟨w.heap.size, 1, none⟩ (.string n)).setCell ⟨w.heap.size, 2, none⟩ (.string d)).setCell ⟨w.heap.size, 3, none⟩ (.string t)).setCell ⟨w.heap.size, 4, none⟩ (.bool on)).setCell ⟨w.heap.size, 5, none⟩ (.int .i64 c)).setCell ⟨w.heap.size, 6, none⟩ (.int .i64 0)).setCell ⟨w.heap.size, 7, none⟩ (.int .i64 0)).setCell ⟨w.heap.size, 8, none⟩ (.slice A L C)) = W2 := ⟨_, rfl⟩
 rw [hW2] at HR2 HL2 ⊢
 clear hW2 r0 r1 r2 r3 r4 r5 r6 r7 r8 g0 g1 g2 g3 g4 g5 g6 g7 g8
 obtain ⟨⟨r0, r1, r2, r3, r4, r5, r6, r7, r8⟩, g0, g1, g2, g3, g4, g5, g6, g7, g8⟩ := nine_at HR2.out
 go_quiet (fail)
 have HR3 := Lib.hid (show (W2.drewN nq).heap[w.heap.size]? = _ from HR2.out)
 obtain ⟨nb, e0, e1, e2, e3, e4, e5, e6, e7, e8⟩ := nine_end (x0 := (.int .i64 k)) (x1 := (.string n)) (x2 := (.string d)) (x3 := (.string t)) (x4 := (.bool on)) (x5 := (.int .i64 c)) (x6 := (.int .i64 0)) (x7 := (.int .i64 0)) (x8 := (.slice A L C)) HR3.out (below_drewN HL2.out nq) (Nat.le_refl _)
 go_wp2
 refine leaves_cons (f := 33) (args := #[.pointer (some ⟨w.heap.size, 0, none⟩)]) (by simp) (by simp [go_sem]) ?_
 refine (idle_any _ _).mono ?_
 rintro e u' w3 ⟨rfl, rfl, rfl⟩
 exact ⟨_, (by simp [results, Tryz.results32, go_sem, e0, e1, e2, e3, e4, e5, e6, e7, e8]), rfl, nb⟩

end Go.Proofs.YtkghpiaoggljjaaGreatDoor.Num
