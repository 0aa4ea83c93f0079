/- Contracts of the program's functions, joined from smaller texts. Conditions stand at each theorem. -/
import Derived.Test.YtjcdeeahjkfmoaaGreatDoorNumD
import Derived.Maps.Own
import Derived.Maps.OwnOps
import Derived.Defers
import Derived.Recover
set_option maxRecDepth 100000
set_option maxHeartbeats 8000000
namespace Go.Proofs.YtjcdeeahjkfmoaaGreatDoor
namespace Num
open Go.RowKit Go.Lib
def stopped (c : Int) : Ending := .panicked [{ v := .iface 116 (.int .i64 c), recovered := false }]
theorem stop_code (c : Int) (w : World) (hc : c ≠ 0) : Calls Tryz.prog 139 #[.int .i64 c] w fun e w' => e = stopped c ∧ w' = w := by
 have h1 : (c != 0) = true := by rw [bne_iff_ne]; exact hc
 have h2 : (c == 0) = false := by rw [beq_eq_false_iff_ne]; exact hc
 clear hc
 go_enter Tryz.func139, Tryz.ntmps139
 go_wp2
 exact ⟨rfl, rfl, rfl⟩
theorem must_ok (q : Rat) (w : World) : Calls Tryz.prog 142 #[fracV q, .int .i64 0] w fun e w' => e = .returned (fracV q) ∧ Below w.heap.size w w' := by
 rw [fracV_is q]
 obtain ⟨hx, hr, hb⟩ := two_new w (.cells #[.string (numS q), .string (denS q)] 30) (.cells #[.string ⟨#[]⟩, .string ⟨#[]⟩] 30)
 have HX := hid hx
 have HR := hid hr
 have HL := hid hb
 clear hx hr hb
 go_enter Tryz.func142, Tryz.ntmps142
 obtain ⟨⟨r0, r1⟩, rf0, rf1⟩ := two_at HR.out
 obtain ⟨nb, e0, e1⟩ := frac_end (x := .string (numS q)) (y := .string (denS q)) HR.out HL.out (by omega)
 go_wp2
 first
  | exact bodyPost_ret (v := .agg #[.string (numS q), .string (denS q)]) (by simp [results, Tryz.results142, go_sem, e0, e1]) rfl ⟨rfl, nb⟩
  | exact bodyPost_ret (v := .agg #[.string (numS q), .string (denS q)]) (by simp [results, Tryz.results142, go_sem]) rfl ⟨rfl, (((Below.refl _ _).alloc (Nat.le_refl _) _).alloc (by simp) _)⟩
theorem must_num (c : Int) (w : World) (h0 : c ≠ 0) (h1 : c ≠ 1) : Calls Tryz.prog 142 #[noFrac, .int .i64 c] w fun e w' => e = stopped 5 ∧ Below w.heap.size w w' := by
 rw [noFrac_is]
 have c0 : (c == 0) = false := by rw [beq_eq_false_iff_ne]; exact h0
 have c1 : (c == 1) = false := by rw [beq_eq_false_iff_ne]; exact h1
 clear h0 h1
 obtain ⟨hx, hr, hb⟩ := two_new w (.cells #[.string ⟨#[]⟩, .string ⟨#[]⟩] 30) (.cells #[.string ⟨#[]⟩, .string ⟨#[]⟩] 30)
 have HX := hid hx
 have HR := hid hr
 have HL := hid hb
 clear hx hr hb
 go_enter Tryz.func142, Tryz.ntmps142
 go_wp2_with fail
 refine (stop_code 5 _ (by decide)).mono ?_
 rintro e w1 ⟨rfl, rfl⟩
 unfold stopped
 go_wp2
 exact ⟨rfl, rfl, HL.out⟩
end Num
namespace Num
open Go.RowKit Go.Lib
def ArgsAt (w : World) (b : Nat) (A : Option Addr) (L C n : Nat) : Prop := w.heap[b]? = some (.cells #[.slice A L C, .int .i64 (n : Int)] 146 (0, 0))
def CellsAt (w : World) (ab ao : Nat) (k n d t on c r s it : Value) : Prop :=
 w.cell? ⟨ab, ao, none⟩ = some k ∧ w.cell? ⟨ab, ao + 1, none⟩ = some n ∧ w.cell? ⟨ab, ao + 2, none⟩ = some d ∧ w.cell? ⟨ab, ao + 3, none⟩ = some t ∧ w.cell? ⟨ab, ao + 4, none⟩ = some on ∧ w.cell? ⟨ab, ao + 5, none⟩ = some c ∧ w.cell? ⟨ab, ao + 6, none⟩ = some r ∧ w.cell? ⟨ab, ao + 7, none⟩ = some s ∧ w.cell? ⟨ab, ao + 8, none⟩ = some it
theorem CellsAt.below {w w' : World} {ab ao : Nat} {k n d t on c r s it : Value} (h : CellsAt w ab ao k n d t on c r s it) (hb : Below w.heap.size w w') : CellsAt w' ab ao k n d t on c r s it := by
 obtain ⟨h0, h1, h2, h3, h4, h5, h6, h7, h8⟩ := h
 exact ⟨cell_below h0 hb, cell_below h1 hb, cell_below h2 hb, cell_below h3 hb, cell_below h4 hb, cell_below h5 hb, cell_below h6 hb, cell_below h7 hb, cell_below h8 hb⟩
theorem Tab.kept {w w' : World} {b : Nat} (h : Tab w) (hg : w.grownBy w' (some b)) (hb : 3 ≠ b) : Tab w' := by
 unfold Tab Lib.TabIs World.var? at h ⊢
 have hgl : Tryz.prog.globalNamed "internal/strconv.uint64pow10" = some 3 := by kernel_rfl
 rw [hgl] at h ⊢
 simp only [Option.bind_some] at h ⊢
 have hlt : 3 < w.heap.size := by
  rcases Nat.lt_or_ge 3 w.heap.size with h' | h'
  ·exact h'
  ·rw [Array.getElem?_eq_none h'] at h; cases h
 rw [hg.block _ hlt (fun e => hb (Option.some.inj e))]
 exact h
theorem kept_cell {w w' : World} {b : Nat} {p : Addr} {v : Value} (h : w.cell? p = some v) (hg : w.grownBy w' (some b)) (hne : p.block ≠ b) : w'.cell? p = some v := by
 have hlt := cell_lt h
 have := hg.block p.block hlt (fun e => hne (Option.some.inj e))
 simp only [World.cell?] at h ⊢
 rw [this]; exact h
theorem kept_block {w w' : World} {b k : Nat} {o : Obj} (h : w.heap[k]? = some o) (hg : w.grownBy w' (some b)) (hne : k ≠ b) : w'.heap[k]? = some o := (hg.block k (heap_lt h) (fun e => hne (Option.some.inj e))).trans h
theorem Env.kept {w w' : World} {b : Nat} (h : Env w) (hg : w.grownBy w' (some b)) (hb : Past b) : Env w' :=
 ⟨h.tab.kept hg (Nat.ne_of_lt hb.2), fun i hi => by
  have h1 := h.faults i hi
  have hl : i < faultTexts.size := hi
  rw [Array.getElem?_eq_getElem hl] at h1 ⊢
  exact kept_cell h1 hg (Nat.ne_of_lt hb.1), Nat.lt_of_lt_of_le h.room.1 hg.size, Nat.lt_of_lt_of_le h.room.2 hg.size⟩
theorem kept_below {w w' : World} {b : Nat} (hb : Below w.heap.size w w') : w.grownBy w' (some b) := only_of_below hb _
theorem kept_trans {a b c : World} {r : Nat} (h : a.grownBy b (some r)) (k : b.grownBy c (some r)) : a.grownBy c (some r) := only_trans h k
theorem CellsAt.kept {w w' : World} {ab ao b : Nat} {k n d t on c r s it : Value} (h : CellsAt w ab ao k n d t on c r s it) (hg : w.grownBy w' (some b)) (hne : ab ≠ b) : CellsAt w' ab ao k n d t on c r s it := by
 obtain ⟨h0, h1, h2, h3, h4, h5, h6, h7, h8⟩ := h
 exact ⟨kept_cell h0 hg hne, kept_cell h1 hg hne, kept_cell h2 hg hne, kept_cell h3 hg hne, kept_cell h4 hg hne, kept_cell h5 hg hne, kept_cell h6 hg hne, kept_cell h7 hg hne, kept_cell h8 hg hne⟩
theorem but_cell {W W' : World} {R : Nat} {p : Addr} {v : Value} (h : W.cell? p = some v) (ho : ∀ k, k ≠ R → W'.heap[k]? = W.heap[k]?) (hne : p.block ≠ R) : W'.cell? p = some v := by
 have := ho p.block hne
 simp only [World.cell?] at h ⊢
 rw [this]; exact h
theorem CellsAt.but {W W' : World} {ab ao R : Nat} {k n d t on c r s it : Value} (h : CellsAt W ab ao k n d t on c r s it) (ho : ∀ k, k ≠ R → W'.heap[k]? = W.heap[k]?) (hne : ab ≠ R) : CellsAt W' ab ao k n d t on c r s it := by
 obtain ⟨h0, h1, h2, h3, h4, h5, h6, h7, h8⟩ := h
 exact ⟨but_cell h0 ho hne, but_cell h1 ho hne, but_cell h2 ho hne, but_cell h3 ho hne, but_cell h4 ho hne, but_cell h5 ho hne, but_cell h6 ho hne, but_cell h7 ho hne, but_cell h8 ho hne⟩
theorem kept_set9 {w W : World} {b R : Nat} (h : w.grownBy W (some b)) (hge : w.heap.size ≤ R) (x0 x1 x2 x3 x4 x5 x6 x7 x8 : Value) : w.grownBy (((((((((W.setCell ⟨R, 0, none⟩ x0).setCell ⟨R, 1, none⟩ x1).setCell ⟨R, 2, none⟩ x2).setCell ⟨R, 3, none⟩ x3).setCell ⟨R, 4, none⟩ x4).setCell ⟨R, 5, none⟩ x5).setCell ⟨R, 6, none⟩ x6).setCell ⟨R, 7, none⟩ x7).setCell ⟨R, 8, none⟩ x8) (some b) := (only_setCell (p := ⟨R, 8, none⟩) (only_setCell (p := ⟨R, 7, none⟩) (only_setCell (p := ⟨R, 6, none⟩) (only_setCell (p := ⟨R, 5, none⟩) (only_setCell (p := ⟨R, 4, none⟩) (only_setCell (p := ⟨R, 3, none⟩) (only_setCell (p := ⟨R, 2, none⟩) (only_setCell (p := ⟨R, 1, none⟩) (only_setCell (p := ⟨R, 0, none⟩) h (.inr hge) x0) (.inr hge) x1) (.inr hge) x2) (.inr hge) x3) (.inr hge) x4) (.inr hge) x5) (.inr hge) x6) (.inr hge) x7) (.inr hge) x8)
theorem kept_drew {w W : World} {b : Nat} (h : w.grownBy W (some b)) : w.grownBy W.drew (some b) := ⟨h.os, h.tape, h.output, h.size, h.block⟩
theorem CellsAt.drew {W : World} {ab ao : Nat} {k n d t on c r s it : Value} (h : CellsAt W ab ao k n d t on c r s it) : CellsAt W.drew ab ao k n d t on c r s it := h
theorem elev {W : World} {b ab ao : Nat} {T : TypeId} {y0 y1 k n d t on c r s it : Value} (hB : W.heap[b]? = some (.cells #[y0, y1] T (0, 0))) (hC : CellsAt W ab ao k n d t on c r s it) :
  W.cell? ⟨b, 0, none⟩ = some y0 ∧ W.cell? ⟨b, 1, none⟩ = some y1 ∧ W.cell? ⟨ab, ao, none⟩ = some k ∧ W.cell? ⟨ab, ao + 1, none⟩ = some n ∧ W.cell? ⟨ab, ao + 2, none⟩ = some d ∧ W.cell? ⟨ab, ao + 3, none⟩ = some t ∧ W.cell? ⟨ab, ao + 4, none⟩ = some on ∧ W.cell? ⟨ab, ao + 5, none⟩ = some c ∧ W.cell? ⟨ab, ao + 6, none⟩ = some r ∧ W.cell? ⟨ab, ao + 7, none⟩ = some s ∧ W.cell? ⟨ab, ao + 8, none⟩ = some it :=
 ⟨Lib.cell_of_heap hB 0, Lib.cell_of_heap hB 1, hC⟩
theorem more_any (b : Nat) (A : Option Addr) (L C n : Nat) (w : World) (h : ArgsAt w b A L C n) (_ : L ≤ 1000000000) :
  Calls Tryz.prog 214 #[.pointer (some ⟨b, 0, none⟩)] w fun e w' => e = .returned (.bool (decide (n < L))) ∧ Below w.heap.size w w' := by
 have HB := hid h
 clear h
 obtain ⟨⟨x0, x1⟩, xf0, xf1⟩ := two_at HB.out
 go_enter Tryz.func214, Tryz.ntmps214
 go_wp2
 go_quiet (fail)
 go_wp2
 go_ret
 exact ⟨by first | rfl | simp, below_drewN (Below.refl _ _) _⟩
theorem value_any (b ab ao L C n : Nat) (k : Int) (nn d t : ByteArray) (on : Bool) (c r s : Int) (IA : Option Addr) (IL IC : Nat) (w : World) (h : ArgsAt w b (some ⟨ab, ao, none⟩) L C n) (hn : n < L) (hL : L ≤ 1000000000) (hne : ab ≠ b) (hc : CellsAt w ab (ao + n * 9) (.int .i64 k) (.string nn) (.string d) (.string t) (.bool on) (.int .i64 c) (.int .i64 r) (.int .i64 s) (.slice IA IL IC)) :
  Calls Tryz.prog 138 #[.pointer (some ⟨b, 0, none⟩)] w fun e w' => e = .returned (.agg #[.int .i64 k, .string nn, .string d, .string t, .bool on, .int .i64 c, .int .i64 r, .int .i64 s, .slice IA IL IC]) ∧ ArgsAt w' b (some ⟨ab, ao, none⟩) L C (n + 1) ∧ w.grownBy w' (some b) := by
 have hb : Below w.heap.size w (w.alloc (.cells #[.int .i64 0, .string ⟨#[]⟩, .string ⟨#[]⟩, .string ⟨#[]⟩, .bool false, .int .i64 0, .int .i64 0, .int .i64 0, .slice none 0 0] 32)) := (Below.refl _ _).alloc (Nat.le_refl _) _
 have TM := hid (fun W g => more_any b (some ⟨ab, ao, none⟩) L C n W g hL)
 have HB := hid (keep_block h hb)
 have hdn : decide (n < L) = true := decide_eq_true hn
 go_enter Tryz.func138, Tryz.ntmps138
 go_wp2_with fail
 refine (TM.out _ HB.out).mono ?_
 rintro e W1 ⟨rfl, hb1⟩
 rw [hdn]
 have HR := hid (keep_block (heap_alloc_new w (.cells #[.int .i64 0, .string ⟨#[]⟩, .string ⟨#[]⟩, .string ⟨#[]⟩, .bool false, .int .i64 0, .int .i64 0, .int .i64 0, .slice none 0 0] 32)) hb1)
 replace HB := hid (keep_block HB.out hb1)
 have HC := hid (hc.below (hb.trans (hb1.mono (by simp))))
 have HL := hid (hb.trans (hb1.mono (by simp)))
 have HBW := hid (heap_lt h)
 have HAB := hid (cell_lt hc.1)
 clear hb hb1 hc h
 obtain ⟨⟨x0, x1⟩, xf0, xf1⟩ := two_at HB.out
 have hnot : ∀ (x : Bool) (w : World), (Op.unary .not (.bool x)).run Tryz.prog w = .ok (.bool (!x)) w := fun _ _ => rfl
 go_wp2
 obtain ⟨W2, hW2⟩ : ∃ W2, W1.setCell ⟨b, 1, none⟩ (.int .i64 ((n : Int) + 1)) = W2 := ⟨_, rfl⟩
 have HB2 : Hid (W2.heap[b]? = some (.cells #[.slice (some ⟨ab, ao, none⟩) L C, .int .i64 ((n : Int) + 1)] 146 (0, 0))) := hid (by rw [← hW2]; exact heap_setCell_at HB.out 1 _)
 have HR2 := hid ((Below.heap_setCell W1 ⟨b, 1, none⟩ (.int .i64 ((n : Int) + 1)) w.heap.size (by have := HBW.out; simp only []; omega)).trans HR.out)
 have HC2 := hid (HC.out.kept (only_setCell (p := ⟨b, 1, none⟩) (only_refl W1 (some b)) (.inl rfl) (.int .i64 ((n : Int) + 1))) hne)
 have HG2 := hid (show w.grownBy W2 (some b) from by rw [← hW2]; exact only_setCell (only_of_below HL.out _) (.inl rfl) _)
 rw [hW2] at HR2 HC2 ⊢
 clear x0 x1 xf0 xf1 hW2
 obtain ⟨⟨x0, x1⟩, xf0, xf1⟩ := two_at HB2.out
 obtain ⟨c0, c1, c2, c3, c4, c5, c6, c7, c8⟩ := HC2.out
 obtain ⟨⟨r0, r1, r2, r3, r4, r5, r6, r7, r8⟩, g0, g1, g2, g3, g4, g5, g6, g7, g8⟩ := nine_at HR2.out
 have hsub : IntKind.i64.wrap ((n : Int) + 1 - 1) = (n : Int) := by rw [show (n : Int) + 1 - 1 = n by omega]; exact IntWalk.i64_in _ (by omega)
 have hsub2 : IntKind.i64.wrap (n : Int) = (n : Int) := IntWalk.i64_in _ (by omega)
 have hi0 : (0 : Int) ≤ (n : Int) := by omega
 have hi1 : (n : Int) < (L : Int) := by omega
 go_wp2
 have NE := hid (show ab ≠ w.heap.size ∧ b ≠ w.heap.size from ⟨by have := HAB.out; omega, by have := HBW.out; omega⟩)
 go_region_held3 (fun W => W.cell? ⟨b, 0, none⟩ = some (.slice (some ⟨ab, ao, none⟩) L C) ∧ W.cell? ⟨b, 1, none⟩ = some (.int .i64 ((n : Int) + 1)) ∧ W.cell? ⟨ab, ao + n * 9, none⟩ = some (.int .i64 k) ∧ W.cell? ⟨ab, ao + n * 9 + 1, none⟩ = some (.string nn) ∧ W.cell? ⟨ab, ao + n * 9 + 2, none⟩ = some (.string d) ∧ W.cell? ⟨ab, ao + n * 9 + 3, none⟩ = some (.string t) ∧ W.cell? ⟨ab, ao + n * 9 + 4, none⟩ = some (.bool on) ∧ W.cell? ⟨ab, ao + n * 9 + 5, none⟩ = some (.int .i64 c) ∧ W.cell? ⟨ab, ao + n * 9 + 6, none⟩ = some (.int .i64 r) ∧ W.cell? ⟨ab, ao + n * 9 + 7, none⟩ = some (.int .i64 s) ∧ W.cell? ⟨ab, ao + n * 9 + 8, none⟩ = some (.slice IA IL IC))
  (first | (with_reducible exact elev (drew_block HB2.out) HC2.out.drew) | (with_reducible exact elev (drew_block ((set9_other _ _ _ _ _ _ _ _ _ _ _ NE.out.2).trans HB2.out)) (HC2.out.but (fun k hk => set9_other _ _ _ _ _ _ _ _ _ _ _ hk) NE.out.1).drew) | fail)
  ((first | fail))
 have hF := drew_block (set9_at HR2.out (.int .i64 k) (.string nn) (.string d) (.string t) (.bool on) (.int .i64 c) (.int .i64 r) (.int .i64 s) (.slice IA IL IC))
 obtain ⟨⟨e0, e1, e2, e3, e4, e5, e6, e7, e8⟩, _⟩ := nine_at hF
 have HG3 := hid (kept_drew (kept_set9 HG2.out (Nat.le_refl _) (.int .i64 k) (.string nn) (.string d) (.string t) (.bool on) (.int .i64 c) (.int .i64 r) (.int .i64 s) (.slice IA IL IC)))
 have HB3 := hid (drew_block ((set9_other W2 w.heap.size (.int .i64 k) (.string nn) (.string d) (.string t) (.bool on) (.int .i64 c) (.int .i64 r) (.int .i64 s) (.slice IA IL IC) NE.out.2).trans HB2.out))
 clear hF
 go_wp2
 refine bodyPost_ret (v := .agg #[.int .i64 k, .string nn, .string d, .string t, .bool on, .int .i64 c, .int .i64 r, .int .i64 s, .slice IA IL IC]) (by simp [results, Tryz.results138, go_sem, e0, e1, e2, e3, e4, e5, e6, e7, e8]) rfl ⟨rfl, by unfold ArgsAt; rw [show ((n + 1 : Nat) : Int) = (n : Int) + 1 from rfl]; exact HB3.out, HG3.out⟩
end Num
namespace Num
open Go.RowKit Go.Lib
def NumCells (w : World) (ab ao : Nat) (q : Rat) : Prop := CellsAt w ab ao (.int .i64 1) (.string (numS q)) (.string (denS q)) (.string ⟨#[]⟩) (.bool false) (.int .i64 0) (.int .i64 0) (.int .i64 0) (.slice none 0 0)
end Num
namespace Num
open Go.RowKit Go.Lib Go.MapKept
theorem run_store_func {P : Program} {w : World} {a : Addr} {m : Mode} (f : Fn) (c d : Array Value) : (store a (.func f c d) m).run P w = stored P w a (.func f c d) m := run_store P w a _ m rfl
attribute [local go_sem] run_store_func
structure Row where
 name : ByteArray
 least : Int
 most : Int
 kinds : ByteArray
 num : Bool
 fn : FuncId
def RowFn (w : World) (v : Value) (r : Row) : Prop :=
 if r.num then ∃ e f, v = .func (.func 154) #[] #[.pointer (some ⟨e, 0, none⟩)] ∧ w.cell? ⟨e, 0, none⟩ = some (.func (.func 134) #[] #[.pointer (some ⟨f, 0, none⟩)]) ∧ w.cell? ⟨f, 0, none⟩ = some (.func (.func r.fn) #[] #[])
 else ∃ e, v = .func (.func 154) #[] #[.pointer (some ⟨e, 0, none⟩)] ∧ w.cell? ⟨e, 0, none⟩ = some (.func (.func r.fn) #[] #[])
def EntryAt (w : World) (x : MapEntry) (r : Row) : Prop := x.key = .string r.name ∧ ∃ v, x.val = .agg #[.int .i64 r.least, .int .i64 r.most, .string r.kinds, v] ∧ RowFn w v r
def TableAt (w : World) (b : Nat) (l : List Row) : Prop :=
 ∃ es clock, w.heap[b]? = some (.map es clock) ∧ es.size = l.length ∧ ∀ i (h : i < l.length) (h' : i < es.size), EntryAt w es[i] l[i]
theorem RowFn.mono {w w' : World} {v : Value} {r : Row} (h : RowFn w v r) (hc : ∀ (p : Addr) (x : Value), w.cell? p = some x → w'.cell? p = some x) : RowFn w' v r := by
 unfold RowFn at h ⊢
 split
 ·rename_i hn
  rw [if_pos hn] at h
  obtain ⟨e, f, h1, h2, h3⟩ := h
  exact ⟨e, f, h1, hc _ _ h2, hc _ _ h3⟩
 ·rename_i hn
  rw [if_neg hn] at h
  obtain ⟨e, h1, h2⟩ := h
  exact ⟨e, h1, hc _ _ h2⟩
theorem EntryAt.mono {w w' : World} {x : MapEntry} {r : Row} (h : EntryAt w x r) (hc : ∀ (p : Addr) (x : Value), w.cell? p = some x → w'.cell? p = some x) : EntryAt w' x r :=
 let ⟨hk, v, hv, hr⟩ := h; ⟨hk, v, hv, hr.mono hc⟩
theorem TableAt.below {w w' : World} {b : Nat} {l : List Row} (h : TableAt w b l) (hb : Below w.heap.size w w') : TableAt w' b l := by
 obtain ⟨es, clock, hm, hs, he⟩ := h
 exact ⟨es, clock, keep_block hm hb, hs, fun i hi hi' => (he i hi hi').mono fun p x hp => cell_below hp hb⟩
theorem TableAt.made (w : World) : TableAt (w.alloc (.map #[] 0)) w.heap.size [] := ⟨#[], 0, heap_alloc_new w _, rfl, fun _ hi => absurd hi (Nat.not_lt_zero _)⟩
def Fresh (s : ByteArray) (l : List Row) : Prop := ∀ r ∈ l, (s == r.name) = false
theorem findNow_fresh (s : ByteArray) : ∀ (es : List MapEntry) (i : Nat), (∀ x ∈ es, ∃ t, x.key = .string t ∧ (s == t) = false) → Instr.findNow .string (.string s) es i = some none
 | [], _, _ => rfl
 | x :: r, i, h => by
  obtain ⟨t, ht, hne⟩ := h x (List.mem_cons_self ..)
  unfold Instr.findNow
  rw [ht]
  simp only [Instr.sameNow, hne]
  exact findNow_fresh s r (i + 1) fun y hy => h y (List.mem_cons_of_mem _ hy)
theorem findNow_at (s : ByteArray) : ∀ (es : List MapEntry) (k i : Nat) (x : MapEntry), es[k]? = some x → x.key = .string s → (∀ j y, j < k → es[j]? = some y → ∃ t, y.key = .string t ∧ (s == t) = false) → Instr.findNow .string (.string s) es i = some (some (i + k, x.val))
 | [], k, _, _, h, _, _ => by simp at h
 | x :: r, 0, i, y, h, hk, _ => by
  simp at h
  subst h
  unfold Instr.findNow
  rw [hk]
  have hss : (s == s) = true := by rw [bytes_beq]
  simp only [Instr.sameNow, hss]
  rfl
 | x :: r, k + 1, i, y, h, hk, hn => by
  obtain ⟨t, ht, hne⟩ := hn 0 x (Nat.succ_pos _) rfl
  unfold Instr.findNow
  rw [ht]
  simp only [Instr.sameNow, hne]
  have := findNow_at s r k (i + 1) y (by simpa using h) hk (fun j z hj hz => hn (j + 1) z (by omega) (by simpa using hz))
  rw [this]
  congr 3
  omega
def putMap (w : World) (b : Nat) (o : Obj) : World := { w with heap := w.heap.setIfInBounds b o }
theorem putMap_cell {w : World} {b : Nat} {es es' : Array MapEntry} {k k' : Nat} (h : w.heap[b]? = some (.map es k)) (p : Addr) (x : Value) (hp : w.cell? p = some x) : (putMap w b (.map es' k')).cell? p = some x := by
 have hne : p.block ≠ b := by
  rintro rfl
  simp only [World.cell?, h] at hp
  cases hp
 have h2 := (heap_set (o' := .map es' k') h).2 p.block hne
 simp only [World.cell?, putMap] at hp ⊢
 rw [h2]; exact hp
theorem putMap_grown {w : World} {b : Nat} {o o' : Obj} (h : w.heap[b]? = some o) : w.grownBy (putMap w b o') (some b) :=
 ⟨rfl, rfl, rfl, by simp [putMap], fun i _ hne => (heap_set (o' := o') h).2 i (fun e => hne (by rw [e]))⟩
theorem TableAt.store {w : World} {b mt kt et : Nat} {l : List Row} (h : TableAt w b l) (r : Row) (v : Value) (hr : RowFn w v r) (hf : Fresh r.name l) (hm : Tryz.prog.underlying mt = some (.map kt et)) (hk : Tryz.prog.underlying kt = some .string) :
  ∃ w', (Instr.mapUpdate mt (.map (some b)) (.string r.name) (.agg #[.int .i64 r.least, .int .i64 r.most, .string r.kinds, v])).run Tryz.prog w = .ok () w' ∧ TableAt w' b (l ++ [r]) ∧ w.grownBy w' (some b) := by
 obtain ⟨es, clock, hb, hs, he⟩ := h
 have hall : ∀ x ∈ es.toList, ∃ t, x.key = .string t ∧ (r.name == t) = false := by
  intro x hx
  obtain ⟨i, hi, rfl⟩ := List.getElem_of_mem hx
  have hi' : i < es.size := by simpa using hi
  have hil : i < l.length := by omega
  have := (he i hil hi').1
  exact ⟨l[i].name, by simpa using this, hf l[i] (List.getElem_mem hil)⟩
 have hfind := findNow_fresh r.name es.toList 0 hall
 have hc : (Instr.checkKey false 10000 kt (.string r.name)).run Tryz.prog w = .ok () w := MapKept.run_checkKey (k := .string r.name) hk (by simp [IsKey]) false 9999
 refine ⟨putMap w b (.map (es.push { key := .string r.name, val := .agg #[.int .i64 r.least, .int .i64 r.most, .string r.kinds, v], born := clock }) (clock + 1)), ?_, ?_, putMap_grown hb⟩
 ·simp [Instr.mapUpdate, run_underlying hm, MapKept.run_getObj_map hb, hc, MapKept.run_findKey hk hfind, MapKept.run_setObj_map _ hb, Result.andThen, putMap]
 ·refine ⟨_, _, (heap_set hb).1, by simp [hs], fun i hi hi' => ?_⟩
  by_cases hlt : i < es.size
  ·have hil : i < l.length := by omega
   rw [Array.getElem_push_lt hlt, List.getElem_append_left hil]
   exact (he i hil hlt).mono (putMap_cell hb)
  ·have : i = es.size := by simp at hi'; omega
   subst this
   rw [Array.getElem_push_eq]
   have hl : (l ++ [r])[es.size] = r := by simp [hs]
   rw [hl]
   exact ⟨rfl, v, rfl, hr.mono (putMap_cell hb)⟩
theorem TableAt.look {w : World} {b mt kt et : Nat} {l : List Row} (h : TableAt w b l) (i : Nat) (hi : i < l.length) (hf : ∀ j (hj : j < i), (l[i].name == (l[j]'(by omega)).name) = false) (hm : Tryz.prog.underlying mt = some (.map kt et)) (hk : Tryz.prog.underlying kt = some .string) :
  ∃ v, RowFn w v l[i] ∧ (Instr.lookup mt (.map (some b)) (.string l[i].name) true).run Tryz.prog w = .ok (.tuple #[.agg #[.int .i64 l[i].least, .int .i64 l[i].most, .string l[i].kinds, v], .bool true]) w := by
 obtain ⟨es, clock, hb, hs, he⟩ := h
 have hi' : i < es.size := by omega
 obtain ⟨hkey, v, hv, hr⟩ := he i hi hi'
 refine ⟨v, hr, ?_⟩
 have hat : es.toList[i]? = some es[i] := by simp [hi']
 have hfind := findNow_at l[i].name es.toList i 0 es[i] hat hkey (fun j y hj hy => by
  have hjl : j < l.length := by omega
  have hje : j < es.size := by omega
  have hy' : es[j] = y := by simpa [hje] using hy
  exact ⟨l[j].name, by rw [← hy']; exact (he j hjl hje).1, hf j hj⟩)
 rw [Nat.zero_add, hv] at hfind
 have hc : (Instr.checkKey es.isEmpty 10000 kt (.string l[i].name)).run Tryz.prog w = .ok () w := MapKept.run_checkKey (k := .string l[i].name) hk (by simp [IsKey]) _ 9999
 simp [Instr.lookup, run_underlying hm, MapKept.run_getObj_map hb, hc, MapKept.run_findKey hk hfind, Result.andThen]
section
variable {ops : Array Oper} {rest : List Oper} {o : Oper} {a : Act} {Q : Exit → Act → World → Prop}
theorem wpList_insert_row (w : World) (hg : o.guard = none) (m x u : Operand) (t : TypeId) (hop : o.op = Op.insert t m x u ∨ o.op = Op.mapUpdate t m x u) {b kt et : Nat} {l : List Row} (hm : a.eval m = .map (some b)) (h : TableAt w b l) (r : Row) (v : Value) (hx : a.eval x = .string r.name) (hv : a.eval u = .agg #[.int .i64 r.least, .int .i64 r.most, .string r.kinds, v]) (hr : RowFn w v r) (hf : Fresh r.name l) (ht : Tryz.prog.underlying t = some (.map kt et)) (hk : Tryz.prog.underlying kt = some .string)
  (hK : ∀ w', TableAt w' b (l ++ [r]) → w.grownBy w' (some b) → wpList Tryz.prog ops Q rest (a.put o.dst undef) w') :
  wpList Tryz.prog ops Q (o :: rest) a w := by
 refine wpList_plain hg fun K' hK' => ?_
 obtain ⟨w', hrun, r1, r2⟩ := h.store r v hr hf ht hk
 unfold Oper.wp
 rcases hop with hop | hop
 ·simp [execOp, hop, hm, hx, hv, hrun, Result.andThen]
  exact hK' _ _ (hK w' r1 r2)
 ·simp [execOp, hop, hm, hx, hv, hrun, Result.andThen]
  exact hK' _ _ (hK w' r1 r2)
end
theorem entry_any (least most : Int) (kinds : ByteArray) (F : Value) (w : World) (hF : ∃ f c d, F = .func f c d) :
  Calls Tryz.prog 104 #[.int .i64 least, .int .i64 most, .string kinds, F] w fun e w' => e = .returned (.agg #[.int .i64 least, .int .i64 most, .string kinds, .func (.func 154) #[] #[.pointer (some ⟨w.heap.size, 0, none⟩)]]) ∧ w'.cell? ⟨w.heap.size, 0, none⟩ = some F ∧ Below w.heap.size w w' := by
 obtain ⟨f, c, d, rfl⟩ := hF
 have hmf : ∀ (fn : Fn) (first cap : Array Value) (w : World), (Instr.makeFunc fn first cap).run Tryz.prog w = .ok (.func fn first cap) w := fun _ _ _ _ => rfl
 go_enter Tryz.func104, Tryz.ntmps104
 go_wp2
 have hc : (((w.alloc (.cells #[.func f c d] 113)).alloc (.cells #[.int .i64 least, .int .i64 most, .string kinds, .func (.func 154) #[] #[.pointer (some ⟨w.heap.size, 0, none⟩)]] 99))).cell? ⟨w.heap.size, 0, none⟩ = some (.func f c d) :=
  Lib.cell_of_heap ((Below.heap_alloc _ _ _ (by simp)).trans (heap_alloc_new w _)) 0
 exact bodyPost_ret (v := .agg #[.int .i64 least, .int .i64 most, .string kinds, .func (.func 154) #[] #[.pointer (some ⟨w.heap.size, 0, none⟩)]]) (by simp [results, Tryz.results104, go_sem]) rfl ⟨rfl, hc, ((Below.refl _ _).alloc (Nat.le_refl _) _).alloc (by simp) _⟩
end Num
namespace Num
open Go.RowKit Go.Lib Go.MapKept
def RowRet (w : World) (r : Row) (e : Ending) (w' : World) : Prop := ∃ v, e = .returned (.agg #[.int .i64 r.least, .int .i64 r.most, .string r.kinds, v]) ∧ RowFn w' v r ∧ Below w.heap.size w w'
def Quad (W : World) (b : Nat) (x y z u : Value) : Prop :=
 (W.cell? ⟨b, 0, none⟩ = some x ∧ W.cell? ⟨b, 1, none⟩ = some y ∧ W.cell? ⟨b, 2, none⟩ = some z ∧ W.cell? ⟨b, 3, none⟩ = some u) ∧ W.frozen? ⟨b, 0, none⟩ = false ∧ W.frozen? ⟨b, 1, none⟩ = false ∧ W.frozen? ⟨b, 2, none⟩ = false ∧ W.frozen? ⟨b, 3, none⟩ = false
theorem quad_at {W : World} {b : Nat} {x y z u : Value} {T : TypeId} (h : W.heap[b]? = some (.cells #[x, y, z, u] T (0, 0))) : Quad W b x y z u :=
 ⟨⟨Lib.cell_of_heap h 0, Lib.cell_of_heap h 1, Lib.cell_of_heap h 2, Lib.cell_of_heap h 3⟩, by rw [Lib.frozen_of_heap h 0], by rw [Lib.frozen_of_heap h 1], by rw [Lib.frozen_of_heap h 2], by rw [Lib.frozen_of_heap h 3]⟩
theorem set4_at {W : World} {b : Nat} {x0 y0 z0 u0 : Value} {T : TypeId} (h : W.heap[b]? = some (.cells #[x0, y0, z0, u0] T (0, 0))) (x y z u : Value) :
  ((((W.setCell ⟨b, 0, none⟩ x).setCell ⟨b, 1, none⟩ y).setCell ⟨b, 2, none⟩ z).setCell ⟨b, 3, none⟩ u).heap[b]? = some (.cells #[x, y, z, u] T (0, 0)) := by
 have h1 := heap_setCell_at h 0 x
 have h2 := heap_setCell_at h1 1 y
 have h3 := heap_setCell_at h2 2 z
 have h4 := heap_setCell_at h3 3 u
 rw [h4]; rfl
theorem set4_other (W : World) (b : Nat) (x y z u : Value) {k : Nat} (hk : k ≠ b) : ((((W.setCell ⟨b, 0, none⟩ x).setCell ⟨b, 1, none⟩ y).setCell ⟨b, 2, none⟩ z).setCell ⟨b, 3, none⟩ u).heap[k]? = W.heap[k]? :=
 (Below.heap_setCell _ ⟨b, 3, none⟩ u k hk).trans ((Below.heap_setCell _ ⟨b, 2, none⟩ z k hk).trans ((Below.heap_setCell _ ⟨b, 1, none⟩ y k hk).trans (Below.heap_setCell W ⟨b, 0, none⟩ x k hk)))
attribute [local go_sem] run_store_func
theorem entry_row (r : Row) (hr : r.num = false) (w : World) : Calls Tryz.prog 104 #[.int .i64 r.least, .int .i64 r.most, .string r.kinds, .func (.func r.fn) #[] #[]] w (RowRet w r) :=
 (entry_any r.least r.most r.kinds _ w ⟨_, _, _, rfl⟩).mono fun e w' ⟨he, hc, hb⟩ => ⟨_, he, by unfold RowFn; rw [hr, if_neg (by decide)]; exact ⟨_, rfl, hc⟩, hb⟩
theorem num_row (r : Row) (hr : r.num = true) (w : World) : Calls Tryz.prog 74 #[.int .i64 r.least, .int .i64 r.most, .string r.kinds, .func (.func r.fn) #[] #[]] w (RowRet w r) := by
 obtain ⟨name, least, most, kinds, num, F⟩ := r
 simp only at hr
 subst hr
 have hmf : ∀ (fn : Fn) (first cap : Array Value) (w : World), (Instr.makeFunc fn first cap).run Tryz.prog w = .ok (.func fn first cap) w := fun _ _ _ _ => rfl
 obtain ⟨hx, hr, hb⟩ := two_new w (.cells #[.func (.func F) #[] #[]] 105) (.cells #[.int .i64 0, .int .i64 0, .string ⟨#[]⟩, .nilFunc] 99)
 have HX := hid hx
 have HR := hid hr
 have HL := hid hb
 have TE := hid (fun W => entry_any least most kinds (.func (.func 134) #[] #[.pointer (some ⟨w.heap.size, 0, none⟩)]) W ⟨_, _, _, rfl⟩)
 clear hx hr hb
 go_enter Tryz.func74, Tryz.ntmps74
 go_wp2_with fail
 refine (TE.out _).mono ?_
 rintro e W1 ⟨rfl, hc, hb⟩
 have HC := hid hc
 clear hc
 replace HX := hid (keep_block HX.out hb)
 replace HR := hid (keep_block HR.out hb)
 replace HL := hid (HL.out.trans (hb.mono HL.out.size))
 clear hb
 obtain ⟨⟨r0, r1, r2, r3⟩, f0, f1, f2, f3⟩ := quad_at HR.out
 go_wp2
 have hpos : ((w.alloc (.cells #[.func (.func F) #[] #[]] 105)).alloc (.cells #[.int .i64 0, .int .i64 0, .string ⟨#[]⟩, .nilFunc] 99)).heap.size = w.heap.size + 1 + 1 := by simp
 rw [hpos] at HC
 have hF := set4_at HR.out (.int .i64 least) (.int .i64 most) (.string kinds) (.func (.func 154) #[] #[.pointer (some ⟨w.heap.size + 1 + 1, 0, none⟩)])
 obtain ⟨⟨e0, e1, e2, e3⟩, _⟩ := quad_at hF
 refine bodyPost_ret (v := .agg #[.int .i64 least, .int .i64 most, .string kinds, .func (.func 154) #[] #[.pointer (some ⟨w.heap.size + 1 + 1, 0, none⟩)]]) (by simp [results, Tryz.results74, go_sem, e0, e1, e2, e3]) rfl ⟨_, rfl, ?_, ?_⟩
 ·unfold RowFn
  rw [if_pos rfl]
  refine ⟨_, _, rfl, but_cell HC.out (fun k hk => set4_other _ _ _ _ _ _ hk) (by simp only []; omega), ?_⟩
  exact but_cell (Lib.cell_of_heap HX.out 0) (fun k hk => set4_other _ _ _ _ _ _ hk) (by simp only []; omega)
 ·have hge : w.heap.size ≤ w.heap.size + 1 := Nat.le_succ _
  exact (((HL.out.setCell (p := ⟨w.heap.size + 1, 0, none⟩) hge _).setCell (p := ⟨w.heap.size + 1, 1, none⟩) hge _).setCell (p := ⟨w.heap.size + 1, 2, none⟩) hge _).setCell (p := ⟨w.heap.size + 1, 3, none⟩) hge _
theorem num_lit (name : ByteArray) (least most : Int) (kinds : ByteArray) (F : FuncId) (w : World) : Calls Tryz.prog 74 #[.int .i64 least, .int .i64 most, .string kinds, .func (.func F) #[] #[]] w fun e w' => ∃ v, e = .returned (.agg #[.int .i64 least, .int .i64 most, .string kinds, v]) ∧ RowFn w' v ⟨name, least, most, kinds, true, F⟩ ∧ Below w.heap.size w w' := num_row ⟨name, least, most, kinds, true, F⟩ rfl w
theorem entry_lit (name : ByteArray) (least most : Int) (kinds : ByteArray) (F : FuncId) (w : World) : Calls Tryz.prog 104 #[.int .i64 least, .int .i64 most, .string kinds, .func (.func F) #[] #[]] w fun e w' => ∃ v, e = .returned (.agg #[.int .i64 least, .int .i64 most, .string kinds, v]) ∧ RowFn w' v ⟨name, least, most, kinds, false, F⟩ ∧ Below w.heap.size w w' := entry_row ⟨name, least, most, kinds, false, F⟩ rfl w
def freshB (s : ByteArray) (l : List Row) : Bool := l.all fun r => !(s == r.name)
theorem fresh_of {s : ByteArray} {l : List Row} (h : freshB s l = true) : Fresh s l := by
 intro r hr
 unfold freshB at h
 have := List.all_eq_true.1 h r hr
 simpa using this
theorem below_map {w W W' : World} {b : Nat} (h : Below w.heap.size w W) (hb : w.heap.size ≤ b) (hg : W.grownBy W' (some b)) : Below w.heap.size w W' := h.trans (below_of_only hg hb h.size)
def allRows : List Row := [⟨⟨#[65, 66, 83]⟩, 1, 1, ⟨#[115]⟩, true, 75⟩,
 ⟨⟨#[83, 73, 71, 78]⟩, 1, 1, ⟨#[115]⟩, true, 78⟩,
 ⟨⟨#[73, 78, 84]⟩, 1, 1, ⟨#[115]⟩, true, 81⟩,
 ⟨⟨#[82, 79, 85, 78, 68]⟩, 2, 2, ⟨#[115]⟩, true, 83⟩,
 ⟨⟨#[82, 79, 85, 78, 68, 85, 80]⟩, 2, 2, ⟨#[115]⟩, true, 84⟩,
 ⟨⟨#[82, 79, 85, 78, 68, 68, 79, 87, 78]⟩, 2, 2, ⟨#[115]⟩, true, 86⟩,
 ⟨⟨#[84, 82, 85, 78, 67]⟩, 1, 2, ⟨#[115]⟩, true, 87⟩,
 ⟨⟨#[77, 82, 79, 85, 78, 68]⟩, 2, 2, ⟨#[115]⟩, true, 88⟩,
 ⟨⟨#[67, 69, 73, 76, 73, 78, 71]⟩, 2, 2, ⟨#[115]⟩, true, 91⟩,
 ⟨⟨#[70, 76, 79, 79, 82]⟩, 2, 2, ⟨#[115]⟩, true, 93⟩,
 ⟨⟨#[69, 86, 69, 78]⟩, 1, 1, ⟨#[115]⟩, true, 94⟩,
 ⟨⟨#[79, 68, 68]⟩, 1, 1, ⟨#[115]⟩, true, 96⟩,
 ⟨⟨#[77, 79, 68]⟩, 2, 2, ⟨#[115]⟩, true, 97⟩,
 ⟨⟨#[81, 85, 79, 84, 73, 69, 78, 84]⟩, 2, 2, ⟨#[115]⟩, true, 98⟩,
 ⟨⟨#[80, 79, 87, 69, 82]⟩, 2, 2, ⟨#[115]⟩, true, 101⟩,
 ⟨⟨#[83, 81, 82, 84]⟩, 1, 1, ⟨#[115]⟩, true, 103⟩,
 ⟨⟨#[78]⟩, 1, 1, ⟨#[115]⟩, false, 105⟩,
 ⟨⟨#[83, 85, 77]⟩, 1, 255, ⟨#[97]⟩, true, 156⟩,
 ⟨⟨#[80, 82, 79, 68, 85, 67, 84]⟩, 1, 255, ⟨#[97]⟩, true, 159⟩,
 ⟨⟨#[83, 85, 77, 83, 81]⟩, 1, 255, ⟨#[97]⟩, true, 160⟩,
 ⟨⟨#[83, 85, 77, 80, 82, 79, 68, 85, 67, 84]⟩, 1, 255, ⟨#[97]⟩, true, 161⟩,
 ⟨⟨#[83, 85, 77, 88, 50, 77, 89, 50]⟩, 2, 2, ⟨#[97]⟩, true, 162⟩,
 ⟨⟨#[83, 85, 77, 88, 50, 80, 89, 50]⟩, 2, 2, ⟨#[97]⟩, true, 165⟩,
 ⟨⟨#[83, 85, 77, 88, 77, 89, 50]⟩, 2, 2, ⟨#[97]⟩, true, 167⟩,
 ⟨⟨#[83, 69, 82, 73, 69, 83, 83, 85, 77]⟩, 4, 4, ⟨#[115, 115, 115, 97]⟩, true, 169⟩,
 ⟨⟨#[71, 67, 68]⟩, 1, 255, ⟨#[97]⟩, true, 170⟩,
 ⟨⟨#[76, 67, 77]⟩, 1, 255, ⟨#[97]⟩, true, 173⟩,
 ⟨⟨#[70, 65, 67, 84]⟩, 1, 1, ⟨#[115]⟩, true, 174⟩,
 ⟨⟨#[67, 79, 77, 66, 73, 78]⟩, 2, 2, ⟨#[115]⟩, true, 178⟩,
 ⟨⟨#[80, 69, 82, 77, 85, 84]⟩, 2, 2, ⟨#[115]⟩, true, 180⟩,
 ⟨⟨#[77, 85, 76, 84, 73, 78, 79, 77, 73, 65, 76]⟩, 1, 255, ⟨#[97]⟩, true, 181⟩,
 ⟨⟨#[83, 69, 81, 85, 69, 78, 67, 69]⟩, 1, 4, ⟨#[115]⟩, false, 182⟩,
 ⟨⟨#[77, 85, 78, 73, 84]⟩, 1, 1, ⟨#[115]⟩, false, 183⟩,
 ⟨⟨#[77, 77, 85, 76, 84]⟩, 2, 2, ⟨#[97]⟩, false, 186⟩,
 ⟨⟨#[77, 68, 69, 84, 69, 82, 77]⟩, 1, 1, ⟨#[97]⟩, true, 187⟩,
 ⟨⟨#[77, 73, 78, 86, 69, 82, 83, 69]⟩, 1, 1, ⟨#[97]⟩, false, 190⟩,
 ⟨⟨#[66, 65, 83, 69]⟩, 2, 3, ⟨#[115]⟩, false, 191⟩,
 ⟨⟨#[68, 69, 67, 73, 77, 65, 76]⟩, 2, 2, ⟨#[115]⟩, true, 192⟩,
 ⟨⟨#[82, 79, 77, 65, 78]⟩, 1, 1, ⟨#[115]⟩, false, 193⟩,
 ⟨⟨#[65, 82, 65, 66, 73, 67]⟩, 1, 1, ⟨#[115]⟩, true, 196⟩]
theorem sums_part (b : Nat) (w : World) (h : TableAt w b (allRows.take 17)) : Calls Tryz.prog 106 #[.map (some b)] w fun e w' => e = .returned (.tuple #[]) ∧ TableAt w' b (allRows.take 25) ∧ w.grownBy w' (some b) := by
 have TA := hid h
 have HL := hid (only_refl w (some b))
 clear h
 go_enter Tryz.func106, Tryz.ntmps106
 go_wp2_with fail
 refine (num_lit ⟨#[83, 85, 77]⟩ 1 255 ⟨#[97]⟩ 156 _).mono ?_
 rintro e W17 ⟨v, rfl, hr, hb⟩
 have RF := hid hr
 replace TA := hid (TA.out.below hb)
 replace HL := hid (kept_trans HL.out (kept_below hb))
 clear hr hb
 go_wp2_with (first | (refine wpList_insert_row _ rfl _ _ _ _ (.inr rfl) rfl TA.out ⟨⟨#[83, 85, 77]⟩, 1, 255, ⟨#[97]⟩, true, 156⟩ v rfl rfl RF.out (fresh_of (by kernel_rfl)) Tryz.underlying53 Tryz.underlying9 ?_; intro V17 ta hg; replace TA := hid (show TableAt V17 _ (allRows.take 18) from ta); replace HL := hid (kept_trans HL.out hg); clear ta hg RF))
 go_wp2_with fail
 refine (num_lit ⟨#[80, 82, 79, 68, 85, 67, 84]⟩ 1 255 ⟨#[97]⟩ 159 _).mono ?_
 rintro e W18 ⟨v, rfl, hr, hb⟩
 have RF := hid hr
 replace TA := hid (TA.out.below hb)
 replace HL := hid (kept_trans HL.out (kept_below hb))
 clear hr hb
 go_wp2_with (first | (refine wpList_insert_row _ rfl _ _ _ _ (.inr rfl) rfl TA.out ⟨⟨#[80, 82, 79, 68, 85, 67, 84]⟩, 1, 255, ⟨#[97]⟩, true, 159⟩ v rfl rfl RF.out (fresh_of (by kernel_rfl)) Tryz.underlying53 Tryz.underlying9 ?_; intro V18 ta hg; replace TA := hid (show TableAt V18 _ (allRows.take 19) from ta); replace HL := hid (kept_trans HL.out hg); clear ta hg RF))
 go_wp2_with fail
 refine (num_lit ⟨#[83, 85, 77, 83, 81]⟩ 1 255 ⟨#[97]⟩ 160 _).mono ?_
 rintro e W19 ⟨v, rfl, hr, hb⟩
 have RF := hid hr
 replace TA := hid (TA.out.below hb)
 replace HL := hid (kept_trans HL.out (kept_below hb))
 clear hr hb
 go_wp2_with (first | (refine wpList_insert_row _ rfl _ _ _ _ (.inr rfl) rfl TA.out ⟨⟨#[83, 85, 77, 83, 81]⟩, 1, 255, ⟨#[97]⟩, true, 160⟩ v rfl rfl RF.out (fresh_of (by kernel_rfl)) Tryz.underlying53 Tryz.underlying9 ?_; intro V19 ta hg; replace TA := hid (show TableAt V19 _ (allRows.take 20) from ta); replace HL := hid (kept_trans HL.out hg); clear ta hg RF))
 go_wp2_with fail
 refine (num_lit ⟨#[83, 85, 77, 80, 82, 79, 68, 85, 67, 84]⟩ 1 255 ⟨#[97]⟩ 161 _).mono ?_
 rintro e W20 ⟨v, rfl, hr, hb⟩
 have RF := hid hr
 replace TA := hid (TA.out.below hb)
 replace HL := hid (kept_trans HL.out (kept_below hb))
 clear hr hb
 go_wp2_with (first | (refine wpList_insert_row _ rfl _ _ _ _ (.inr rfl) rfl TA.out ⟨⟨#[83, 85, 77, 80, 82, 79, 68, 85, 67, 84]⟩, 1, 255, ⟨#[97]⟩, true, 161⟩ v rfl rfl RF.out (fresh_of (by kernel_rfl)) Tryz.underlying53 Tryz.underlying9 ?_; intro V20 ta hg; replace TA := hid (show TableAt V20 _ (allRows.take 21) from ta); replace HL := hid (kept_trans HL.out hg); clear ta hg RF))
 go_wp2_with fail
 refine (num_lit ⟨#[83, 85, 77, 88, 50, 77, 89, 50]⟩ 2 2 ⟨#[97]⟩ 162 _).mono ?_
 rintro e W21 ⟨v, rfl, hr, hb⟩
 have RF := hid hr
 replace TA := hid (TA.out.below hb)
 replace HL := hid (kept_trans HL.out (kept_below hb))
 clear hr hb
 go_wp2_with (first | (refine wpList_insert_row _ rfl _ _ _ _ (.inr rfl) rfl TA.out ⟨⟨#[83, 85, 77, 88, 50, 77, 89, 50]⟩, 2, 2, ⟨#[97]⟩, true, 162⟩ v rfl rfl RF.out (fresh_of (by kernel_rfl)) Tryz.underlying53 Tryz.underlying9 ?_; intro V21 ta hg; replace TA := hid (show TableAt V21 _ (allRows.take 22) from ta); replace HL := hid (kept_trans HL.out hg); clear ta hg RF))
 go_wp2_with fail
 refine (num_lit ⟨#[83, 85, 77, 88, 50, 80, 89, 50]⟩ 2 2 ⟨#[97]⟩ 165 _).mono ?_
 rintro e W22 ⟨v, rfl, hr, hb⟩
 have RF := hid hr
 replace TA := hid (TA.out.below hb)
 replace HL := hid (kept_trans HL.out (kept_below hb))
 clear hr hb
 go_wp2_with (first | (refine wpList_insert_row _ rfl _ _ _ _ (.inr rfl) rfl TA.out ⟨⟨#[83, 85, 77, 88, 50, 80, 89, 50]⟩, 2, 2, ⟨#[97]⟩, true, 165⟩ v rfl rfl RF.out (fresh_of (by kernel_rfl)) Tryz.underlying53 Tryz.underlying9 ?_; intro V22 ta hg; replace TA := hid (show TableAt V22 _ (allRows.take 23) from ta); replace HL := hid (kept_trans HL.out hg); clear ta hg RF))
 go_wp2_with fail
 refine (num_lit ⟨#[83, 85, 77, 88, 77, 89, 50]⟩ 2 2 ⟨#[97]⟩ 167 _).mono ?_
 rintro e W23 ⟨v, rfl, hr, hb⟩
 have RF := hid hr
 replace TA := hid (TA.out.below hb)
 replace HL := hid (kept_trans HL.out (kept_below hb))
 clear hr hb
 go_wp2_with (first | (refine wpList_insert_row _ rfl _ _ _ _ (.inr rfl) rfl TA.out ⟨⟨#[83, 85, 77, 88, 77, 89, 50]⟩, 2, 2, ⟨#[97]⟩, true, 167⟩ v rfl rfl RF.out (fresh_of (by kernel_rfl)) Tryz.underlying53 Tryz.underlying9 ?_; intro V23 ta hg; replace TA := hid (show TableAt V23 _ (allRows.take 24) from ta); replace HL := hid (kept_trans HL.out hg); clear ta hg RF))
 go_wp2_with fail
 refine (num_lit ⟨#[83, 69, 82, 73, 69, 83, 83, 85, 77]⟩ 4 4 ⟨#[115, 115, 115, 97]⟩ 169 _).mono ?_
 rintro e W24 ⟨v, rfl, hr, hb⟩
 have RF := hid hr
 replace TA := hid (TA.out.below hb)
 replace HL := hid (kept_trans HL.out (kept_below hb))
 clear hr hb
 go_wp2_with (first | (refine wpList_insert_row _ rfl _ _ _ _ (.inr rfl) rfl TA.out ⟨⟨#[83, 69, 82, 73, 69, 83, 83, 85, 77]⟩, 4, 4, ⟨#[115, 115, 115, 97]⟩, true, 169⟩ v rfl rfl RF.out (fresh_of (by kernel_rfl)) Tryz.underlying53 Tryz.underlying9 ?_; intro V24 ta hg; replace TA := hid (show TableAt V24 _ (allRows.take 25) from ta); replace HL := hid (kept_trans HL.out hg); clear ta hg RF))
 go_wp2
 go_end0
 exact ⟨rfl, TA.out, HL.out⟩
theorem counts_part (b : Nat) (w : World) (h : TableAt w b (allRows.take 25)) : Calls Tryz.prog 107 #[.map (some b)] w fun e w' => e = .returned (.tuple #[]) ∧ TableAt w' b (allRows.take 31) ∧ w.grownBy w' (some b) := by
 have TA := hid h
 have HL := hid (only_refl w (some b))
 clear h
 go_enter Tryz.func107, Tryz.ntmps107
 go_wp2_with fail
 refine (num_lit ⟨#[71, 67, 68]⟩ 1 255 ⟨#[97]⟩ 170 _).mono ?_
 rintro e W25 ⟨v, rfl, hr, hb⟩
 have RF := hid hr
 replace TA := hid (TA.out.below hb)
 replace HL := hid (kept_trans HL.out (kept_below hb))
 clear hr hb
 go_wp2_with (first | (refine wpList_insert_row _ rfl _ _ _ _ (.inr rfl) rfl TA.out ⟨⟨#[71, 67, 68]⟩, 1, 255, ⟨#[97]⟩, true, 170⟩ v rfl rfl RF.out (fresh_of (by kernel_rfl)) Tryz.underlying53 Tryz.underlying9 ?_; intro V25 ta hg; replace TA := hid (show TableAt V25 _ (allRows.take 26) from ta); replace HL := hid (kept_trans HL.out hg); clear ta hg RF))
 go_wp2_with fail
 refine (num_lit ⟨#[76, 67, 77]⟩ 1 255 ⟨#[97]⟩ 173 _).mono ?_
 rintro e W26 ⟨v, rfl, hr, hb⟩
 have RF := hid hr
 replace TA := hid (TA.out.below hb)
 replace HL := hid (kept_trans HL.out (kept_below hb))
 clear hr hb
 go_wp2_with (first | (refine wpList_insert_row _ rfl _ _ _ _ (.inr rfl) rfl TA.out ⟨⟨#[76, 67, 77]⟩, 1, 255, ⟨#[97]⟩, true, 173⟩ v rfl rfl RF.out (fresh_of (by kernel_rfl)) Tryz.underlying53 Tryz.underlying9 ?_; intro V26 ta hg; replace TA := hid (show TableAt V26 _ (allRows.take 27) from ta); replace HL := hid (kept_trans HL.out hg); clear ta hg RF))
 go_wp2_with fail
 refine (num_lit ⟨#[70, 65, 67, 84]⟩ 1 1 ⟨#[115]⟩ 174 _).mono ?_
 rintro e W27 ⟨v, rfl, hr, hb⟩
 have RF := hid hr
 replace TA := hid (TA.out.below hb)
 replace HL := hid (kept_trans HL.out (kept_below hb))
 clear hr hb
 go_wp2_with (first | (refine wpList_insert_row _ rfl _ _ _ _ (.inr rfl) rfl TA.out ⟨⟨#[70, 65, 67, 84]⟩, 1, 1, ⟨#[115]⟩, true, 174⟩ v rfl rfl RF.out (fresh_of (by kernel_rfl)) Tryz.underlying53 Tryz.underlying9 ?_; intro V27 ta hg; replace TA := hid (show TableAt V27 _ (allRows.take 28) from ta); replace HL := hid (kept_trans HL.out hg); clear ta hg RF))
 go_wp2_with fail
 refine (num_lit ⟨#[67, 79, 77, 66, 73, 78]⟩ 2 2 ⟨#[115]⟩ 178 _).mono ?_
 rintro e W28 ⟨v, rfl, hr, hb⟩
 have RF := hid hr
 replace TA := hid (TA.out.below hb)
 replace HL := hid (kept_trans HL.out (kept_below hb))
 clear hr hb
 go_wp2_with (first | (refine wpList_insert_row _ rfl _ _ _ _ (.inr rfl) rfl TA.out ⟨⟨#[67, 79, 77, 66, 73, 78]⟩, 2, 2, ⟨#[115]⟩, true, 178⟩ v rfl rfl RF.out (fresh_of (by kernel_rfl)) Tryz.underlying53 Tryz.underlying9 ?_; intro V28 ta hg; replace TA := hid (show TableAt V28 _ (allRows.take 29) from ta); replace HL := hid (kept_trans HL.out hg); clear ta hg RF))
 go_wp2_with fail
 refine (num_lit ⟨#[80, 69, 82, 77, 85, 84]⟩ 2 2 ⟨#[115]⟩ 180 _).mono ?_
 rintro e W29 ⟨v, rfl, hr, hb⟩
 have RF := hid hr
 replace TA := hid (TA.out.below hb)
 replace HL := hid (kept_trans HL.out (kept_below hb))
 clear hr hb
 go_wp2_with (first | (refine wpList_insert_row _ rfl _ _ _ _ (.inr rfl) rfl TA.out ⟨⟨#[80, 69, 82, 77, 85, 84]⟩, 2, 2, ⟨#[115]⟩, true, 180⟩ v rfl rfl RF.out (fresh_of (by kernel_rfl)) Tryz.underlying53 Tryz.underlying9 ?_; intro V29 ta hg; replace TA := hid (show TableAt V29 _ (allRows.take 30) from ta); replace HL := hid (kept_trans HL.out hg); clear ta hg RF))
 go_wp2_with fail
 refine (num_lit ⟨#[77, 85, 76, 84, 73, 78, 79, 77, 73, 65, 76]⟩ 1 255 ⟨#[97]⟩ 181 _).mono ?_
 rintro e W30 ⟨v, rfl, hr, hb⟩
 have RF := hid hr
 replace TA := hid (TA.out.below hb)
 replace HL := hid (kept_trans HL.out (kept_below hb))
 clear hr hb
 go_wp2_with (first | (refine wpList_insert_row _ rfl _ _ _ _ (.inr rfl) rfl TA.out ⟨⟨#[77, 85, 76, 84, 73, 78, 79, 77, 73, 65, 76]⟩, 1, 255, ⟨#[97]⟩, true, 181⟩ v rfl rfl RF.out (fresh_of (by kernel_rfl)) Tryz.underlying53 Tryz.underlying9 ?_; intro V30 ta hg; replace TA := hid (show TableAt V30 _ (allRows.take 31) from ta); replace HL := hid (kept_trans HL.out hg); clear ta hg RF))
 go_wp2
 go_end0
 exact ⟨rfl, TA.out, HL.out⟩
theorem matrices_part (b : Nat) (w : World) (h : TableAt w b (allRows.take 31)) : Calls Tryz.prog 108 #[.map (some b)] w fun e w' => e = .returned (.tuple #[]) ∧ TableAt w' b (allRows.take 36) ∧ w.grownBy w' (some b) := by
 have TA := hid h
 have HL := hid (only_refl w (some b))
 clear h
 go_enter Tryz.func108, Tryz.ntmps108
 go_wp2_with fail
 refine (entry_lit ⟨#[83, 69, 81, 85, 69, 78, 67, 69]⟩ 1 4 ⟨#[115]⟩ 182 _).mono ?_
 rintro e W31 ⟨v, rfl, hr, hb⟩
 have RF := hid hr
 replace TA := hid (TA.out.below hb)
 replace HL := hid (kept_trans HL.out (kept_below hb))
 clear hr hb
 go_wp2_with (first | (refine wpList_insert_row _ rfl _ _ _ _ (.inr rfl) rfl TA.out ⟨⟨#[83, 69, 81, 85, 69, 78, 67, 69]⟩, 1, 4, ⟨#[115]⟩, false, 182⟩ v rfl rfl RF.out (fresh_of (by kernel_rfl)) Tryz.underlying53 Tryz.underlying9 ?_; intro V31 ta hg; replace TA := hid (show TableAt V31 _ (allRows.take 32) from ta); replace HL := hid (kept_trans HL.out hg); clear ta hg RF))
 go_wp2_with fail
 refine (entry_lit ⟨#[77, 85, 78, 73, 84]⟩ 1 1 ⟨#[115]⟩ 183 _).mono ?_
 rintro e W32 ⟨v, rfl, hr, hb⟩
 have RF := hid hr
 replace TA := hid (TA.out.below hb)
 replace HL := hid (kept_trans HL.out (kept_below hb))
 clear hr hb
 go_wp2_with (first | (refine wpList_insert_row _ rfl _ _ _ _ (.inr rfl) rfl TA.out ⟨⟨#[77, 85, 78, 73, 84]⟩, 1, 1, ⟨#[115]⟩, false, 183⟩ v rfl rfl RF.out (fresh_of (by kernel_rfl)) Tryz.underlying53 Tryz.underlying9 ?_; intro V32 ta hg; replace TA := hid (show TableAt V32 _ (allRows.take 33) from ta); replace HL := hid (kept_trans HL.out hg); clear ta hg RF))
 go_wp2_with fail
 refine (entry_lit ⟨#[77, 77, 85, 76, 84]⟩ 2 2 ⟨#[97]⟩ 186 _).mono ?_
 rintro e W33 ⟨v, rfl, hr, hb⟩
 have RF := hid hr
 replace TA := hid (TA.out.below hb)
 replace HL := hid (kept_trans HL.out (kept_below hb))
 clear hr hb
 go_wp2_with (first | (refine wpList_insert_row _ rfl _ _ _ _ (.inr rfl) rfl TA.out ⟨⟨#[77, 77, 85, 76, 84]⟩, 2, 2, ⟨#[97]⟩, false, 186⟩ v rfl rfl RF.out (fresh_of (by kernel_rfl)) Tryz.underlying53 Tryz.underlying9 ?_; intro V33 ta hg; replace TA := hid (show TableAt V33 _ (allRows.take 34) from ta); replace HL := hid (kept_trans HL.out hg); clear ta hg RF))
 go_wp2_with fail
 refine (num_lit ⟨#[77, 68, 69, 84, 69, 82, 77]⟩ 1 1 ⟨#[97]⟩ 187 _).mono ?_
 rintro e W34 ⟨v, rfl, hr, hb⟩
 have RF := hid hr
 replace TA := hid (TA.out.below hb)
 replace HL := hid (kept_trans HL.out (kept_below hb))
 clear hr hb
 go_wp2_with (first | (refine wpList_insert_row _ rfl _ _ _ _ (.inr rfl) rfl TA.out ⟨⟨#[77, 68, 69, 84, 69, 82, 77]⟩, 1, 1, ⟨#[97]⟩, true, 187⟩ v rfl rfl RF.out (fresh_of (by kernel_rfl)) Tryz.underlying53 Tryz.underlying9 ?_; intro V34 ta hg; replace TA := hid (show TableAt V34 _ (allRows.take 35) from ta); replace HL := hid (kept_trans HL.out hg); clear ta hg RF))
 go_wp2_with fail
 refine (entry_lit ⟨#[77, 73, 78, 86, 69, 82, 83, 69]⟩ 1 1 ⟨#[97]⟩ 190 _).mono ?_
 rintro e W35 ⟨v, rfl, hr, hb⟩
 have RF := hid hr
 replace TA := hid (TA.out.below hb)
 replace HL := hid (kept_trans HL.out (kept_below hb))
 clear hr hb
 go_wp2_with (first | (refine wpList_insert_row _ rfl _ _ _ _ (.inr rfl) rfl TA.out ⟨⟨#[77, 73, 78, 86, 69, 82, 83, 69]⟩, 1, 1, ⟨#[97]⟩, false, 190⟩ v rfl rfl RF.out (fresh_of (by kernel_rfl)) Tryz.underlying53 Tryz.underlying9 ?_; intro V35 ta hg; replace TA := hid (show TableAt V35 _ (allRows.take 36) from ta); replace HL := hid (kept_trans HL.out hg); clear ta hg RF))
 go_wp2
 go_end0
 exact ⟨rfl, TA.out, HL.out⟩
theorem texts_part (b : Nat) (w : World) (h : TableAt w b (allRows.take 36)) : Calls Tryz.prog 109 #[.map (some b)] w fun e w' => e = .returned (.tuple #[]) ∧ TableAt w' b (allRows.take 40) ∧ w.grownBy w' (some b) := by
 have TA := hid h
 have HL := hid (only_refl w (some b))
 clear h
 go_enter Tryz.func109, Tryz.ntmps109
 go_wp2_with fail
 refine (entry_lit ⟨#[66, 65, 83, 69]⟩ 2 3 ⟨#[115]⟩ 191 _).mono ?_
 rintro e W36 ⟨v, rfl, hr, hb⟩
 have RF := hid hr
 replace TA := hid (TA.out.below hb)
 replace HL := hid (kept_trans HL.out (kept_below hb))
 clear hr hb
 go_wp2_with (first | (refine wpList_insert_row _ rfl _ _ _ _ (.inr rfl) rfl TA.out ⟨⟨#[66, 65, 83, 69]⟩, 2, 3, ⟨#[115]⟩, false, 191⟩ v rfl rfl RF.out (fresh_of (by kernel_rfl)) Tryz.underlying53 Tryz.underlying9 ?_; intro V36 ta hg; replace TA := hid (show TableAt V36 _ (allRows.take 37) from ta); replace HL := hid (kept_trans HL.out hg); clear ta hg RF))
 go_wp2_with fail
 refine (num_lit ⟨#[68, 69, 67, 73, 77, 65, 76]⟩ 2 2 ⟨#[115]⟩ 192 _).mono ?_
 rintro e W37 ⟨v, rfl, hr, hb⟩
 have RF := hid hr
 replace TA := hid (TA.out.below hb)
 replace HL := hid (kept_trans HL.out (kept_below hb))
 clear hr hb
 go_wp2_with (first | (refine wpList_insert_row _ rfl _ _ _ _ (.inr rfl) rfl TA.out ⟨⟨#[68, 69, 67, 73, 77, 65, 76]⟩, 2, 2, ⟨#[115]⟩, true, 192⟩ v rfl rfl RF.out (fresh_of (by kernel_rfl)) Tryz.underlying53 Tryz.underlying9 ?_; intro V37 ta hg; replace TA := hid (show TableAt V37 _ (allRows.take 38) from ta); replace HL := hid (kept_trans HL.out hg); clear ta hg RF))
 go_wp2_with fail
 refine (entry_lit ⟨#[82, 79, 77, 65, 78]⟩ 1 1 ⟨#[115]⟩ 193 _).mono ?_
 rintro e W38 ⟨v, rfl, hr, hb⟩
 have RF := hid hr
 replace TA := hid (TA.out.below hb)
 replace HL := hid (kept_trans HL.out (kept_below hb))
 clear hr hb
 go_wp2_with (first | (refine wpList_insert_row _ rfl _ _ _ _ (.inr rfl) rfl TA.out ⟨⟨#[82, 79, 77, 65, 78]⟩, 1, 1, ⟨#[115]⟩, false, 193⟩ v rfl rfl RF.out (fresh_of (by kernel_rfl)) Tryz.underlying53 Tryz.underlying9 ?_; intro V38 ta hg; replace TA := hid (show TableAt V38 _ (allRows.take 39) from ta); replace HL := hid (kept_trans HL.out hg); clear ta hg RF))
 go_wp2_with fail
 refine (num_lit ⟨#[65, 82, 65, 66, 73, 67]⟩ 1 1 ⟨#[115]⟩ 196 _).mono ?_
 rintro e W39 ⟨v, rfl, hr, hb⟩
 have RF := hid hr
 replace TA := hid (TA.out.below hb)
 replace HL := hid (kept_trans HL.out (kept_below hb))
 clear hr hb
 go_wp2_with (first | (refine wpList_insert_row _ rfl _ _ _ _ (.inr rfl) rfl TA.out ⟨⟨#[65, 82, 65, 66, 73, 67]⟩, 1, 1, ⟨#[115]⟩, true, 196⟩ v rfl rfl RF.out (fresh_of (by kernel_rfl)) Tryz.underlying53 Tryz.underlying9 ?_; intro V39 ta hg; replace TA := hid (show TableAt V39 _ (allRows.take 40) from ta); replace HL := hid (kept_trans HL.out hg); clear ta hg RF))
 go_wp2
 go_end0
 exact ⟨rfl, TA.out, HL.out⟩
theorem table_any (w : World) : Calls Tryz.prog 26 #[] w fun e w' => ∃ b, e = .returned (.map (some b)) ∧ TableAt w' b allRows ∧ Below w.heap.size w w' := by
 have hmm := @run_makeMap Tryz.prog
 have TA := hid (show TableAt (w.alloc (.map #[] 0)) w.heap.size (allRows.take 0) from TableAt.made w)
 have HL := hid (show Below w.heap.size w (w.alloc (.map #[] 0)) from (Below.refl _ _).alloc (Nat.le_refl _) _)
 go_enter Tryz.func26, Tryz.ntmps26
 go_wp2_with fail
 refine (num_lit ⟨#[65, 66, 83]⟩ 1 1 ⟨#[115]⟩ 75 _).mono ?_
 rintro e W0 ⟨v, rfl, hr, hb⟩
 have RF := hid hr
 replace TA := hid (TA.out.below hb)
 replace HL := hid (HL.out.trans (hb.mono HL.out.size))
 clear hr hb
 go_wp2_with (first | (refine wpList_insert_row _ rfl _ _ _ _ (.inl rfl) rfl TA.out ⟨⟨#[65, 66, 83]⟩, 1, 1, ⟨#[115]⟩, true, 75⟩ v rfl rfl RF.out (fresh_of (by kernel_rfl)) Tryz.underlying53 Tryz.underlying9 ?_; intro V0 ta hg; replace TA := hid (show TableAt V0 _ (allRows.take 1) from ta); replace HL := hid (below_map HL.out (Nat.le_refl _) hg); clear ta hg RF))
 go_wp2_with fail
 refine (num_lit ⟨#[83, 73, 71, 78]⟩ 1 1 ⟨#[115]⟩ 78 _).mono ?_
 rintro e W1 ⟨v, rfl, hr, hb⟩
 have RF := hid hr
 replace TA := hid (TA.out.below hb)
 replace HL := hid (HL.out.trans (hb.mono HL.out.size))
 clear hr hb
 go_wp2_with (first | (refine wpList_insert_row _ rfl _ _ _ _ (.inl rfl) rfl TA.out ⟨⟨#[83, 73, 71, 78]⟩, 1, 1, ⟨#[115]⟩, true, 78⟩ v rfl rfl RF.out (fresh_of (by kernel_rfl)) Tryz.underlying53 Tryz.underlying9 ?_; intro V1 ta hg; replace TA := hid (show TableAt V1 _ (allRows.take 2) from ta); replace HL := hid (below_map HL.out (Nat.le_refl _) hg); clear ta hg RF))
 go_wp2_with fail
 refine (num_lit ⟨#[73, 78, 84]⟩ 1 1 ⟨#[115]⟩ 81 _).mono ?_
 rintro e W2 ⟨v, rfl, hr, hb⟩
 have RF := hid hr
 replace TA := hid (TA.out.below hb)
 replace HL := hid (HL.out.trans (hb.mono HL.out.size))
 clear hr hb
 go_wp2_with (first | (refine wpList_insert_row _ rfl _ _ _ _ (.inl rfl) rfl TA.out ⟨⟨#[73, 78, 84]⟩, 1, 1, ⟨#[115]⟩, true, 81⟩ v rfl rfl RF.out (fresh_of (by kernel_rfl)) Tryz.underlying53 Tryz.underlying9 ?_; intro V2 ta hg; replace TA := hid (show TableAt V2 _ (allRows.take 3) from ta); replace HL := hid (below_map HL.out (Nat.le_refl _) hg); clear ta hg RF))
 go_wp2_with fail
 refine (num_lit ⟨#[82, 79, 85, 78, 68]⟩ 2 2 ⟨#[115]⟩ 83 _).mono ?_
 rintro e W3 ⟨v, rfl, hr, hb⟩
 have RF := hid hr
 replace TA := hid (TA.out.below hb)
 replace HL := hid (HL.out.trans (hb.mono HL.out.size))
 clear hr hb
 go_wp2_with (first | (refine wpList_insert_row _ rfl _ _ _ _ (.inl rfl) rfl TA.out ⟨⟨#[82, 79, 85, 78, 68]⟩, 2, 2, ⟨#[115]⟩, true, 83⟩ v rfl rfl RF.out (fresh_of (by kernel_rfl)) Tryz.underlying53 Tryz.underlying9 ?_; intro V3 ta hg; replace TA := hid (show TableAt V3 _ (allRows.take 4) from ta); replace HL := hid (below_map HL.out (Nat.le_refl _) hg); clear ta hg RF))
 go_wp2_with fail
 refine (num_lit ⟨#[82, 79, 85, 78, 68, 85, 80]⟩ 2 2 ⟨#[115]⟩ 84 _).mono ?_
 rintro e W4 ⟨v, rfl, hr, hb⟩
 have RF := hid hr
 replace TA := hid (TA.out.below hb)
 replace HL := hid (HL.out.trans (hb.mono HL.out.size))
 clear hr hb
 go_wp2_with (first | (refine wpList_insert_row _ rfl _ _ _ _ (.inl rfl) rfl TA.out ⟨⟨#[82, 79, 85, 78, 68, 85, 80]⟩, 2, 2, ⟨#[115]⟩, true, 84⟩ v rfl rfl RF.out (fresh_of (by kernel_rfl)) Tryz.underlying53 Tryz.underlying9 ?_; intro V4 ta hg; replace TA := hid (show TableAt V4 _ (allRows.take 5) from ta); replace HL := hid (below_map HL.out (Nat.le_refl _) hg); clear ta hg RF))
 go_wp2_with fail
 refine (num_lit ⟨#[82, 79, 85, 78, 68, 68, 79, 87, 78]⟩ 2 2 ⟨#[115]⟩ 86 _).mono ?_
 rintro e W5 ⟨v, rfl, hr, hb⟩
 have RF := hid hr
 replace TA := hid (TA.out.below hb)
 replace HL := hid (HL.out.trans (hb.mono HL.out.size))
 clear hr hb
 go_wp2_with (first | (refine wpList_insert_row _ rfl _ _ _ _ (.inl rfl) rfl TA.out ⟨⟨#[82, 79, 85, 78, 68, 68, 79, 87, 78]⟩, 2, 2, ⟨#[115]⟩, true, 86⟩ v rfl rfl RF.out (fresh_of (by kernel_rfl)) Tryz.underlying53 Tryz.underlying9 ?_; intro V5 ta hg; replace TA := hid (show TableAt V5 _ (allRows.take 6) from ta); replace HL := hid (below_map HL.out (Nat.le_refl _) hg); clear ta hg RF))
 go_wp2_with fail
 refine (num_lit ⟨#[84, 82, 85, 78, 67]⟩ 1 2 ⟨#[115]⟩ 87 _).mono ?_
 rintro e W6 ⟨v, rfl, hr, hb⟩
 have RF := hid hr
 replace TA := hid (TA.out.below hb)
 replace HL := hid (HL.out.trans (hb.mono HL.out.size))
 clear hr hb
 go_wp2_with (first | (refine wpList_insert_row _ rfl _ _ _ _ (.inl rfl) rfl TA.out ⟨⟨#[84, 82, 85, 78, 67]⟩, 1, 2, ⟨#[115]⟩, true, 87⟩ v rfl rfl RF.out (fresh_of (by kernel_rfl)) Tryz.underlying53 Tryz.underlying9 ?_; intro V6 ta hg; replace TA := hid (show TableAt V6 _ (allRows.take 7) from ta); replace HL := hid (below_map HL.out (Nat.le_refl _) hg); clear ta hg RF))
 go_wp2_with fail
 refine (num_lit ⟨#[77, 82, 79, 85, 78, 68]⟩ 2 2 ⟨#[115]⟩ 88 _).mono ?_
 rintro e W7 ⟨v, rfl, hr, hb⟩
 have RF := hid hr
 replace TA := hid (TA.out.below hb)
 replace HL := hid (HL.out.trans (hb.mono HL.out.size))
 clear hr hb
 go_wp2_with (first | (refine wpList_insert_row _ rfl _ _ _ _ (.inl rfl) rfl TA.out ⟨⟨#[77, 82, 79, 85, 78, 68]⟩, 2, 2, ⟨#[115]⟩, true, 88⟩ v rfl rfl RF.out (fresh_of (by kernel_rfl)) Tryz.underlying53 Tryz.underlying9 ?_; intro V7 ta hg; replace TA := hid (show TableAt V7 _ (allRows.take 8) from ta); replace HL := hid (below_map HL.out (Nat.le_refl _) hg); clear ta hg RF))
 go_wp2_with fail
 refine (num_lit ⟨#[67, 69, 73, 76, 73, 78, 71]⟩ 2 2 ⟨#[115]⟩ 91 _).mono ?_
 rintro e W8 ⟨v, rfl, hr, hb⟩
 have RF := hid hr
 replace TA := hid (TA.out.below hb)
 replace HL := hid (HL.out.trans (hb.mono HL.out.size))
 clear hr hb
 go_wp2_with (first | (refine wpList_insert_row _ rfl _ _ _ _ (.inl rfl) rfl TA.out ⟨⟨#[67, 69, 73, 76, 73, 78, 71]⟩, 2, 2, ⟨#[115]⟩, true, 91⟩ v rfl rfl RF.out (fresh_of (by kernel_rfl)) Tryz.underlying53 Tryz.underlying9 ?_; intro V8 ta hg; replace TA := hid (show TableAt V8 _ (allRows.take 9) from ta); replace HL := hid (below_map HL.out (Nat.le_refl _) hg); clear ta hg RF))
 go_wp2_with fail
 refine (num_lit ⟨#[70, 76, 79, 79, 82]⟩ 2 2 ⟨#[115]⟩ 93 _).mono ?_
 rintro e W9 ⟨v, rfl, hr, hb⟩
 have RF := hid hr
 replace TA := hid (TA.out.below hb)
 replace HL := hid (HL.out.trans (hb.mono HL.out.size))
 clear hr hb
 go_wp2_with (first | (refine wpList_insert_row _ rfl _ _ _ _ (.inl rfl) rfl TA.out ⟨⟨#[70, 76, 79, 79, 82]⟩, 2, 2, ⟨#[115]⟩, true, 93⟩ v rfl rfl RF.out (fresh_of (by kernel_rfl)) Tryz.underlying53 Tryz.underlying9 ?_; intro V9 ta hg; replace TA := hid (show TableAt V9 _ (allRows.take 10) from ta); replace HL := hid (below_map HL.out (Nat.le_refl _) hg); clear ta hg RF))
 go_wp2_with fail
 refine (num_lit ⟨#[69, 86, 69, 78]⟩ 1 1 ⟨#[115]⟩ 94 _).mono ?_
 rintro e W10 ⟨v, rfl, hr, hb⟩
 have RF := hid hr
 replace TA := hid (TA.out.below hb)
 replace HL := hid (HL.out.trans (hb.mono HL.out.size))
 clear hr hb
 go_wp2_with (first | (refine wpList_insert_row _ rfl _ _ _ _ (.inl rfl) rfl TA.out ⟨⟨#[69, 86, 69, 78]⟩, 1, 1, ⟨#[115]⟩, true, 94⟩ v rfl rfl RF.out (fresh_of (by kernel_rfl)) Tryz.underlying53 Tryz.underlying9 ?_; intro V10 ta hg; replace TA := hid (show TableAt V10 _ (allRows.take 11) from ta); replace HL := hid (below_map HL.out (Nat.le_refl _) hg); clear ta hg RF))
 go_wp2_with fail
 refine (num_lit ⟨#[79, 68, 68]⟩ 1 1 ⟨#[115]⟩ 96 _).mono ?_
 rintro e W11 ⟨v, rfl, hr, hb⟩
 have RF := hid hr
 replace TA := hid (TA.out.below hb)
 replace HL := hid (HL.out.trans (hb.mono HL.out.size))
 clear hr hb
 go_wp2_with (first | (refine wpList_insert_row _ rfl _ _ _ _ (.inl rfl) rfl TA.out ⟨⟨#[79, 68, 68]⟩, 1, 1, ⟨#[115]⟩, true, 96⟩ v rfl rfl RF.out (fresh_of (by kernel_rfl)) Tryz.underlying53 Tryz.underlying9 ?_; intro V11 ta hg; replace TA := hid (show TableAt V11 _ (allRows.take 12) from ta); replace HL := hid (below_map HL.out (Nat.le_refl _) hg); clear ta hg RF))
 go_wp2_with fail
 refine (num_lit ⟨#[77, 79, 68]⟩ 2 2 ⟨#[115]⟩ 97 _).mono ?_
 rintro e W12 ⟨v, rfl, hr, hb⟩
 have RF := hid hr
 replace TA := hid (TA.out.below hb)
 replace HL := hid (HL.out.trans (hb.mono HL.out.size))
 clear hr hb
 go_wp2_with (first | (refine wpList_insert_row _ rfl _ _ _ _ (.inl rfl) rfl TA.out ⟨⟨#[77, 79, 68]⟩, 2, 2, ⟨#[115]⟩, true, 97⟩ v rfl rfl RF.out (fresh_of (by kernel_rfl)) Tryz.underlying53 Tryz.underlying9 ?_; intro V12 ta hg; replace TA := hid (show TableAt V12 _ (allRows.take 13) from ta); replace HL := hid (below_map HL.out (Nat.le_refl _) hg); clear ta hg RF))
 go_wp2_with fail
 refine (num_lit ⟨#[81, 85, 79, 84, 73, 69, 78, 84]⟩ 2 2 ⟨#[115]⟩ 98 _).mono ?_
 rintro e W13 ⟨v, rfl, hr, hb⟩
 have RF := hid hr
 replace TA := hid (TA.out.below hb)
 replace HL := hid (HL.out.trans (hb.mono HL.out.size))
 clear hr hb
 go_wp2_with (first | (refine wpList_insert_row _ rfl _ _ _ _ (.inl rfl) rfl TA.out ⟨⟨#[81, 85, 79, 84, 73, 69, 78, 84]⟩, 2, 2, ⟨#[115]⟩, true, 98⟩ v rfl rfl RF.out (fresh_of (by kernel_rfl)) Tryz.underlying53 Tryz.underlying9 ?_; intro V13 ta hg; replace TA := hid (show TableAt V13 _ (allRows.take 14) from ta); replace HL := hid (below_map HL.out (Nat.le_refl _) hg); clear ta hg RF))
 go_wp2_with fail
 refine (num_lit ⟨#[80, 79, 87, 69, 82]⟩ 2 2 ⟨#[115]⟩ 101 _).mono ?_
 rintro e W14 ⟨v, rfl, hr, hb⟩
 have RF := hid hr
 replace TA := hid (TA.out.below hb)
 replace HL := hid (HL.out.trans (hb.mono HL.out.size))
 clear hr hb
 go_wp2_with (first | (refine wpList_insert_row _ rfl _ _ _ _ (.inl rfl) rfl TA.out ⟨⟨#[80, 79, 87, 69, 82]⟩, 2, 2, ⟨#[115]⟩, true, 101⟩ v rfl rfl RF.out (fresh_of (by kernel_rfl)) Tryz.underlying53 Tryz.underlying9 ?_; intro V14 ta hg; replace TA := hid (show TableAt V14 _ (allRows.take 15) from ta); replace HL := hid (below_map HL.out (Nat.le_refl _) hg); clear ta hg RF))
 go_wp2_with fail
 refine (num_lit ⟨#[83, 81, 82, 84]⟩ 1 1 ⟨#[115]⟩ 103 _).mono ?_
 rintro e W15 ⟨v, rfl, hr, hb⟩
 have RF := hid hr
 replace TA := hid (TA.out.below hb)
 replace HL := hid (HL.out.trans (hb.mono HL.out.size))
 clear hr hb
 go_wp2_with (first | (refine wpList_insert_row _ rfl _ _ _ _ (.inl rfl) rfl TA.out ⟨⟨#[83, 81, 82, 84]⟩, 1, 1, ⟨#[115]⟩, true, 103⟩ v rfl rfl RF.out (fresh_of (by kernel_rfl)) Tryz.underlying53 Tryz.underlying9 ?_; intro V15 ta hg; replace TA := hid (show TableAt V15 _ (allRows.take 16) from ta); replace HL := hid (below_map HL.out (Nat.le_refl _) hg); clear ta hg RF))
 go_wp2_with fail
 refine (entry_lit ⟨#[78]⟩ 1 1 ⟨#[115]⟩ 105 _).mono ?_
 rintro e W16 ⟨v, rfl, hr, hb⟩
 have RF := hid hr
 replace TA := hid (TA.out.below hb)
 replace HL := hid (HL.out.trans (hb.mono HL.out.size))
 clear hr hb
 go_wp2_with (first | (refine wpList_insert_row _ rfl _ _ _ _ (.inl rfl) rfl TA.out ⟨⟨#[78]⟩, 1, 1, ⟨#[115]⟩, false, 105⟩ v rfl rfl RF.out (fresh_of (by kernel_rfl)) Tryz.underlying53 Tryz.underlying9 ?_; intro V16 ta hg; replace TA := hid (show TableAt V16 _ (allRows.take 17) from ta); replace HL := hid (below_map HL.out (Nat.le_refl _) hg); clear ta hg RF))
 go_wp2_with fail
 refine (sums_part _ _ TA.out).mono ?_
 rintro e W_sums ⟨rfl, ta, hg⟩
 replace TA := hid ta
 replace HL := hid (below_map HL.out (Nat.le_refl _) hg)
 clear ta hg
 go_wp2_with fail
 refine (counts_part _ _ TA.out).mono ?_
 rintro e W_counts ⟨rfl, ta, hg⟩
 replace TA := hid ta
 replace HL := hid (below_map HL.out (Nat.le_refl _) hg)
 clear ta hg
 go_wp2_with fail
 refine (matrices_part _ _ TA.out).mono ?_
 rintro e W_matrices ⟨rfl, ta, hg⟩
 replace TA := hid ta
 replace HL := hid (below_map HL.out (Nat.le_refl _) hg)
 clear ta hg
 go_wp2_with fail
 refine (texts_part _ _ TA.out).mono ?_
 rintro e W_texts ⟨rfl, ta, hg⟩
 replace TA := hid ta
 replace HL := hid (below_map HL.out (Nat.le_refl _) hg)
 clear ta hg
 go_wp2
 go_ret
 exact ⟨_, rfl, TA.out, HL.out⟩
end Num
namespace Num
open Go.RowKit Go.Lib
theorem set9_own {w W : World} {R : Nat} (h : w.grownBy W (some R)) (x0 x1 x2 x3 x4 x5 x6 x7 x8 : Value) : w.grownBy (((((((((W.setCell ⟨R, 0, none⟩ x0).setCell ⟨R, 1, none⟩ x1).setCell ⟨R, 2, none⟩ x2).setCell ⟨R, 3, none⟩ x3).setCell ⟨R, 4, none⟩ x4).setCell ⟨R, 5, none⟩ x5).setCell ⟨R, 6, none⟩ x6).setCell ⟨R, 7, none⟩ x7).setCell ⟨R, 8, none⟩ x8) (some R) := (only_setCell (p := ⟨R, 8, none⟩) (only_setCell (p := ⟨R, 7, none⟩) (only_setCell (p := ⟨R, 6, none⟩) (only_setCell (p := ⟨R, 5, none⟩) (only_setCell (p := ⟨R, 4, none⟩) (only_setCell (p := ⟨R, 3, none⟩) (only_setCell (p := ⟨R, 2, none⟩) (only_setCell (p := ⟨R, 1, none⟩) (only_setCell (p := ⟨R, 0, none⟩) h (.inl rfl) x0) (.inl rfl) x1) (.inl rfl) x2) (.inl rfl) x3) (.inl rfl) x4) (.inl rfl) x5) (.inl rfl) x6) (.inl rfl) x7) (.inl rfl) x8)
theorem idle_any (p : Addr) (w : World) : CallsD Tryz.prog 112 #[.pointer (some p)] .returning w fun e u' w' => e = .returned (.tuple #[]) ∧ u' = .returning ∧ w' = w := by
 refine callsD_of_wpS Tryz.func112 rfl fun c₀ cs hu => ?_
 apply wpS_seq
 apply wpS_region
 simp [wpOpsS, go_sem, recoverD, hu, Tryz.ntmps112, Exit.thenS]
 refine wpS_of_wp ?_
 have hnil : ∀ w : World, (binOp BinOp.eql 20 .nilIface .nilIface).run Tryz.prog w = .ok (.bool true) w := fun _ => by kernel_rfl
 go_wp2
 cases c₀
 simp_all [bodyPostS, results, Tryz.results112]
theorem caught_any (R : Nat) (c : Int) (h1 : 1 ≤ c) (h2 : c ≤ 8) (x0 x1 x2 x3 x4 x5 x6 x7 x8 : Value) (w : World) (hR : w.heap[R]? = some (.cells #[x0, x1, x2, x3, x4, x5, x6, x7, x8] 32 (0, 0))) (hE : Env w) :
  CallsD Tryz.prog 112 #[.pointer (some ⟨R, 0, none⟩)] (.panicking ({ v := .iface 116 (.int .i64 c), recovered := false } :: [])) w fun e u' w' =>
   e = .returned (.tuple #[]) ∧ u' = .panicking ({ v := .iface 116 (.int .i64 c), recovered := true } :: []) ∧ w'.heap[R]? = some (.cells #[.int .i64 4, .string ⟨#[]⟩, .string ⟨#[]⟩, .string ⟨#[]⟩, .bool false, .int .i64 c, .int .i64 0, .int .i64 0, .slice none 0 0] 32 (0, 0)) ∧ w.grownBy w' (some R) := by
 have TF := hid (fun W g => faultv_any c W h1 h2 g)
 rw [faultVal_is c] at TF
 refine callsD_of_wpS Tryz.func112 rfl fun c₀ cs hu => ?_
 apply wpS_seq
 apply wpS_region
 simp [wpOpsS, go_sem, recoverD, hu, Tryz.ntmps112, Exit.thenS]
 refine wpS_of_wp ?_
 have hnil : ∀ (w : World) (x : Value), (binOp BinOp.eql 20 (.iface 116 x) .nilIface).run Tryz.prog w = .ok (.bool false) w := fun _ _ => by kernel_rfl
 have hta : ∀ (w : World), (Instr.typeAssert (.iface 116 (.int .i64 c)) 20 116 true).run Tryz.prog w = .ok (.tuple #[.int .i64 c, .bool true]) w := fun _ => by kernel_rfl
 have HR := hid hR
 have HE := hid hE
 clear hR hE
 go_wp2_with fail
 refine (TF.out _ HE.out).mono ?_
 rintro e W1 ⟨rfl, hb⟩
 replace HR := hid (keep_block HR.out hb)
 have HG := hid (kept_below (b := R) hb)
 clear hb
 obtain ⟨⟨r0, r1, r2, r3, r4, r5, r6, r7, r8⟩, g0, g1, g2, g3, g4, g5, g6, g7, g8⟩ := nine_at HR.out
 have HF := hid (set9_at HR.out (.int .i64 4) (.string ⟨#[]⟩) (.string ⟨#[]⟩) (.string ⟨#[]⟩) (.bool false) (.int .i64 c) (.int .i64 0) (.int .i64 0) (.slice none 0 0))
 go_wp2
 have HG2 := hid (set9_own HG.out (.int .i64 4) (.string ⟨#[]⟩) (.string ⟨#[]⟩) (.string ⟨#[]⟩) (.bool false) (.int .i64 c) (.int .i64 0) (.int .i64 0) (.slice none 0 0))
 obtain ⟨W9, hW9⟩ : ∃ W9, (((((((((W1.setCell ⟨R, 0, none⟩ (.int .i64 4)).setCell ⟨R, 1, none⟩ (.string ⟨#[]⟩)).setCell ⟨R, 2, none⟩ (.string ⟨#[]⟩)).setCell ⟨R, 3, none⟩ (.string ⟨#[]⟩)).setCell ⟨R, 4, none⟩ (.bool false)).setCell ⟨R, 5, none⟩ (.int .i64 c)).setCell ⟨R, 6, none⟩ (.int .i64 0)).setCell ⟨R, 7, none⟩ (.int .i64 0)).setCell ⟨R, 8, none⟩ (.slice none 0 0)) = W9 := ⟨_, rfl⟩
 rw [hW9] at HF HG2 ⊢
 refine ⟨rfl, _, rfl, .tuple #[], results_none rfl _ _ _, rfl, rfl, HF.out, HG2.out⟩
end Num
namespace Num
open Go.RowKit Go.Lib
theorem run1_value (pb _ e : Nat) (sl : Value) (k : Int) (n d t : ByteArray) (on : Bool) (c : Int) (A : Option Addr) (L C : Nat) (w : World) (hs : ∃ a l c, sl = .slice a l c) (hc : w.cell? ⟨pb, 3, none⟩ = some (.func (.func 154) #[] #[.pointer (some ⟨e, 0, none⟩)])) (hE : Env w)
  (hF : ∀ W, Below w.heap.size w W → Calls Tryz.prog 154 #[sl, .pointer (some ⟨e, 0, none⟩)] W fun e w' => e = .returned (.agg #[.int .i64 k, .string n, .string d, .string t, .bool on, .int .i64 c, .int .i64 0, .int .i64 0, .slice A L C]) ∧ Below W.heap.size W w') :
  Calls Tryz.prog 111 #[sl, .pointer (some ⟨pb, 0, none⟩)] w fun e w' => e = .returned (.agg #[.int .i64 k, .string n, .string d, .string t, .bool on, .int .i64 c, .int .i64 0, .int .i64 0, .slice A L C]) ∧ Below w.heap.size w w' := by
 obtain ⟨sa, slen, sc, rfl⟩ := hs
 have hmf : ∀ (fn : Fn) (first cap : Array Value) (w : World), (Instr.makeFunc fn first cap).run Tryz.prog w = .ok (.func fn first cap) w := fun _ _ _ _ => rfl
 have hb : Below w.heap.size w (w.alloc (.cells #[.int .i64 0, .string ⟨#[]⟩, .string ⟨#[]⟩, .string ⟨#[]⟩, .bool false, .int .i64 0, .int .i64 0, .int .i64 0, .slice none 0 0] 32)) := (Below.refl _ _).alloc (Nat.le_refl _) _
 have HR := hid (heap_alloc_new w (.cells #[.int .i64 0, .string ⟨#[]⟩, .string ⟨#[]⟩, .string ⟨#[]⟩, .bool false, .int .i64 0, .int .i64 0, .int .i64 0, .slice none 0 0] 32))
 have HX := hid (cell_below hc hb)
 have HL := hid hb
 have HE := hid (hE.below hb)
 have TF := hid (hF _ hb)
 clear hb hc hE hF
 obtain x3 := HX.out
 go_enter_defers Tryz.func111, Tryz.ntmps111
 go_wp2_with fail
 refine TF.out.mono ?_
 rintro e w1 ⟨rfl, hb⟩
 replace HR := hid (keep_block HR.out hb)
 replace HE := hid (HE.out.below hb)
 replace HL := hid (HL.out.trans (hb.mono HL.out.size))
 clear hb
 obtain ⟨⟨r0, r1, r2, r3, r4, r5, r6, r7, r8⟩, g0, g1, g2, g3, g4, g5, g6, g7, g8⟩ := nine_at HR.out
 have HR2 := hid (set9_at HR.out (.int .i64 k) (.string n) (.string d) (.string t) (.bool on) (.int .i64 c) (.int .i64 0) (.int .i64 0) (.slice A L C))
 have HL2 := hid (nine_end (x0 := (.int .i64 k)) (x1 := (.string n)) (x2 := (.string d)) (x3 := (.string t)) (x4 := (.bool on)) (x5 := (.int .i64 c)) (x6 := (.int .i64 0)) (x7 := (.int .i64 0)) (x8 := (.slice A L C)) HR.out HL.out (Nat.le_refl _)).1
 go_wp2_with fail
 obtain ⟨W2, hW2⟩ : ∃ W2, (((((((((w1.setCell ⟨w.heap.size, 0, none⟩ (.int .i64 k)).setCell ⟨w.heap.size, 1, none⟩ (.string n)).setCell ⟨w.heap.size, 2, none⟩ (.string d)).setCell ⟨w.heap.size, 3, none⟩ (.string t)).setCell ⟨w.heap.size, 4, none⟩ (.bool on)).setCell ⟨w.heap.size, 5, none⟩ (.int .i64 c)).setCell ⟨w.heap.size, 6, none⟩ (.int .i64 0)).setCell ⟨w.heap.size, 7, none⟩ (.int .i64 0)).setCell ⟨w.heap.size, 8, none⟩ (.slice A L C)) = W2 := ⟨_, rfl⟩
 rw [hW2] at HR2 HL2 ⊢
 clear hW2 r0 r1 r2 r3 r4 r5 r6 r7 r8 g0 g1 g2 g3 g4 g5 g6 g7 g8
 obtain ⟨⟨r0, r1, r2, r3, r4, r5, r6, r7, r8⟩, g0, g1, g2, g3, g4, g5, g6, g7, g8⟩ := nine_at HR2.out
 go_quiet (fail)
 have HR3 := hid (show (W2.drewN nq).heap[w.heap.size]? = _ from HR2.out)
 obtain ⟨nb, e0, e1, e2, e3, e4, e5, e6, e7, e8⟩ := nine_end (x0 := (.int .i64 k)) (x1 := (.string n)) (x2 := (.string d)) (x3 := (.string t)) (x4 := (.bool on)) (x5 := (.int .i64 c)) (x6 := (.int .i64 0)) (x7 := (.int .i64 0)) (x8 := (.slice A L C)) HR3.out (below_drewN HL2.out nq) (Nat.le_refl _)
 go_wp2
 refine leaves_cons (f := 112) (args := #[.pointer (some ⟨w.heap.size, 0, none⟩)]) (by simp) (by simp [go_sem]) ?_
 refine (idle_any _ _).mono ?_
 rintro e u' w3 ⟨rfl, rfl, rfl⟩
 exact ⟨_, (by simp [results, Tryz.results111, go_sem, e0, e1, e2, e3, e4, e5, e6, e7, e8]), rfl, nb⟩
theorem run1_stop (pb e : Nat) (sl : Value) (c : Int) (w : World) (hs : ∃ a l c, sl = .slice a l c) (h1 : 1 ≤ c) (h2 : c ≤ 8) (hc : w.cell? ⟨pb, 3, none⟩ = some (.func (.func 154) #[] #[.pointer (some ⟨e, 0, none⟩)])) (hE : Env w)
  (hF : ∀ W, Below w.heap.size w W → Calls Tryz.prog 154 #[sl, .pointer (some ⟨e, 0, none⟩)] W fun e w' => e = stopped c ∧ Below W.heap.size W w') :
  Calls Tryz.prog 111 #[sl, .pointer (some ⟨pb, 0, none⟩)] w fun e w' => e = .returned (faultVal c) ∧ Below w.heap.size w w' := by
 obtain ⟨sa, slen, sc, rfl⟩ := hs
 have TC := hid (fun R x0 x1 x2 x3 x4 x5 x6 x7 x8 W g g' => caught_any R c h1 h2 x0 x1 x2 x3 x4 x5 x6 x7 x8 W g g')
 rw [faultVal_is c]
 have hmf : ∀ (fn : Fn) (first cap : Array Value) (w : World), (Instr.makeFunc fn first cap).run Tryz.prog w = .ok (.func fn first cap) w := fun _ _ _ _ => rfl
 have hb : Below w.heap.size w (w.alloc (.cells #[.int .i64 0, .string ⟨#[]⟩, .string ⟨#[]⟩, .string ⟨#[]⟩, .bool false, .int .i64 0, .int .i64 0, .int .i64 0, .slice none 0 0] 32)) := (Below.refl _ _).alloc (Nat.le_refl _) _
 have HR := hid (heap_alloc_new w (.cells #[.int .i64 0, .string ⟨#[]⟩, .string ⟨#[]⟩, .string ⟨#[]⟩, .bool false, .int .i64 0, .int .i64 0, .int .i64 0, .slice none 0 0] 32))
 have HX := hid (cell_below hc hb)
 have HL := hid hb
 have HE := hid (hE.below hb)
 have TF := hid (hF _ hb)
 clear hb hc hE hF
 obtain x3 := HX.out
 go_enter_defers Tryz.func111, Tryz.ntmps111
 go_wp2_with fail
 refine TF.out.mono ?_
 rintro e w1 ⟨rfl, hb⟩
 replace HR := hid (keep_block HR.out hb)
 replace HE := hid (HE.out.below hb)
 replace HL := hid (HL.out.trans (hb.mono HL.out.size))
 clear hb
 unfold stopped
 go_wp2
 refine leaves_cons (f := 112) (args := #[.pointer (some ⟨w.heap.size, 0, none⟩)]) (by simp) (by simp [go_sem]) ?_
 refine (TC.out _ _ _ _ _ _ _ _ _ _ _ HR.out HE.out).mono ?_
 rintro e u' w3 ⟨rfl, rfl, hr, hg⟩
 obtain ⟨⟨e0, e1, e2, e3, e4, e5, e6, e7, e8⟩, _⟩ := nine_at hr
 exact ⟨_, (by simp [results, Tryz.results111, go_sem, e0, e1, e2, e3, e4, e5, e6, e7, e8]), rfl, HL.out.trans (below_of_only hg (Nat.le_refl _) HL.out.size)⟩
end Num
end Go.Proofs.YtjcdeeahjkfmoaaGreatDoor
