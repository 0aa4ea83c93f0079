/- Numbers as texts of digits, fractions, values and the functions of fmath: contracts of the program's functions, joined from smaller texts. Conditions stand at each theorem. -/
import Derived.Test.YtcgglmoeneiokaaGreatDoorRncA
import Derived.Test.YtcgglmoeneiokaaGreatDoorRndB

/- The law FmathRoundsNear's own walk. Conditions: the tables lie as they are laid. -/
namespace Go.Proofs.YtcgglmoeneiokaaGreatDoor.Num
open Go.RowKit Go.Lib

/-- what math gives at a row of values -/
def MathRow (nm : ByteArray) (cs : Array Value) (n : Nat) (v : Value) : Prop := ∀ (W : World) (G : Nat), W.heap[G]? = some (.cells cs 27 (0, 0)) → Env W → Calls Tryz.prog 10 #[.string nm, .slice (some ⟨G, 0, none⟩) n n] W fun e w' => e = .returned v ∧ Below W.heap.size W w'
theorem at_row {nm : ByteArray} {cs : Array Value} {n : Nat} {v : Value} (T : MathRow nm cs n v) (W : World) (g : Env W) :
    Calls Tryz.prog 10 #[.string nm, .slice (some ⟨W.heap.size, 0, none⟩) n n] (W.alloc (.cells cs 27)) fun e w' => e = .returned v ∧ Below W.heap.size W w' := by
  have hb : Below W.heap.size W (W.alloc (.cells cs 27)) := (Below.refl _ _).alloc (Nat.le_refl _) _
  refine (T _ _ (heap_alloc_new W _) (g.below hb)).mono ?_
  rintro e w' ⟨rfl, h⟩
  exact ⟨rfl, hb.trans (h.mono hb.size)⟩
def Fun1 (f : FuncId) (a v : Value) : Prop := ∀ W, Env W → Calls Tryz.prog f #[a] W fun e w' => e = .returned v ∧ Below W.heap.size W w'
def Fun2 (f : FuncId) (a b v : Value) : Prop := ∀ W, Env W → Calls Tryz.prog f #[a, b] W fun e w' => e = .returned v ∧ Below W.heap.size W w'

theorem cmp_le {p q : Rat} (h : p ≤ q) : decide (cmpR p q ≤ 0) = true := by
  apply decide_eq_true
  unfold cmpR
  by_cases e : p = q
  · rw [if_pos e]; decide
  · rw [if_neg e, if_pos (by
      rcases Rat.le_iff_eq_or_lt.1 h with h' | h'
      · first | exact h' | exact absurd h' e
      · first | exact h' | exact absurd h' e)]
    decide
set_option linter.unusedSimpArgs false in
set_option linter.unusedVariables false in
set_option maxHeartbeats 16000000 in
set_option maxRecDepth 100000 in
theorem le_true (p q : Rat) (h : p ≤ q) (hp : fits p = true) (hq : fits q = true) : Fun2 19 (.agg #[.int .i64 1, .string (numS p), .string (denS p), .string { data := #[] }, .bool false, .int .i64 0, .int .i64 0, .int .i64 0, .slice none 0 0]) (.agg #[.int .i64 1, .string (numS q), .string (denS q), .string { data := #[] }, .bool false, .int .i64 0, .int .i64 0, .int .i64 0, .slice none 0 0]) (.bool true) := by
  intro w hE
  have TC := Lib.hid (fun W g => compare_num p q W hp hq g)
  have hc := cmp_le h
  obtain ⟨c, hcc⟩ : ∃ c, cmpR p q = c := ⟨_, rfl⟩
  rw [hcc] at TC hc
  have hb : Below w.heap.size w ((w.alloc (.cells #[.int .i64 1, .string (numS p), .string (denS p), .string { data := #[] }, .bool false, .int .i64 0, .int .i64 0, .int .i64 0, .slice none 0 0] 27)).alloc (.cells #[.int .i64 1, .string (numS q), .string (denS q), .string { data := #[] }, .bool false, .int .i64 0, .int .i64 0, .int .i64 0, .slice none 0 0] 27)) := ((Below.refl _ _).alloc (Nat.le_refl _) _).alloc (by simp) _
  have HL := Lib.hid hb
  have HE := Lib.hid (hE.below hb)
  clear hb hE h hp hq hcc
  go_enter Tryz.func19, Tryz.ntmps19
  go_wp2_with fail
  refine (TC.out _ HE.out).mono ?_
  rintro e W1 ⟨rfl, hb⟩
  replace HL := Lib.hid (HL.out.trans (hb.mono HL.out.size))
  clear hb
  go_wp2
  go_ret
  exact ⟨rfl, HL.out⟩

set_option linter.unusedSimpArgs false in
set_option linter.unusedVariables false in
set_option maxHeartbeats 16000000 in
set_option maxRecDepth 100000 in
theorem abs_clos (p q : Rat) (hM : MathRow { data := #[65, 66, 83] } #[.int .i64 1, .string (numS p), .string (denS p), .string { data := #[] }, .bool false, .int .i64 0, .int .i64 0, .int .i64 0, .slice none 0 0] 1 (.agg #[.int .i64 1, .string (numS q), .string (denS q), .string { data := #[] }, .bool false, .int .i64 0, .int .i64 0, .int .i64 0, .slice none 0 0])) : Fun1 21 (.agg #[.int .i64 1, .string (numS p), .string (denS p), .string { data := #[] }, .bool false, .int .i64 0, .int .i64 0, .int .i64 0, .slice none 0 0]) (.agg #[.int .i64 1, .string (numS q), .string (denS q), .string { data := #[] }, .bool false, .int .i64 0, .int .i64 0, .int .i64 0, .slice none 0 0]) := by
  intro w hE
  have TM := Lib.hid (fun W g => at_row hM W g)
  obtain ⟨_, hr, hb⟩ := two_new w (.cells #[.int .i64 1, .string (numS p), .string (denS p), .string { data := #[] }, .bool false, .int .i64 0, .int .i64 0, .int .i64 0, .slice none 0 0] 27) (.cells #[.int .i64 0, .string { data := #[] }, .string { data := #[] }, .string { data := #[] }, .bool false, .int .i64 0, .int .i64 0, .int .i64 0, .slice none 0 0] 27)
  have HR := Lib.hid hr
  have HL := Lib.hid hb
  have HE := Lib.hid (hE.below hb)
  obtain ⟨W0, hW0⟩ : ∃ Z, (w.alloc (.cells #[.int .i64 1, .string (numS p), .string (denS p), .string { data := #[] }, .bool false, .int .i64 0, .int .i64 0, .int .i64 0, .slice none 0 0] 27)).alloc (.cells #[.int .i64 0, .string { data := #[] }, .string { data := #[] }, .string { data := #[] }, .bool false, .int .i64 0, .int .i64 0, .int .i64 0, .slice none 0 0] 27) = Z := ⟨_, rfl⟩
  rw [hW0] at HR HL HE
  have EW0 := Lib.hid hW0
  have hsz : ((w.alloc (.cells #[.int .i64 1, .string (numS p), .string (denS p), .string { data := #[] }, .bool false, .int .i64 0, .int .i64 0, .int .i64 0, .slice none 0 0] 27)).alloc (.cells #[.int .i64 0, .string { data := #[] }, .string { data := #[] }, .string { data := #[] }, .bool false, .int .i64 0, .int .i64 0, .int .i64 0, .slice none 0 0] 27)).heap.size = w.heap.size + 1 + 1 := by simp
  rw [hW0] at hsz
  have HSZ := Lib.hid hsz
  clear hb hr hE hM hW0 hsz
  go_enter Tryz.func21, Tryz.ntmps21
  go_wp2_with fail
  rw [EW0.out, ← HSZ.out]
  refine (TM.out _ HE.out).mono ?_
  rintro e W1 ⟨rfl, hb⟩
  replace HR := Lib.hid (keep_block HR.out hb)
  replace HL := Lib.hid (HL.out.trans (hb.mono HL.out.size))
  clear hb
  obtain ⟨⟨r0, r1, r2, r3, r4, r5, r6, r7, r8⟩, g0, g1, g2, g3, g4, g5, g6, g7, g8⟩ := nine_at HR.out
  obtain ⟨nb, e0, e1, e2, e3, e4, e5, e6, e7, e8⟩ := nine_end (x0 := (.int .i64 1)) (x1 := (.string (numS q))) (x2 := (.string (denS q))) (x3 := (.string { data := #[] })) (x4 := (.bool false)) (x5 := (.int .i64 0)) (x6 := (.int .i64 0)) (x7 := (.int .i64 0)) (x8 := (.slice none 0 0)) HR.out HL.out (by omega)
  go_wp2
  refine bodyPost_ret (v := .agg #[.int .i64 1, .string (numS q), .string (denS q), .string { data := #[] }, .bool false, .int .i64 0, .int .i64 0, .int .i64 0, .slice none 0 0]) (by simp [results, Tryz.results21, go_sem, e0, e1, e2, e3, e4, e5, e6, e7, e8]) rfl ⟨rfl, nb⟩

set_option linter.unusedVariables false in
/-- what the operations of region 2 yield -/
def RNKs2 (w3 : World) (A K R U D Ce Fl H I T M P aA aD aU aR aT on mo : Rat) : List RK :=
  [.pure (.agg #[.int .i64 1, .string (numS A), .string (denS A), .string { data := #[] }, .bool false, .int .i64 0, .int .i64 0, .int .i64 0, .slice none 0 0]),
   .pure (.agg #[.int .i64 1, .string (numS K), .string (denS K), .string { data := #[] }, .bool false, .int .i64 0, .int .i64 0, .int .i64 0, .slice none 0 0]),
   .row #[.int .i64 1, .string (numS A), .string (denS A), .string { data := #[] }, .bool false, .int .i64 0, .int .i64 0, .int .i64 0, .slice none 0 0, .int .i64 1, .string (numS K), .string (denS K), .string { data := #[] }, .bool false, .int .i64 0, .int .i64 0, .int .i64 0, .slice none 0 0] 27 2,
   .pure (.agg #[.int .i64 1, .string (numS R), .string (denS R), .string { data := #[] }, .bool false, .int .i64 0, .int .i64 0, .int .i64 0, .slice none 0 0]),
   .pure (.agg #[.int .i64 1, .string (numS A), .string (denS A), .string { data := #[] }, .bool false, .int .i64 0, .int .i64 0, .int .i64 0, .slice none 0 0]),
   .pure (.agg #[.int .i64 1, .string (numS K), .string (denS K), .string { data := #[] }, .bool false, .int .i64 0, .int .i64 0, .int .i64 0, .slice none 0 0]),
   .row #[.int .i64 1, .string (numS A), .string (denS A), .string { data := #[] }, .bool false, .int .i64 0, .int .i64 0, .int .i64 0, .slice none 0 0, .int .i64 1, .string (numS K), .string (denS K), .string { data := #[] }, .bool false, .int .i64 0, .int .i64 0, .int .i64 0, .slice none 0 0] 27 2,
   .pure (.agg #[.int .i64 1, .string (numS U), .string (denS U), .string { data := #[] }, .bool false, .int .i64 0, .int .i64 0, .int .i64 0, .slice none 0 0]),
   .pure (.agg #[.int .i64 1, .string (numS A), .string (denS A), .string { data := #[] }, .bool false, .int .i64 0, .int .i64 0, .int .i64 0, .slice none 0 0]),
   .pure (.agg #[.int .i64 1, .string (numS K), .string (denS K), .string { data := #[] }, .bool false, .int .i64 0, .int .i64 0, .int .i64 0, .slice none 0 0]),
   .row #[.int .i64 1, .string (numS A), .string (denS A), .string { data := #[] }, .bool false, .int .i64 0, .int .i64 0, .int .i64 0, .slice none 0 0, .int .i64 1, .string (numS K), .string (denS K), .string { data := #[] }, .bool false, .int .i64 0, .int .i64 0, .int .i64 0, .slice none 0 0] 27 2,
   .pure (.agg #[.int .i64 1, .string (numS D), .string (denS D), .string { data := #[] }, .bool false, .int .i64 0, .int .i64 0, .int .i64 0, .slice none 0 0]),
   .box none #[.int .i64 0, .string { data := #[] }, .string { data := #[] }, .string { data := #[] }, .bool false, .int .i64 0, .int .i64 0, .int .i64 0, .slice none 0 0] #[.int .i64 1, .string (numS R), .string (denS R), .string { data := #[] }, .bool false, .int .i64 0, .int .i64 0, .int .i64 0, .slice none 0 0] 27 15,
   .box none #[.int .i64 0, .string { data := #[] }, .string { data := #[] }, .string { data := #[] }, .bool false, .int .i64 0, .int .i64 0, .int .i64 0, .slice none 0 0] #[.int .i64 1, .string (numS U), .string (denS U), .string { data := #[] }, .bool false, .int .i64 0, .int .i64 0, .int .i64 0, .slice none 0 0] 27 16,
   .box none #[.int .i64 0, .string { data := #[] }, .string { data := #[] }, .string { data := #[] }, .bool false, .int .i64 0, .int .i64 0, .int .i64 0, .slice none 0 0] #[.int .i64 1, .string (numS D), .string (denS D), .string { data := #[] }, .bool false, .int .i64 0, .int .i64 0, .int .i64 0, .slice none 0 0] 27 17,
   .put 12,
   .put 13,
   .put 14]
set_option linter.unusedVariables false in
/-- what the operations of region 3 yield -/
def RNKs3 (w3 : World) (b7 b8 b9 : Nat) (A K R U D Ce Fl H I T M P aA aD aU aR aT on mo : Rat) : List RK :=
  [.pure (.agg #[.int .i64 1, .string (numS A), .string (denS A), .string { data := #[] }, .bool false, .int .i64 0, .int .i64 0, .int .i64 0, .slice none 0 0]),
   .pure (.agg #[.int .i64 1, .string (numS H), .string (denS H), .string { data := #[] }, .bool false, .int .i64 0, .int .i64 0, .int .i64 0, .slice none 0 0]),
   .row #[.int .i64 1, .string (numS A), .string (denS A), .string { data := #[] }, .bool false, .int .i64 0, .int .i64 0, .int .i64 0, .slice none 0 0, .int .i64 1, .string (numS H), .string (denS H), .string { data := #[] }, .bool false, .int .i64 0, .int .i64 0, .int .i64 0, .slice none 0 0] 27 2,
   .pure (.agg #[.int .i64 1, .string (numS Ce), .string (denS Ce), .string { data := #[] }, .bool false, .int .i64 0, .int .i64 0, .int .i64 0, .slice none 0 0]),
   .pure (.agg #[.int .i64 1, .string (numS A), .string (denS A), .string { data := #[] }, .bool false, .int .i64 0, .int .i64 0, .int .i64 0, .slice none 0 0]),
   .pure (.agg #[.int .i64 1, .string (numS H), .string (denS H), .string { data := #[] }, .bool false, .int .i64 0, .int .i64 0, .int .i64 0, .slice none 0 0]),
   .row #[.int .i64 1, .string (numS A), .string (denS A), .string { data := #[] }, .bool false, .int .i64 0, .int .i64 0, .int .i64 0, .slice none 0 0, .int .i64 1, .string (numS H), .string (denS H), .string { data := #[] }, .bool false, .int .i64 0, .int .i64 0, .int .i64 0, .slice none 0 0] 27 2,
   .pure (.agg #[.int .i64 1, .string (numS Fl), .string (denS Fl), .string { data := #[] }, .bool false, .int .i64 0, .int .i64 0, .int .i64 0, .slice none 0 0]),
   .box none #[.int .i64 0, .string { data := #[] }, .string { data := #[] }, .string { data := #[] }, .bool false, .int .i64 0, .int .i64 0, .int .i64 0, .slice none 0 0] #[.int .i64 1, .string (numS Ce), .string (denS Ce), .string { data := #[] }, .bool false, .int .i64 0, .int .i64 0, .int .i64 0, .slice none 0 0] 27 10,
   .box none #[.int .i64 0, .string { data := #[] }, .string { data := #[] }, .string { data := #[] }, .bool false, .int .i64 0, .int .i64 0, .int .i64 0, .slice none 0 0] #[.int .i64 1, .string (numS Fl), .string (denS Fl), .string { data := #[] }, .bool false, .int .i64 0, .int .i64 0, .int .i64 0, .slice none 0 0] 27 11,
   .put 8,
   .put 9]
set_option linter.unusedVariables false in
/-- what the operations of region 4 yield -/
def RNKs4 (w3 : World) (b7 b8 b9 b10 b11 : Nat) (A K R U D Ce Fl H I T M P aA aD aU aR aT on mo : Rat) : List RK :=
  [.pure (.agg #[.int .i64 1, .string (numS A), .string (denS A), .string { data := #[] }, .bool false, .int .i64 0, .int .i64 0, .int .i64 0, .slice none 0 0]),
   .row #[.int .i64 1, .string (numS A), .string (denS A), .string { data := #[] }, .bool false, .int .i64 0, .int .i64 0, .int .i64 0, .slice none 0 0] 27 1,
   .pure (.agg #[.int .i64 1, .string (numS I), .string (denS I), .string { data := #[] }, .bool false, .int .i64 0, .int .i64 0, .int .i64 0, .slice none 0 0]),
   .pure (.agg #[.int .i64 1, .string (numS A), .string (denS A), .string { data := #[] }, .bool false, .int .i64 0, .int .i64 0, .int .i64 0, .slice none 0 0]),
   .row #[.int .i64 1, .string (numS A), .string (denS A), .string { data := #[] }, .bool false, .int .i64 0, .int .i64 0, .int .i64 0, .slice none 0 0] 27 1,
   .pure (.agg #[.int .i64 1, .string (numS T), .string (denS T), .string { data := #[] }, .bool false, .int .i64 0, .int .i64 0, .int .i64 0, .slice none 0 0]),
   .box none #[.int .i64 0, .string { data := #[] }, .string { data := #[] }, .string { data := #[] }, .bool false, .int .i64 0, .int .i64 0, .int .i64 0, .slice none 0 0] #[.int .i64 1, .string (numS I), .string (denS I), .string { data := #[] }, .bool false, .int .i64 0, .int .i64 0, .int .i64 0, .slice none 0 0] 27 8,
   .box none #[.int .i64 0, .string { data := #[] }, .string { data := #[] }, .string { data := #[] }, .bool false, .int .i64 0, .int .i64 0, .int .i64 0, .slice none 0 0] #[.int .i64 1, .string (numS T), .string (denS T), .string { data := #[] }, .bool false, .int .i64 0, .int .i64 0, .int .i64 0, .slice none 0 0] 27 9,
   .put 6,
   .put 7]
set_option linter.unusedVariables false in
/-- what the operations of region 9 yield -/
def RNKs9 (w3 : World) (b7 b8 b9 b10 b11 b12 b13 : Nat) (A K R U D Ce Fl H I T M P aA aD aU aR aT on mo : Rat) : List RK :=
  [.pure (.func (.func 19) #[] #[]),
   .pure (.func (.func 21) #[] #[]),
   .pure (.agg #[.int .i64 1, .string (numS D), .string (denS D), .string { data := #[] }, .bool false, .int .i64 0, .int .i64 0, .int .i64 0, .slice none 0 0]),
   .pure (.agg #[.int .i64 1, .string (numS aD), .string (denS aD), .string { data := #[] }, .bool false, .int .i64 0, .int .i64 0, .int .i64 0, .slice none 0 0]),
   .pure (.func (.func 21) #[] #[]),
   .pure (.agg #[.int .i64 1, .string (numS A), .string (denS A), .string { data := #[] }, .bool false, .int .i64 0, .int .i64 0, .int .i64 0, .slice none 0 0]),
   .pure (.agg #[.int .i64 1, .string (numS aA), .string (denS aA), .string { data := #[] }, .bool false, .int .i64 0, .int .i64 0, .int .i64 0, .slice none 0 0]),
   .pure (.bool true),
   .pure (.bool true),
   .pure (.func (.func 19) #[] #[]),
   .pure (.func (.func 21) #[] #[]),
   .pure (.agg #[.int .i64 1, .string (numS A), .string (denS A), .string { data := #[] }, .bool false, .int .i64 0, .int .i64 0, .int .i64 0, .slice none 0 0]),
   .pure (.agg #[.int .i64 1, .string (numS aA), .string (denS aA), .string { data := #[] }, .bool false, .int .i64 0, .int .i64 0, .int .i64 0, .slice none 0 0]),
   .pure (.func (.func 21) #[] #[]),
   .pure (.agg #[.int .i64 1, .string (numS U), .string (denS U), .string { data := #[] }, .bool false, .int .i64 0, .int .i64 0, .int .i64 0, .slice none 0 0]),
   .pure (.agg #[.int .i64 1, .string (numS aU), .string (denS aU), .string { data := #[] }, .bool false, .int .i64 0, .int .i64 0, .int .i64 0, .slice none 0 0]),
   .pure (.bool true),
   .pure (.bool true),
   .pure (.bool true),
   .pure (.func (.func 19) #[] #[]),
   .pure (.func (.func 21) #[] #[]),
   .pure (.agg #[.int .i64 1, .string (numS D), .string (denS D), .string { data := #[] }, .bool false, .int .i64 0, .int .i64 0, .int .i64 0, .slice none 0 0]),
   .pure (.agg #[.int .i64 1, .string (numS aD), .string (denS aD), .string { data := #[] }, .bool false, .int .i64 0, .int .i64 0, .int .i64 0, .slice none 0 0]),
   .pure (.func (.func 21) #[] #[]),
   .pure (.agg #[.int .i64 1, .string (numS R), .string (denS R), .string { data := #[] }, .bool false, .int .i64 0, .int .i64 0, .int .i64 0, .slice none 0 0]),
   .pure (.agg #[.int .i64 1, .string (numS aR), .string (denS aR), .string { data := #[] }, .bool false, .int .i64 0, .int .i64 0, .int .i64 0, .slice none 0 0]),
   .pure (.bool true),
   .pure (.bool true),
   .pure (.bool true),
   .pure (.func (.func 19) #[] #[]),
   .pure (.func (.func 21) #[] #[]),
   .pure (.agg #[.int .i64 1, .string (numS R), .string (denS R), .string { data := #[] }, .bool false, .int .i64 0, .int .i64 0, .int .i64 0, .slice none 0 0]),
   .pure (.agg #[.int .i64 1, .string (numS aR), .string (denS aR), .string { data := #[] }, .bool false, .int .i64 0, .int .i64 0, .int .i64 0, .slice none 0 0]),
   .pure (.func (.func 21) #[] #[]),
   .pure (.agg #[.int .i64 1, .string (numS U), .string (denS U), .string { data := #[] }, .bool false, .int .i64 0, .int .i64 0, .int .i64 0, .slice none 0 0]),
   .pure (.agg #[.int .i64 1, .string (numS aU), .string (denS aU), .string { data := #[] }, .bool false, .int .i64 0, .int .i64 0, .int .i64 0, .slice none 0 0]),
   .pure (.bool true),
   .pure (.bool true),
   .pure (.bool true)]
set_option linter.unusedVariables false in
/-- what the operations of region 10 yield -/
def RNKs10 (w3 : World) (b7 b8 b9 b10 b11 b12 b13 : Nat) (A K R U D Ce Fl H I T M P aA aD aU aR aT on mo : Rat) : List RK :=
  [.pure (.bool true),
   .pure (.bool true),
   .pure (.func (.func 19) #[] #[]),
   .pure (.agg #[.int .i64 1, .string (numS Fl), .string (denS Fl), .string { data := #[] }, .bool false, .int .i64 0, .int .i64 0, .int .i64 0, .slice none 0 0]),
   .pure (.agg #[.int .i64 1, .string (numS A), .string (denS A), .string { data := #[] }, .bool false, .int .i64 0, .int .i64 0, .int .i64 0, .slice none 0 0]),
   .pure (.bool true),
   .pure (.bool true),
   .pure (.bool true),
   .pure (.func (.func 19) #[] #[]),
   .pure (.agg #[.int .i64 1, .string (numS A), .string (denS A), .string { data := #[] }, .bool false, .int .i64 0, .int .i64 0, .int .i64 0, .slice none 0 0]),
   .pure (.agg #[.int .i64 1, .string (numS Ce), .string (denS Ce), .string { data := #[] }, .bool false, .int .i64 0, .int .i64 0, .int .i64 0, .slice none 0 0]),
   .pure (.bool true),
   .pure (.bool true),
   .pure (.bool true),
   .pure (.func (.func 19) #[] #[]),
   .pure (.agg #[.int .i64 1, .string (numS I), .string (denS I), .string { data := #[] }, .bool false, .int .i64 0, .int .i64 0, .int .i64 0, .slice none 0 0]),
   .pure (.agg #[.int .i64 1, .string (numS A), .string (denS A), .string { data := #[] }, .bool false, .int .i64 0, .int .i64 0, .int .i64 0, .slice none 0 0]),
   .pure (.bool true),
   .pure (.bool true),
   .pure (.bool true),
   .pure (.func (.func 19) #[] #[]),
   .pure (.func (.func 21) #[] #[]),
   .pure (.agg #[.int .i64 1, .string (numS T), .string (denS T), .string { data := #[] }, .bool false, .int .i64 0, .int .i64 0, .int .i64 0, .slice none 0 0]),
   .pure (.agg #[.int .i64 1, .string (numS aT), .string (denS aT), .string { data := #[] }, .bool false, .int .i64 0, .int .i64 0, .int .i64 0, .slice none 0 0]),
   .pure (.func (.func 21) #[] #[]),
   .pure (.agg #[.int .i64 1, .string (numS A), .string (denS A), .string { data := #[] }, .bool false, .int .i64 0, .int .i64 0, .int .i64 0, .slice none 0 0]),
   .pure (.agg #[.int .i64 1, .string (numS aA), .string (denS aA), .string { data := #[] }, .bool false, .int .i64 0, .int .i64 0, .int .i64 0, .slice none 0 0]),
   .pure (.bool true),
   .pure (.bool true),
   .pure (.bool true),
   .pure (.agg #[.int .i64 1, .string (numS R), .string (denS R), .string { data := #[] }, .bool false, .int .i64 0, .int .i64 0, .int .i64 0, .slice none 0 0]),
   .pure (.agg #[.int .i64 1, .string (numS K), .string (denS K), .string { data := #[] }, .bool false, .int .i64 0, .int .i64 0, .int .i64 0, .slice none 0 0]),
   .row #[.int .i64 1, .string (numS R), .string (denS R), .string { data := #[] }, .bool false, .int .i64 0, .int .i64 0, .int .i64 0, .slice none 0 0, .int .i64 1, .string (numS K), .string (denS K), .string { data := #[] }, .bool false, .int .i64 0, .int .i64 0, .int .i64 0, .slice none 0 0] 27 2,
   .pure (.agg #[.int .i64 1, .string (numS R), .string (denS R), .string { data := #[] }, .bool false, .int .i64 0, .int .i64 0, .int .i64 0, .slice none 0 0]),
   .pure (.agg #[.int .i64 1, .string (numS R), .string (denS R), .string { data := #[] }, .bool false, .int .i64 0, .int .i64 0, .int .i64 0, .slice none 0 0]),
   .pure (.bool true),
   .pure (.bool true),
   .pure (.bool true),
   .pure (.agg #[.int .i64 1, .string (numS A), .string (denS A), .string { data := #[] }, .bool false, .int .i64 0, .int .i64 0, .int .i64 0, .slice none 0 0]),
   .pure (.agg #[.int .i64 1, .string (numS on), .string (denS on), .string { data := #[] }, .bool false, .int .i64 0, .int .i64 0, .int .i64 0, .slice none 0 0]),
   .row #[.int .i64 1, .string (numS A), .string (denS A), .string { data := #[] }, .bool false, .int .i64 0, .int .i64 0, .int .i64 0, .slice none 0 0, .int .i64 1, .string (numS on), .string (denS on), .string { data := #[] }, .bool false, .int .i64 0, .int .i64 0, .int .i64 0, .slice none 0 0] 27 2,
   .pure (.agg #[.int .i64 1, .string (numS M), .string (denS M), .string { data := #[] }, .bool false, .int .i64 0, .int .i64 0, .int .i64 0, .slice none 0 0]),
   .pure (.agg #[.int .i64 1, .string (numS A), .string (denS A), .string { data := #[] }, .bool false, .int .i64 0, .int .i64 0, .int .i64 0, .slice none 0 0]),
   .pure (.agg #[.int .i64 1, .string (numS I), .string (denS I), .string { data := #[] }, .bool false, .int .i64 0, .int .i64 0, .int .i64 0, .slice none 0 0]),
   .pure (.agg #[.int .i64 1, .string (numS mo), .string (denS mo), .string { data := #[] }, .bool false, .int .i64 0, .int .i64 0, .int .i64 0, .slice none 0 0]),
   .row #[.int .i64 1, .string (numS I), .string (denS I), .string { data := #[] }, .bool false, .int .i64 0, .int .i64 0, .int .i64 0, .slice none 0 0, .int .i64 1, .string (numS mo), .string (denS mo), .string { data := #[] }, .bool false, .int .i64 0, .int .i64 0, .int .i64 0, .slice none 0 0] 27 2,
   .pure (.agg #[.int .i64 1, .string (numS P), .string (denS P), .string { data := #[] }, .bool false, .int .i64 0, .int .i64 0, .int .i64 0, .slice none 0 0]),
   .row #[.int .i64 1, .string (numS A), .string (denS A), .string { data := #[] }, .bool false, .int .i64 0, .int .i64 0, .int .i64 0, .slice none 0 0, .int .i64 1, .string (numS P), .string (denS P), .string { data := #[] }, .bool false, .int .i64 0, .int .i64 0, .int .i64 0, .slice none 0 0] 27 2,
   .pure (.agg #[.int .i64 1, .string (numS M), .string (denS M), .string { data := #[] }, .bool false, .int .i64 0, .int .i64 0, .int .i64 0, .slice none 0 0]),
   .pure (.bool true),
   .pure (.bool true),
   .pure (.bool true)]
attribute [local irreducible] wpOp
set_option linter.unusedSimpArgs false in
set_option linter.unusedVariables false in
set_option maxHeartbeats 16000000 in
set_option maxRecDepth 100000 in
theorem rounds_walk (x y m : Int) (A K R U D Ce Fl H I T M P aA aD aU aR aT on mo : Rat) (w : World) (hE : Env w) (hy0 : -9223372036854775808 ≤ y) (hy1 : y ≤ 9223372036854775807) (hm : y % 5 = m)
    (rround : MathRow { data := #[82, 79, 85, 78, 68] } #[.int .i64 1, .string (numS A), .string (denS A), .string { data := #[] }, .bool false, .int .i64 0, .int .i64 0, .int .i64 0, .slice none 0 0, .int .i64 1, .string (numS K), .string (denS K), .string { data := #[] }, .bool false, .int .i64 0, .int .i64 0, .int .i64 0, .slice none 0 0] 2 (.agg #[.int .i64 1, .string (numS R), .string (denS R), .string { data := #[] }, .bool false, .int .i64 0, .int .i64 0, .int .i64 0, .slice none 0 0]))
    (rroundup : MathRow { data := #[82, 79, 85, 78, 68, 85, 80] } #[.int .i64 1, .string (numS A), .string (denS A), .string { data := #[] }, .bool false, .int .i64 0, .int .i64 0, .int .i64 0, .slice none 0 0, .int .i64 1, .string (numS K), .string (denS K), .string { data := #[] }, .bool false, .int .i64 0, .int .i64 0, .int .i64 0, .slice none 0 0] 2 (.agg #[.int .i64 1, .string (numS U), .string (denS U), .string { data := #[] }, .bool false, .int .i64 0, .int .i64 0, .int .i64 0, .slice none 0 0]))
    (rrounddown : MathRow { data := #[82, 79, 85, 78, 68, 68, 79, 87, 78] } #[.int .i64 1, .string (numS A), .string (denS A), .string { data := #[] }, .bool false, .int .i64 0, .int .i64 0, .int .i64 0, .slice none 0 0, .int .i64 1, .string (numS K), .string (denS K), .string { data := #[] }, .bool false, .int .i64 0, .int .i64 0, .int .i64 0, .slice none 0 0] 2 (.agg #[.int .i64 1, .string (numS D), .string (denS D), .string { data := #[] }, .bool false, .int .i64 0, .int .i64 0, .int .i64 0, .slice none 0 0]))
    (rceiling : MathRow { data := #[67, 69, 73, 76, 73, 78, 71] } #[.int .i64 1, .string (numS A), .string (denS A), .string { data := #[] }, .bool false, .int .i64 0, .int .i64 0, .int .i64 0, .slice none 0 0, .int .i64 1, .string (numS H), .string (denS H), .string { data := #[] }, .bool false, .int .i64 0, .int .i64 0, .int .i64 0, .slice none 0 0] 2 (.agg #[.int .i64 1, .string (numS Ce), .string (denS Ce), .string { data := #[] }, .bool false, .int .i64 0, .int .i64 0, .int .i64 0, .slice none 0 0]))
    (rfloor : MathRow { data := #[70, 76, 79, 79, 82] } #[.int .i64 1, .string (numS A), .string (denS A), .string { data := #[] }, .bool false, .int .i64 0, .int .i64 0, .int .i64 0, .slice none 0 0, .int .i64 1, .string (numS H), .string (denS H), .string { data := #[] }, .bool false, .int .i64 0, .int .i64 0, .int .i64 0, .slice none 0 0] 2 (.agg #[.int .i64 1, .string (numS Fl), .string (denS Fl), .string { data := #[] }, .bool false, .int .i64 0, .int .i64 0, .int .i64 0, .slice none 0 0]))
    (rint : MathRow { data := #[73, 78, 84] } #[.int .i64 1, .string (numS A), .string (denS A), .string { data := #[] }, .bool false, .int .i64 0, .int .i64 0, .int .i64 0, .slice none 0 0] 1 (.agg #[.int .i64 1, .string (numS I), .string (denS I), .string { data := #[] }, .bool false, .int .i64 0, .int .i64 0, .int .i64 0, .slice none 0 0]))
    (rtrunc : MathRow { data := #[84, 82, 85, 78, 67] } #[.int .i64 1, .string (numS A), .string (denS A), .string { data := #[] }, .bool false, .int .i64 0, .int .i64 0, .int .i64 0, .slice none 0 0] 1 (.agg #[.int .i64 1, .string (numS T), .string (denS T), .string { data := #[] }, .bool false, .int .i64 0, .int .i64 0, .int .i64 0, .slice none 0 0]))
    (rabs : MathRow { data := #[65, 66, 83] } #[.int .i64 1, .string (numS A), .string (denS A), .string { data := #[] }, .bool false, .int .i64 0, .int .i64 0, .int .i64 0, .slice none 0 0] 1 (.agg #[.int .i64 1, .string (numS aA), .string (denS aA), .string { data := #[] }, .bool false, .int .i64 0, .int .i64 0, .int .i64 0, .slice none 0 0]))
    (rround2 : MathRow { data := #[82, 79, 85, 78, 68] } #[.int .i64 1, .string (numS R), .string (denS R), .string { data := #[] }, .bool false, .int .i64 0, .int .i64 0, .int .i64 0, .slice none 0 0, .int .i64 1, .string (numS K), .string (denS K), .string { data := #[] }, .bool false, .int .i64 0, .int .i64 0, .int .i64 0, .slice none 0 0] 2 (.agg #[.int .i64 1, .string (numS R), .string (denS R), .string { data := #[] }, .bool false, .int .i64 0, .int .i64 0, .int .i64 0, .slice none 0 0]))
    (rmod : MathRow { data := #[77, 79, 68] } #[.int .i64 1, .string (numS A), .string (denS A), .string { data := #[] }, .bool false, .int .i64 0, .int .i64 0, .int .i64 0, .slice none 0 0, .int .i64 1, .string (numS on), .string (denS on), .string { data := #[] }, .bool false, .int .i64 0, .int .i64 0, .int .i64 0, .slice none 0 0] 2 (.agg #[.int .i64 1, .string (numS M), .string (denS M), .string { data := #[] }, .bool false, .int .i64 0, .int .i64 0, .int .i64 0, .slice none 0 0]))
    (rproduct : MathRow { data := #[80, 82, 79, 68, 85, 67, 84] } #[.int .i64 1, .string (numS I), .string (denS I), .string { data := #[] }, .bool false, .int .i64 0, .int .i64 0, .int .i64 0, .slice none 0 0, .int .i64 1, .string (numS mo), .string (denS mo), .string { data := #[] }, .bool false, .int .i64 0, .int .i64 0, .int .i64 0, .slice none 0 0] 2 (.agg #[.int .i64 1, .string (numS P), .string (denS P), .string { data := #[] }, .bool false, .int .i64 0, .int .i64 0, .int .i64 0, .slice none 0 0]))
    (rsum : MathRow { data := #[83, 85, 77] } #[.int .i64 1, .string (numS A), .string (denS A), .string { data := #[] }, .bool false, .int .i64 0, .int .i64 0, .int .i64 0, .slice none 0 0, .int .i64 1, .string (numS P), .string (denS P), .string { data := #[] }, .bool false, .int .i64 0, .int .i64 0, .int .i64 0, .slice none 0 0] 2 (.agg #[.int .i64 1, .string (numS M), .string (denS M), .string { data := #[] }, .bool false, .int .i64 0, .int .i64 0, .int .i64 0, .slice none 0 0]))
    (tx : Fun1 14 (.int .i64 x) (.agg #[.int .i64 1, .string (numS A), .string (denS A), .string { data := #[] }, .bool false, .int .i64 0, .int .i64 0, .int .i64 0, .slice none 0 0]))
    (th : Fun1 14 (.int .i64 1000050) (.agg #[.int .i64 1, .string (numS H), .string (denS H), .string { data := #[] }, .bool false, .int .i64 0, .int .i64 0, .int .i64 0, .slice none 0 0]))
    (tk : Fun1 11 (.int .i64 (m - 2)) (.agg #[.int .i64 1, .string (numS K), .string (denS K), .string { data := #[] }, .bool false, .int .i64 0, .int .i64 0, .int .i64 0, .slice none 0 0]))
    (ton : Fun1 11 (.int .i64 1) (.agg #[.int .i64 1, .string (numS on), .string (denS on), .string { data := #[] }, .bool false, .int .i64 0, .int .i64 0, .int .i64 0, .slice none 0 0]))
    (tmo : Fun1 11 (.int .i64 (-1)) (.agg #[.int .i64 1, .string (numS mo), .string (denS mo), .string { data := #[] }, .bool false, .int .i64 0, .int .i64 0, .int .i64 0, .slice none 0 0]))
    (abA : Fun1 21 (.agg #[.int .i64 1, .string (numS A), .string (denS A), .string { data := #[] }, .bool false, .int .i64 0, .int .i64 0, .int .i64 0, .slice none 0 0]) (.agg #[.int .i64 1, .string (numS aA), .string (denS aA), .string { data := #[] }, .bool false, .int .i64 0, .int .i64 0, .int .i64 0, .slice none 0 0]))
    (abD : Fun1 21 (.agg #[.int .i64 1, .string (numS D), .string (denS D), .string { data := #[] }, .bool false, .int .i64 0, .int .i64 0, .int .i64 0, .slice none 0 0]) (.agg #[.int .i64 1, .string (numS aD), .string (denS aD), .string { data := #[] }, .bool false, .int .i64 0, .int .i64 0, .int .i64 0, .slice none 0 0]))
    (abU : Fun1 21 (.agg #[.int .i64 1, .string (numS U), .string (denS U), .string { data := #[] }, .bool false, .int .i64 0, .int .i64 0, .int .i64 0, .slice none 0 0]) (.agg #[.int .i64 1, .string (numS aU), .string (denS aU), .string { data := #[] }, .bool false, .int .i64 0, .int .i64 0, .int .i64 0, .slice none 0 0]))
    (abR : Fun1 21 (.agg #[.int .i64 1, .string (numS R), .string (denS R), .string { data := #[] }, .bool false, .int .i64 0, .int .i64 0, .int .i64 0, .slice none 0 0]) (.agg #[.int .i64 1, .string (numS aR), .string (denS aR), .string { data := #[] }, .bool false, .int .i64 0, .int .i64 0, .int .i64 0, .slice none 0 0]))
    (abT : Fun1 21 (.agg #[.int .i64 1, .string (numS T), .string (denS T), .string { data := #[] }, .bool false, .int .i64 0, .int .i64 0, .int .i64 0, .slice none 0 0]) (.agg #[.int .i64 1, .string (numS aT), .string (denS aT), .string { data := #[] }, .bool false, .int .i64 0, .int .i64 0, .int .i64 0, .slice none 0 0]))
    (leaDaA : Fun2 19 (.agg #[.int .i64 1, .string (numS aD), .string (denS aD), .string { data := #[] }, .bool false, .int .i64 0, .int .i64 0, .int .i64 0, .slice none 0 0]) (.agg #[.int .i64 1, .string (numS aA), .string (denS aA), .string { data := #[] }, .bool false, .int .i64 0, .int .i64 0, .int .i64 0, .slice none 0 0]) (.bool true))
    (leaAaU : Fun2 19 (.agg #[.int .i64 1, .string (numS aA), .string (denS aA), .string { data := #[] }, .bool false, .int .i64 0, .int .i64 0, .int .i64 0, .slice none 0 0]) (.agg #[.int .i64 1, .string (numS aU), .string (denS aU), .string { data := #[] }, .bool false, .int .i64 0, .int .i64 0, .int .i64 0, .slice none 0 0]) (.bool true))
    (leaDaR : Fun2 19 (.agg #[.int .i64 1, .string (numS aD), .string (denS aD), .string { data := #[] }, .bool false, .int .i64 0, .int .i64 0, .int .i64 0, .slice none 0 0]) (.agg #[.int .i64 1, .string (numS aR), .string (denS aR), .string { data := #[] }, .bool false, .int .i64 0, .int .i64 0, .int .i64 0, .slice none 0 0]) (.bool true))
    (leaRaU : Fun2 19 (.agg #[.int .i64 1, .string (numS aR), .string (denS aR), .string { data := #[] }, .bool false, .int .i64 0, .int .i64 0, .int .i64 0, .slice none 0 0]) (.agg #[.int .i64 1, .string (numS aU), .string (denS aU), .string { data := #[] }, .bool false, .int .i64 0, .int .i64 0, .int .i64 0, .slice none 0 0]) (.bool true))
    (leFlA : Fun2 19 (.agg #[.int .i64 1, .string (numS Fl), .string (denS Fl), .string { data := #[] }, .bool false, .int .i64 0, .int .i64 0, .int .i64 0, .slice none 0 0]) (.agg #[.int .i64 1, .string (numS A), .string (denS A), .string { data := #[] }, .bool false, .int .i64 0, .int .i64 0, .int .i64 0, .slice none 0 0]) (.bool true))
    (leACe : Fun2 19 (.agg #[.int .i64 1, .string (numS A), .string (denS A), .string { data := #[] }, .bool false, .int .i64 0, .int .i64 0, .int .i64 0, .slice none 0 0]) (.agg #[.int .i64 1, .string (numS Ce), .string (denS Ce), .string { data := #[] }, .bool false, .int .i64 0, .int .i64 0, .int .i64 0, .slice none 0 0]) (.bool true))
    (leIA : Fun2 19 (.agg #[.int .i64 1, .string (numS I), .string (denS I), .string { data := #[] }, .bool false, .int .i64 0, .int .i64 0, .int .i64 0, .slice none 0 0]) (.agg #[.int .i64 1, .string (numS A), .string (denS A), .string { data := #[] }, .bool false, .int .i64 0, .int .i64 0, .int .i64 0, .slice none 0 0]) (.bool true))
    (leaTaA : Fun2 19 (.agg #[.int .i64 1, .string (numS aT), .string (denS aT), .string { data := #[] }, .bool false, .int .i64 0, .int .i64 0, .int .i64 0, .slice none 0 0]) (.agg #[.int .i64 1, .string (numS aA), .string (denS aA), .string { data := #[] }, .bool false, .int .i64 0, .int .i64 0, .int .i64 0, .slice none 0 0]) (.bool true)) :
    Calls Tryz.prog 8 #[.int .i64 x, .int .i64 y] w fun e w' => e = .returned (.bool true) ∧ Below w.heap.size w w' := by
  have TMy := Lib.hid (fun W => kmod_any y 5 hy0 hy1 (by decide) (by decide) W)
  rw [hm] at TMy
  have hm0 : 0 ≤ m ∧ m ≤ 4 := by omega
  have Qrround := Lib.hid (fun W G h g => rround W G h g)
  have Qrroundup := Lib.hid (fun W G h g => rroundup W G h g)
  have Qrrounddown := Lib.hid (fun W G h g => rrounddown W G h g)
  have Qrceiling := Lib.hid (fun W G h g => rceiling W G h g)
  have Qrfloor := Lib.hid (fun W G h g => rfloor W G h g)
  have Qrint := Lib.hid (fun W G h g => rint W G h g)
  have Qrtrunc := Lib.hid (fun W G h g => rtrunc W G h g)
  have Qrabs := Lib.hid (fun W G h g => rabs W G h g)
  have Qrround2 := Lib.hid (fun W G h g => rround2 W G h g)
  have Qrmod := Lib.hid (fun W G h g => rmod W G h g)
  have Qrproduct := Lib.hid (fun W G h g => rproduct W G h g)
  have Qrsum := Lib.hid (fun W G h g => rsum W G h g)
  have Qtx := Lib.hid tx
  have Qth := Lib.hid th
  have Qtk := Lib.hid tk
  have Qton := Lib.hid ton
  have Qtmo := Lib.hid tmo
  have QabA := Lib.hid abA
  have QabD := Lib.hid abD
  have QabU := Lib.hid abU
  have QabR := Lib.hid abR
  have QabT := Lib.hid abT
  have QleaDaA := Lib.hid leaDaA
  have QleaAaU := Lib.hid leaAaU
  have QleaDaR := Lib.hid leaDaR
  have QleaRaU := Lib.hid leaRaU
  have QleFlA := Lib.hid leFlA
  have QleACe := Lib.hid leACe
  have QleIA := Lib.hid leIA
  have QleaTaA := Lib.hid leaTaA
  have Qrabs0 := Lib.hid rabs
  have RS := Lib.hid same_one
  have HE := Lib.hid hE
  have HL := Lib.hid (Below.refl w.heap.size w)
  unfold Fun1 at Qtx Qth Qtk Qton Qtmo QabA QabD QabU QabR QabT
  unfold Fun2 at QleaDaA  QleaAaU  QleaDaR  QleaRaU  QleFlA  QleACe  QleIA  QleaTaA
  clear hE hm hy0 hy1 rround rroundup rrounddown rceiling rfloor rint rtrunc rabs rround2 rmod rproduct rsum tx th tk ton tmo abA abD abU abR abT leaDaA leaAaU leaDaR leaRaU leFlA leACe leIA leaTaA
  have hf1 : ∀ w : World, (Instr.field 27 (.agg #[.int .i64 1, .string (numS aA), .string (denS aA), .string { data := #[] }, .bool false, .int .i64 0, .int .i64 0, .int .i64 0, .slice none 0 0]) 0).run Tryz.prog w = .ok (.int .i64 1) w := fun _ => by kernel_rfl
  go_enter Tryz.func8, Tryz.ntmps8
  go_wp2_with fail
  (with_reducible refine (Qtx.out _ HE.out).mono ?_)
  rintro e w1 ⟨rfl, hq⟩
  replace HE := Lib.hid (HE.out.below hq)
  replace HL := Lib.hid (HL.out.trans (hq.mono HL.out.size))
  clear hq
  go_wp2_with fail
  refine (TMy.out _).mono ?_
  rintro e w2 ⟨rfl, rfl⟩
  go_wp2_with fail
  (with_reducible refine (Qtk.out _ HE.out).mono ?_)
  rintro e w3 ⟨rfl, hq⟩
  replace HE := Lib.hid (HE.out.below hq)
  replace HL := Lib.hid (HL.out.trans (hq.mono HL.out.size))
  clear hq
  have hq : Below w3.heap.size w3 ((w3.alloc (.cells #[.int .i64 1, .string (numS A), .string (denS A), .string { data := #[] }, .bool false, .int .i64 0, .int .i64 0, .int .i64 0, .slice none 0 0] 27)).alloc (.cells #[.int .i64 1, .string (numS K), .string (denS K), .string { data := #[] }, .bool false, .int .i64 0, .int .i64 0, .int .i64 0, .slice none 0 0] 27)) := (((Below.refl _ _).alloc (Nat.le_refl _) _).alloc (by simp) _)
  replace HE := Lib.hid (HE.out.below hq)
  replace HL := Lib.hid (HL.out.trans (hq.mono HL.out.size))
  have H5 : Hid (((w3.alloc (.cells #[.int .i64 1, .string (numS A), .string (denS A), .string { data := #[] }, .bool false, .int .i64 0, .int .i64 0, .int .i64 0, .slice none 0 0] 27)).alloc (.cells #[.int .i64 1, .string (numS K), .string (denS K), .string { data := #[] }, .bool false, .int .i64 0, .int .i64 0, .int .i64 0, .slice none 0 0] 27)).heap[w3.heap.size]? = some (.cells #[.int .i64 1, .string (numS A), .string (denS A), .string { data := #[] }, .bool false, .int .i64 0, .int .i64 0, .int .i64 0, .slice none 0 0] 27 (0, 0))) := Lib.hid (by
    have h := heap_alloc_new w3 (.cells #[.int .i64 1, .string (numS A), .string (denS A), .string { data := #[] }, .bool false, .int .i64 0, .int .i64 0, .int .i64 0, .slice none 0 0] 27)
    exact new_keep (h))
  have H6 : Hid (((w3.alloc (.cells #[.int .i64 1, .string (numS A), .string (denS A), .string { data := #[] }, .bool false, .int .i64 0, .int .i64 0, .int .i64 0, .slice none 0 0] 27)).alloc (.cells #[.int .i64 1, .string (numS K), .string (denS K), .string { data := #[] }, .bool false, .int .i64 0, .int .i64 0, .int .i64 0, .slice none 0 0] 27)).heap[w3.heap.size + 1]? = some (.cells #[.int .i64 1, .string (numS K), .string (denS K), .string { data := #[] }, .bool false, .int .i64 0, .int .i64 0, .int .i64 0, .slice none 0 0] 27 (0, 0))) := Lib.hid (by
    have h := heap_alloc_new (w3.alloc (.cells #[.int .i64 1, .string (numS A), .string (denS A), .string { data := #[] }, .bool false, .int .i64 0, .int .i64 0, .int .i64 0, .slice none 0 0] 27)) (.cells #[.int .i64 1, .string (numS K), .string (denS K), .string { data := #[] }, .bool false, .int .i64 0, .int .i64 0, .int .i64 0, .slice none 0 0] 27)
    simp only [World.size_alloc] at h
    exact h)
  clear hq
  obtain ⟨WL1, hWL1⟩ : ∃ Z, ((w3.alloc (.cells #[.int .i64 1, .string (numS A), .string (denS A), .string { data := #[] }, .bool false, .int .i64 0, .int .i64 0, .int .i64 0, .slice none 0 0] 27)).alloc (.cells #[.int .i64 1, .string (numS K), .string (denS K), .string { data := #[] }, .bool false, .int .i64 0, .int .i64 0, .int .i64 0, .slice none 0 0] 27)) = Z := ⟨_, rfl⟩
  rw [hWL1] at HE HL H5 H6
  have EWL1 := Lib.hid hWL1
  clear hWL1
  go_wp2_with fail
  rw [EWL1.out]
  have hok : okB 18 (RNKs2 w3 A K R U D Ce Fl H I T M P aA aD aU aR aT on mo) = true := by kernel_rfl
  have hna := noAny_of (ks := (RNKs2 w3 A K R U D Ce Fl H I T M P aA aD aU aR aT on mo)) (by kernel_rfl)
  have hla := lasts_of hna
  refine wp_region_facts (row := none) (w := WL1) 18 (RNKs2 w3 A K R U D Ce Fl H I T M P aA aD aU aR aT on mo) [some 23, some 24, some 25, some 26, some 27, some 28, some 29, some 30, some 31, some 32, some 33, some 34, some 7, some 8, some 9, none, none, none] (by kernel_rfl) (by kernel_rfl) rfl [undef, undef, undef, undef, undef, undef, undef, undef, undef, undef, undef, undef, undef, undef, undef, undef, undef, undef] ?h00 (Fs.start rfl rfl) ?hs ?hd
  case h00 => simp only [putO, layT_some, layT_none, layT_nil, List.setIfInBounds_toArray, List.set_cons_zero, List.set_cons_succ]
  case hs =>
    rintro listed vs Wr hF i hi hun hpre
    obtain ⟨s0, s1, s2, s3, s4, s5, s6, s7, s8, s9, s10, s11, s12, s13, s14, s15, s16, s17, hvs⟩ := exl_of 18 vs (fun l => vs = l) hF.len rfl
    subst hvs
    have hge := Nat.zero_le i
    simp only [putO, layT_some, layT_none, layT_nil, List.setIfInBounds_toArray, List.set_cons_zero, List.set_cons_succ]
    rcases Nat.lt_or_ge i 9 with hlt | hgt
    · replace hi := hlt
      clear hlt
      rcases Nat.lt_or_ge i 4 with hlt | hgt
      · replace hi := hlt
        clear hlt
        rcases Nat.lt_or_ge i 2 with hlt | hgt
        · replace hi := hlt
          clear hlt
          rcases Nat.lt_or_ge i 1 with hlt | hgt
          · replace hi := hlt
            clear hlt
            have he : i = 0 := Nat.le_antisymm (Nat.le_of_lt_succ hi) hge
            subst he
            have hcc := (nine_at (keep_block H5.out (below_none hF.low))).1
            have cH50 := hcc.1
            have cH51 := hcc.2.1
            have cH52 := hcc.2.2.1
            have cH53 := hcc.2.2.2.1
            have cH54 := hcc.2.2.2.2.1
            have cH55 := hcc.2.2.2.2.2.1
            have cH56 := hcc.2.2.2.2.2.2.1
            have cH57 := hcc.2.2.2.2.2.2.2.1
            have cH58 := hcc.2.2.2.2.2.2.2.2
            clear hcc
            refine step_of ⟨some 23, _, _, _, _, _⟩ rfl (fun K' hK => ?_)
            go_simp
            refine hK.out _ _ ⟨_, hF.pure hok hla hpre rfl (Below.refl _ _), ?fr⟩
            case fr => simp only [putO, layT_some, layT_none, layT_nil, List.setIfInBounds_toArray, List.set_cons_zero, List.set_cons_succ]
          · replace hge : 1 ≤ i := hgt
            clear hgt
            have he : i = 1 := Nat.le_antisymm (Nat.le_of_lt_succ hi) hge
            subst he
            have hcc := (nine_at (keep_block H6.out (below_none hF.low))).1
            have cH60 := hcc.1
            have cH61 := hcc.2.1
            have cH62 := hcc.2.2.1
            have cH63 := hcc.2.2.2.1
            have cH64 := hcc.2.2.2.2.1
            have cH65 := hcc.2.2.2.2.2.1
            have cH66 := hcc.2.2.2.2.2.2.1
            have cH67 := hcc.2.2.2.2.2.2.2.1
            have cH68 := hcc.2.2.2.2.2.2.2.2
            clear hcc
            refine step_of ⟨some 24, _, _, _, _, _⟩ rfl (fun K' hK => ?_)
            go_simp
            refine hK.out _ _ ⟨_, hF.pure hok hla hpre rfl (Below.refl _ _), ?fr⟩
            case fr => simp only [putO, layT_some, layT_none, layT_nil, List.setIfInBounds_toArray, List.set_cons_zero, List.set_cons_succ]
        · replace hge : 2 ≤ i := hgt
          clear hgt
          rcases Nat.lt_or_ge i 3 with hlt | hgt
          · replace hi := hlt
            clear hlt
            have he : i = 2 := Nat.le_antisymm (Nat.le_of_lt_succ hi) hge
            subst he
            have p0 := hpre 0 (by kernel_rfl)
            have e0 : s0 = .agg #[.int .i64 1, .string (numS A), .string (denS A), .string { data := #[] }, .bool false, .int .i64 0, .int .i64 0, .int .i64 0, .slice none 0 0] := hF.get 0 _ rfl (.inr p0)
            subst e0
            have p1 := hpre 1 (by kernel_rfl)
            have e1 : s1 = .agg #[.int .i64 1, .string (numS K), .string (denS K), .string { data := #[] }, .bool false, .int .i64 0, .int .i64 0, .int .i64 0, .slice none 0 0] := hF.get 1 _ rfl (.inr p1)
            subst e1
            refine step_of ⟨some 25, _, _, _, _, _⟩ rfl (fun K' hK => ?_)
            go_simp
            refine hK.out _ _ ⟨_, hF.row hok hla hpre rfl, ?fr⟩
            case fr => simp only [putO, layT_some, layT_none, layT_nil, List.setIfInBounds_toArray, List.set_cons_zero, List.set_cons_succ]
          · replace hge : 3 ≤ i := hgt
            clear hgt
            have he : i = 3 := Nat.le_antisymm (Nat.le_of_lt_succ hi) hge
            subst he
            have p2 := hpre 2 (by kernel_rfl)
            obtain ⟨G, eG, _, hGB⟩ : ∃ G, s2 = .slice (some ⟨G, 0, none⟩) 2 2 ∧ _ ≤ G ∧ Wr.heap[G]? = some (.cells #[.int .i64 1, .string (numS A), .string (denS A), .string { data := #[] }, .bool false, .int .i64 0, .int .i64 0, .int .i64 0, .slice none 0 0, .int .i64 1, .string (numS K), .string (denS K), .string { data := #[] }, .bool false, .int .i64 0, .int .i64 0, .int .i64 0, .slice none 0 0] 27 (0, 0)) := hF.get 2 _ rfl (.inr p2)
            subst eG
            refine step_of ⟨some 26, _, _, _, _, _⟩ rfl (fun K' hK => ?_)
            go_simp
            go_at_call 10
            (with_reducible refine (Qrround.out _ _ hGB (HE.out.below (below_none hF.low))).mono ?_)
            rintro e Wq ⟨rfl, hq⟩
            refine hK.out _ _ ⟨_, hF.pure hok hla hpre rfl hq, ?fr⟩
            case fr => simp only [putO, layT_some, layT_none, layT_nil, List.setIfInBounds_toArray, List.set_cons_zero, List.set_cons_succ]
      · replace hge : 4 ≤ i := hgt
        clear hgt
        rcases Nat.lt_or_ge i 6 with hlt | hgt
        · replace hi := hlt
          clear hlt
          rcases Nat.lt_or_ge i 5 with hlt | hgt
          · replace hi := hlt
            clear hlt
            have he : i = 4 := Nat.le_antisymm (Nat.le_of_lt_succ hi) hge
            subst he
            have hcc := (nine_at (keep_block H5.out (below_none hF.low))).1
            have cH50 := hcc.1
            have cH51 := hcc.2.1
            have cH52 := hcc.2.2.1
            have cH53 := hcc.2.2.2.1
            have cH54 := hcc.2.2.2.2.1
            have cH55 := hcc.2.2.2.2.2.1
            have cH56 := hcc.2.2.2.2.2.2.1
            have cH57 := hcc.2.2.2.2.2.2.2.1
            have cH58 := hcc.2.2.2.2.2.2.2.2
            clear hcc
            refine step_of ⟨some 27, _, _, _, _, _⟩ rfl (fun K' hK => ?_)
            go_simp
            refine hK.out _ _ ⟨_, hF.pure hok hla hpre rfl (Below.refl _ _), ?fr⟩
            case fr => simp only [putO, layT_some, layT_none, layT_nil, List.setIfInBounds_toArray, List.set_cons_zero, List.set_cons_succ]
          · replace hge : 5 ≤ i := hgt
            clear hgt
            have he : i = 5 := Nat.le_antisymm (Nat.le_of_lt_succ hi) hge
            subst he
            have hcc := (nine_at (keep_block H6.out (below_none hF.low))).1
            have cH60 := hcc.1
            have cH61 := hcc.2.1
            have cH62 := hcc.2.2.1
            have cH63 := hcc.2.2.2.1
            have cH64 := hcc.2.2.2.2.1
            have cH65 := hcc.2.2.2.2.2.1
            have cH66 := hcc.2.2.2.2.2.2.1
            have cH67 := hcc.2.2.2.2.2.2.2.1
            have cH68 := hcc.2.2.2.2.2.2.2.2
            clear hcc
            refine step_of ⟨some 28, _, _, _, _, _⟩ rfl (fun K' hK => ?_)
            go_simp
            refine hK.out _ _ ⟨_, hF.pure hok hla hpre rfl (Below.refl _ _), ?fr⟩
            case fr => simp only [putO, layT_some, layT_none, layT_nil, List.setIfInBounds_toArray, List.set_cons_zero, List.set_cons_succ]
        · replace hge : 6 ≤ i := hgt
          clear hgt
          rcases Nat.lt_or_ge i 7 with hlt | hgt
          · replace hi := hlt
            clear hlt
            have he : i = 6 := Nat.le_antisymm (Nat.le_of_lt_succ hi) hge
            subst he
            have p4 := hpre 4 (by kernel_rfl)
            have e4 : s4 = .agg #[.int .i64 1, .string (numS A), .string (denS A), .string { data := #[] }, .bool false, .int .i64 0, .int .i64 0, .int .i64 0, .slice none 0 0] := hF.get 4 _ rfl (.inr p4)
            subst e4
            have p5 := hpre 5 (by kernel_rfl)
            have e5 : s5 = .agg #[.int .i64 1, .string (numS K), .string (denS K), .string { data := #[] }, .bool false, .int .i64 0, .int .i64 0, .int .i64 0, .slice none 0 0] := hF.get 5 _ rfl (.inr p5)
            subst e5
            refine step_of ⟨some 29, _, _, _, _, _⟩ rfl (fun K' hK => ?_)
            go_simp
            refine hK.out _ _ ⟨_, hF.row hok hla hpre rfl, ?fr⟩
            case fr => simp only [putO, layT_some, layT_none, layT_nil, List.setIfInBounds_toArray, List.set_cons_zero, List.set_cons_succ]
          · replace hge : 7 ≤ i := hgt
            clear hgt
            rcases Nat.lt_or_ge i 8 with hlt | hgt
            · replace hi := hlt
              clear hlt
              have he : i = 7 := Nat.le_antisymm (Nat.le_of_lt_succ hi) hge
              subst he
              have p6 := hpre 6 (by kernel_rfl)
              obtain ⟨G, eG, _, hGB⟩ : ∃ G, s6 = .slice (some ⟨G, 0, none⟩) 2 2 ∧ _ ≤ G ∧ Wr.heap[G]? = some (.cells #[.int .i64 1, .string (numS A), .string (denS A), .string { data := #[] }, .bool false, .int .i64 0, .int .i64 0, .int .i64 0, .slice none 0 0, .int .i64 1, .string (numS K), .string (denS K), .string { data := #[] }, .bool false, .int .i64 0, .int .i64 0, .int .i64 0, .slice none 0 0] 27 (0, 0)) := hF.get 6 _ rfl (.inr p6)
              subst eG
              refine step_of ⟨some 30, _, _, _, _, _⟩ rfl (fun K' hK => ?_)
              go_simp
              go_at_call 10
              (with_reducible refine (Qrroundup.out _ _ hGB (HE.out.below (below_none hF.low))).mono ?_)
              rintro e Wq ⟨rfl, hq⟩
              refine hK.out _ _ ⟨_, hF.pure hok hla hpre rfl hq, ?fr⟩
              case fr => simp only [putO, layT_some, layT_none, layT_nil, List.setIfInBounds_toArray, List.set_cons_zero, List.set_cons_succ]
            · replace hge : 8 ≤ i := hgt
              clear hgt
              have he : i = 8 := Nat.le_antisymm (Nat.le_of_lt_succ hi) hge
              subst he
              have hcc := (nine_at (keep_block H5.out (below_none hF.low))).1
              have cH50 := hcc.1
              have cH51 := hcc.2.1
              have cH52 := hcc.2.2.1
              have cH53 := hcc.2.2.2.1
              have cH54 := hcc.2.2.2.2.1
              have cH55 := hcc.2.2.2.2.2.1
              have cH56 := hcc.2.2.2.2.2.2.1
              have cH57 := hcc.2.2.2.2.2.2.2.1
              have cH58 := hcc.2.2.2.2.2.2.2.2
              clear hcc
              refine step_of ⟨some 31, _, _, _, _, _⟩ rfl (fun K' hK => ?_)
              go_simp
              refine hK.out _ _ ⟨_, hF.pure hok hla hpre rfl (Below.refl _ _), ?fr⟩
              case fr => simp only [putO, layT_some, layT_none, layT_nil, List.setIfInBounds_toArray, List.set_cons_zero, List.set_cons_succ]
    · replace hge : 9 ≤ i := hgt
      clear hgt
      rcases Nat.lt_or_ge i 13 with hlt | hgt
      · replace hi := hlt
        clear hlt
        rcases Nat.lt_or_ge i 11 with hlt | hgt
        · replace hi := hlt
          clear hlt
          rcases Nat.lt_or_ge i 10 with hlt | hgt
          · replace hi := hlt
            clear hlt
            have he : i = 9 := Nat.le_antisymm (Nat.le_of_lt_succ hi) hge
            subst he
            have hcc := (nine_at (keep_block H6.out (below_none hF.low))).1
            have cH60 := hcc.1
            have cH61 := hcc.2.1
            have cH62 := hcc.2.2.1
            have cH63 := hcc.2.2.2.1
            have cH64 := hcc.2.2.2.2.1
            have cH65 := hcc.2.2.2.2.2.1
            have cH66 := hcc.2.2.2.2.2.2.1
            have cH67 := hcc.2.2.2.2.2.2.2.1
            have cH68 := hcc.2.2.2.2.2.2.2.2
            clear hcc
            refine step_of ⟨some 32, _, _, _, _, _⟩ rfl (fun K' hK => ?_)
            go_simp
            refine hK.out _ _ ⟨_, hF.pure hok hla hpre rfl (Below.refl _ _), ?fr⟩
            case fr => simp only [putO, layT_some, layT_none, layT_nil, List.setIfInBounds_toArray, List.set_cons_zero, List.set_cons_succ]
          · replace hge : 10 ≤ i := hgt
            clear hgt
            have he : i = 10 := Nat.le_antisymm (Nat.le_of_lt_succ hi) hge
            subst he
            have p8 := hpre 8 (by kernel_rfl)
            have e8 : s8 = .agg #[.int .i64 1, .string (numS A), .string (denS A), .string { data := #[] }, .bool false, .int .i64 0, .int .i64 0, .int .i64 0, .slice none 0 0] := hF.get 8 _ rfl (.inr p8)
            subst e8
            have p9 := hpre 9 (by kernel_rfl)
            have e9 : s9 = .agg #[.int .i64 1, .string (numS K), .string (denS K), .string { data := #[] }, .bool false, .int .i64 0, .int .i64 0, .int .i64 0, .slice none 0 0] := hF.get 9 _ rfl (.inr p9)
            subst e9
            refine step_of ⟨some 33, _, _, _, _, _⟩ rfl (fun K' hK => ?_)
            go_simp
            refine hK.out _ _ ⟨_, hF.row hok hla hpre rfl, ?fr⟩
            case fr => simp only [putO, layT_some, layT_none, layT_nil, List.setIfInBounds_toArray, List.set_cons_zero, List.set_cons_succ]
        · replace hge : 11 ≤ i := hgt
          clear hgt
          rcases Nat.lt_or_ge i 12 with hlt | hgt
          · replace hi := hlt
            clear hlt
            have he : i = 11 := Nat.le_antisymm (Nat.le_of_lt_succ hi) hge
            subst he
            have p10 := hpre 10 (by kernel_rfl)
            obtain ⟨G, eG, _, hGB⟩ : ∃ G, s10 = .slice (some ⟨G, 0, none⟩) 2 2 ∧ _ ≤ G ∧ Wr.heap[G]? = some (.cells #[.int .i64 1, .string (numS A), .string (denS A), .string { data := #[] }, .bool false, .int .i64 0, .int .i64 0, .int .i64 0, .slice none 0 0, .int .i64 1, .string (numS K), .string (denS K), .string { data := #[] }, .bool false, .int .i64 0, .int .i64 0, .int .i64 0, .slice none 0 0] 27 (0, 0)) := hF.get 10 _ rfl (.inr p10)
            subst eG
            refine step_of ⟨some 34, _, _, _, _, _⟩ rfl (fun K' hK => ?_)
            go_simp
            go_at_call 10
            (with_reducible refine (Qrrounddown.out _ _ hGB (HE.out.below (below_none hF.low))).mono ?_)
            rintro e Wq ⟨rfl, hq⟩
            refine hK.out _ _ ⟨_, hF.pure hok hla hpre rfl hq, ?fr⟩
            case fr => simp only [putO, layT_some, layT_none, layT_nil, List.setIfInBounds_toArray, List.set_cons_zero, List.set_cons_succ]
          · replace hge : 12 ≤ i := hgt
            clear hgt
            have he : i = 12 := Nat.le_antisymm (Nat.le_of_lt_succ hi) hge
            subst he
            refine step_of ⟨some 7, _, _, _, _, _⟩ rfl (fun K' hK => ?_)
            go_simp
            refine hK.out _ _ ⟨_, hF.box hok hla hpre hun rfl, ?fr⟩
            case fr => simp only [putO, layT_some, layT_none, layT_nil, List.setIfInBounds_toArray, List.set_cons_zero, List.set_cons_succ]
      · replace hge : 13 ≤ i := hgt
        clear hgt
        rcases Nat.lt_or_ge i 15 with hlt | hgt
        · replace hi := hlt
          clear hlt
          rcases Nat.lt_or_ge i 14 with hlt | hgt
          · replace hi := hlt
            clear hlt
            have he : i = 13 := Nat.le_antisymm (Nat.le_of_lt_succ hi) hge
            subst he
            refine step_of ⟨some 8, _, _, _, _, _⟩ rfl (fun K' hK => ?_)
            go_simp
            refine hK.out _ _ ⟨_, hF.box hok hla hpre hun rfl, ?fr⟩
            case fr => simp only [putO, layT_some, layT_none, layT_nil, List.setIfInBounds_toArray, List.set_cons_zero, List.set_cons_succ]
          · replace hge : 14 ≤ i := hgt
            clear hgt
            have he : i = 14 := Nat.le_antisymm (Nat.le_of_lt_succ hi) hge
            subst he
            refine step_of ⟨some 9, _, _, _, _, _⟩ rfl (fun K' hK => ?_)
            go_simp
            refine hK.out _ _ ⟨_, hF.box hok hla hpre hun rfl, ?fr⟩
            case fr => simp only [putO, layT_some, layT_none, layT_nil, List.setIfInBounds_toArray, List.set_cons_zero, List.set_cons_succ]
        · replace hge : 15 ≤ i := hgt
          clear hgt
          rcases Nat.lt_or_ge i 16 with hlt | hgt
          · replace hi := hlt
            clear hlt
            have he : i = 15 := Nat.le_antisymm (Nat.le_of_lt_succ hi) hge
            subst he
            have p12 := hpre 12 (by kernel_rfl)
            obtain ⟨G, eG, _, hGl, hGB⟩ : ∃ G, s12 = .pointer (some ⟨G, 0, none⟩) ∧ (∀ k, none = some k → G = k) ∧ WL1.heap.size ≤ G ∧ Wr.heap[G]? = some (.cells (if listed.getD 15 false = true then #[.int .i64 1, .string (numS R), .string (denS R), .string { data := #[] }, .bool false, .int .i64 0, .int .i64 0, .int .i64 0, .slice none 0 0] else #[.int .i64 0, .string { data := #[] }, .string { data := #[] }, .string { data := #[] }, .bool false, .int .i64 0, .int .i64 0, .int .i64 0, .slice none 0 0]) 27 (0, 0)) := hF.get 12 _ rfl (.inr p12)
            subst eG
            rw [if_neg (bit_off hun)] at hGB
            have HGB := Lib.hid hGB
            clear hGB
            have p3 := hpre 3 (by kernel_rfl)
            have e3 : s3 = .agg #[.int .i64 1, .string (numS R), .string (denS R), .string { data := #[] }, .bool false, .int .i64 0, .int .i64 0, .int .i64 0, .slice none 0 0] := hF.get 3 _ rfl (.inr p3)
            subst e3
            obtain ⟨⟨y0, y1, y2, y3, y4, y5, y6, y7, y8⟩, g0, g1, g2, g3, g4, g5, g6, g7, g8⟩ := nine_at HGB.out
            refine step_of ⟨none, _, _, _, _, _⟩ rfl (fun K' hK => ?_)
            go_simp
            refine hK.out _ _ ⟨undef, hF.put hok hna hpre hun rfl undef rfl (.inr p12) rfl (set9_at HGB.out (.int .i64 1) (.string (numS R)) (.string (denS R)) (.string { data := #[] }) (.bool false) (.int .i64 0) (.int .i64 0) (.int .i64 0) (.slice none 0 0)) (fun k hk => set9_other _ _ (.int .i64 1) (.string (numS R)) (.string (denS R)) (.string { data := #[] }) (.bool false) (.int .i64 0) (.int .i64 0) (.int .i64 0) (.slice none 0 0) hk) (put9_below hGl _ (.int .i64 1) (.string (numS R)) (.string (denS R)) (.string { data := #[] }) (.bool false) (.int .i64 0) (.int .i64 0) (.int .i64 0) (.slice none 0 0)), ?fr⟩
            case fr => simp only [putO, layT_some, layT_none, layT_nil, List.setIfInBounds_toArray, List.set_cons_zero, List.set_cons_succ]
          · replace hge : 16 ≤ i := hgt
            clear hgt
            rcases Nat.lt_or_ge i 17 with hlt | hgt
            · replace hi := hlt
              clear hlt
              have he : i = 16 := Nat.le_antisymm (Nat.le_of_lt_succ hi) hge
              subst he
              have p13 := hpre 13 (by kernel_rfl)
              obtain ⟨G, eG, _, hGl, hGB⟩ : ∃ G, s13 = .pointer (some ⟨G, 0, none⟩) ∧ (∀ k, none = some k → G = k) ∧ WL1.heap.size ≤ G ∧ Wr.heap[G]? = some (.cells (if listed.getD 16 false = true then #[.int .i64 1, .string (numS U), .string (denS U), .string { data := #[] }, .bool false, .int .i64 0, .int .i64 0, .int .i64 0, .slice none 0 0] else #[.int .i64 0, .string { data := #[] }, .string { data := #[] }, .string { data := #[] }, .bool false, .int .i64 0, .int .i64 0, .int .i64 0, .slice none 0 0]) 27 (0, 0)) := hF.get 13 _ rfl (.inr p13)
              subst eG
              rw [if_neg (bit_off hun)] at hGB
              have HGB := Lib.hid hGB
              clear hGB
              have p7 := hpre 7 (by kernel_rfl)
              have e7 : s7 = .agg #[.int .i64 1, .string (numS U), .string (denS U), .string { data := #[] }, .bool false, .int .i64 0, .int .i64 0, .int .i64 0, .slice none 0 0] := hF.get 7 _ rfl (.inr p7)
              subst e7
              obtain ⟨⟨y0, y1, y2, y3, y4, y5, y6, y7, y8⟩, g0, g1, g2, g3, g4, g5, g6, g7, g8⟩ := nine_at HGB.out
              refine step_of ⟨none, _, _, _, _, _⟩ rfl (fun K' hK => ?_)
              go_simp
              refine hK.out _ _ ⟨undef, hF.put hok hna hpre hun rfl undef rfl (.inr p13) rfl (set9_at HGB.out (.int .i64 1) (.string (numS U)) (.string (denS U)) (.string { data := #[] }) (.bool false) (.int .i64 0) (.int .i64 0) (.int .i64 0) (.slice none 0 0)) (fun k hk => set9_other _ _ (.int .i64 1) (.string (numS U)) (.string (denS U)) (.string { data := #[] }) (.bool false) (.int .i64 0) (.int .i64 0) (.int .i64 0) (.slice none 0 0) hk) (put9_below hGl _ (.int .i64 1) (.string (numS U)) (.string (denS U)) (.string { data := #[] }) (.bool false) (.int .i64 0) (.int .i64 0) (.int .i64 0) (.slice none 0 0)), ?fr⟩
              case fr => simp only [putO, layT_some, layT_none, layT_nil, List.setIfInBounds_toArray, List.set_cons_zero, List.set_cons_succ]
            · replace hge : 17 ≤ i := hgt
              clear hgt
              have he : i = 17 := Nat.le_antisymm (Nat.le_of_lt_succ hi) hge
              subst he
              have p14 := hpre 14 (by kernel_rfl)
              obtain ⟨G, eG, _, hGl, hGB⟩ : ∃ G, s14 = .pointer (some ⟨G, 0, none⟩) ∧ (∀ k, none = some k → G = k) ∧ WL1.heap.size ≤ G ∧ Wr.heap[G]? = some (.cells (if listed.getD 17 false = true then #[.int .i64 1, .string (numS D), .string (denS D), .string { data := #[] }, .bool false, .int .i64 0, .int .i64 0, .int .i64 0, .slice none 0 0] else #[.int .i64 0, .string { data := #[] }, .string { data := #[] }, .string { data := #[] }, .bool false, .int .i64 0, .int .i64 0, .int .i64 0, .slice none 0 0]) 27 (0, 0)) := hF.get 14 _ rfl (.inr p14)
              subst eG
              rw [if_neg (bit_off hun)] at hGB
              have HGB := Lib.hid hGB
              clear hGB
              have p11 := hpre 11 (by kernel_rfl)
              have e11 : s11 = .agg #[.int .i64 1, .string (numS D), .string (denS D), .string { data := #[] }, .bool false, .int .i64 0, .int .i64 0, .int .i64 0, .slice none 0 0] := hF.get 11 _ rfl (.inr p11)
              subst e11
              obtain ⟨⟨y0, y1, y2, y3, y4, y5, y6, y7, y8⟩, g0, g1, g2, g3, g4, g5, g6, g7, g8⟩ := nine_at HGB.out
              refine step_of ⟨none, _, _, _, _, _⟩ rfl (fun K' hK => ?_)
              go_simp
              refine hK.out _ _ ⟨undef, hF.put hok hna hpre hun rfl undef rfl (.inr p14) rfl (set9_at HGB.out (.int .i64 1) (.string (numS D)) (.string (denS D)) (.string { data := #[] }) (.bool false) (.int .i64 0) (.int .i64 0) (.int .i64 0) (.slice none 0 0)) (fun k hk => set9_other _ _ (.int .i64 1) (.string (numS D)) (.string (denS D)) (.string { data := #[] }) (.bool false) (.int .i64 0) (.int .i64 0) (.int .i64 0) (.slice none 0 0) hk) (put9_below hGl _ (.int .i64 1) (.string (numS D)) (.string (denS D)) (.string { data := #[] }) (.bool false) (.int .i64 0) (.int .i64 0) (.int .i64 0) (.slice none 0 0)), ?fr⟩
              case fr => simp only [putO, layT_some, layT_none, layT_nil, List.setIfInBounds_toArray, List.set_cons_zero, List.set_cons_succ]
  case hd =>
    rintro listed vs WB hF hall
    obtain ⟨s0, s1, s2, s3, s4, s5, s6, s7, s8, s9, s10, s11, s12, s13, s14, s15, s16, s17, hvs⟩ := exl_of 18 vs (fun l => vs = l) hF.len rfl
    subst hvs
    obtain ⟨b7, e12, _, _, k12⟩ : ∃ G, s12 = .pointer (some ⟨G, 0, none⟩) ∧ (∀ k, none = some k → G = k) ∧ _ ≤ G ∧ WB.heap[G]? = some (.cells (if listed.getD 15 false = true then #[.int .i64 1, .string (numS R), .string (denS R), .string { data := #[] }, .bool false, .int .i64 0, .int .i64 0, .int .i64 0, .slice none 0 0] else #[.int .i64 0, .string { data := #[] }, .string { data := #[] }, .string { data := #[] }, .bool false, .int .i64 0, .int .i64 0, .int .i64 0, .slice none 0 0]) 27 (0, 0)) := hF.get 12 _ rfl (.inr (hall 12 (by decide)))
    subst e12
    rw [if_pos (hall 15 (by decide))] at k12
    have H7 := Lib.hid k12
    clear k12
    obtain ⟨b8, e13, _, _, k13⟩ : ∃ G, s13 = .pointer (some ⟨G, 0, none⟩) ∧ (∀ k, none = some k → G = k) ∧ _ ≤ G ∧ WB.heap[G]? = some (.cells (if listed.getD 16 false = true then #[.int .i64 1, .string (numS U), .string (denS U), .string { data := #[] }, .bool false, .int .i64 0, .int .i64 0, .int .i64 0, .slice none 0 0] else #[.int .i64 0, .string { data := #[] }, .string { data := #[] }, .string { data := #[] }, .bool false, .int .i64 0, .int .i64 0, .int .i64 0, .slice none 0 0]) 27 (0, 0)) := hF.get 13 _ rfl (.inr (hall 13 (by decide)))
    subst e13
    rw [if_pos (hall 16 (by decide))] at k13
    have H8 := Lib.hid k13
    clear k13
    obtain ⟨b9, e14, _, _, k14⟩ : ∃ G, s14 = .pointer (some ⟨G, 0, none⟩) ∧ (∀ k, none = some k → G = k) ∧ _ ≤ G ∧ WB.heap[G]? = some (.cells (if listed.getD 17 false = true then #[.int .i64 1, .string (numS D), .string (denS D), .string { data := #[] }, .bool false, .int .i64 0, .int .i64 0, .int .i64 0, .slice none 0 0] else #[.int .i64 0, .string { data := #[] }, .string { data := #[] }, .string { data := #[] }, .bool false, .int .i64 0, .int .i64 0, .int .i64 0, .slice none 0 0]) 27 (0, 0)) := hF.get 14 _ rfl (.inr (hall 14 (by decide)))
    subst e14
    rw [if_pos (hall 17 (by decide))] at k14
    have H9 := Lib.hid k14
    clear k14
    have hq := below_none hF.low
    replace HE := Lib.hid (HE.out.below hq)
    replace HL := Lib.hid (HL.out.trans (hq.mono HL.out.size))
    replace H5 := Lib.hid (keep_block H5.out hq)
    replace H6 := Lib.hid (keep_block H6.out hq)
    clear hq
    clear hF hall hok hna hla
    simp only [putO, layT_some, layT_none, layT_nil, List.setIfInBounds_toArray, List.set_cons_zero, List.set_cons_succ]
    go_wp2_with fail
    have hok : okB 12 (RNKs3 w3 b7 b8 b9 A K R U D Ce Fl H I T M P aA aD aU aR aT on mo) = true := by kernel_rfl
    have hna := noAny_of (ks := (RNKs3 w3 b7 b8 b9 A K R U D Ce Fl H I T M P aA aD aU aR aT on mo)) (by kernel_rfl)
    have hla := lasts_of hna
    refine wp_region_facts (row := none) (w := WB) 12 (RNKs3 w3 b7 b8 b9 A K R U D Ce Fl H I T M P aA aD aU aR aT on mo) [some 35, some 36, some 37, some 38, some 39, some 40, some 41, some 42, some 10, some 11, none, none] (by kernel_rfl) (by kernel_rfl) rfl [undef, undef, undef, undef, undef, undef, undef, undef, undef, undef, undef, undef] ?h00 (Fs.start rfl rfl) ?hs ?hd
    case h00 => simp only [putO, layT_some, layT_none, layT_nil, List.setIfInBounds_toArray, List.set_cons_zero, List.set_cons_succ]
    case hs =>
      rintro listed vs Wr hF i hi hun hpre
      obtain ⟨s0, s1, s2, s3, s4, s5, s6, s7, s8, s9, s10, s11, hvs⟩ := exl_of 12 vs (fun l => vs = l) hF.len rfl
      subst hvs
      have hge := Nat.zero_le i
      simp only [putO, layT_some, layT_none, layT_nil, List.setIfInBounds_toArray, List.set_cons_zero, List.set_cons_succ]
      rcases Nat.lt_or_ge i 6 with hlt | hgt
      · replace hi := hlt
        clear hlt
        rcases Nat.lt_or_ge i 3 with hlt | hgt
        · replace hi := hlt
          clear hlt
          rcases Nat.lt_or_ge i 1 with hlt | hgt
          · replace hi := hlt
            clear hlt
            have he : i = 0 := Nat.le_antisymm (Nat.le_of_lt_succ hi) hge
            subst he
            have hcc := (nine_at (keep_block H5.out (below_none hF.low))).1
            have cH50 := hcc.1
            have cH51 := hcc.2.1
            have cH52 := hcc.2.2.1
            have cH53 := hcc.2.2.2.1
            have cH54 := hcc.2.2.2.2.1
            have cH55 := hcc.2.2.2.2.2.1
            have cH56 := hcc.2.2.2.2.2.2.1
            have cH57 := hcc.2.2.2.2.2.2.2.1
            have cH58 := hcc.2.2.2.2.2.2.2.2
            clear hcc
            refine step_of ⟨some 35, _, _, _, _, _⟩ rfl (fun K' hK => ?_)
            go_simp
            refine hK.out _ _ ⟨_, hF.pure hok hla hpre rfl (Below.refl _ _), ?fr⟩
            case fr => simp only [putO, layT_some, layT_none, layT_nil, List.setIfInBounds_toArray, List.set_cons_zero, List.set_cons_succ]
          · replace hge : 1 ≤ i := hgt
            clear hgt
            rcases Nat.lt_or_ge i 2 with hlt | hgt
            · replace hi := hlt
              clear hlt
              have he : i = 1 := Nat.le_antisymm (Nat.le_of_lt_succ hi) hge
              subst he
              refine step_of ⟨some 36, _, _, _, _, _⟩ rfl (fun K' hK => ?_)
              go_simp
              go_at_call 14
              (with_reducible refine (Qth.out _ (HE.out.below (below_none hF.low))).mono ?_)
              rintro e Wq ⟨rfl, hq⟩
              refine hK.out _ _ ⟨_, hF.pure hok hla hpre rfl hq, ?fr⟩
              case fr => simp only [putO, layT_some, layT_none, layT_nil, List.setIfInBounds_toArray, List.set_cons_zero, List.set_cons_succ]
            · replace hge : 2 ≤ i := hgt
              clear hgt
              have he : i = 2 := Nat.le_antisymm (Nat.le_of_lt_succ hi) hge
              subst he
              have p0 := hpre 0 (by kernel_rfl)
              have e0 : s0 = .agg #[.int .i64 1, .string (numS A), .string (denS A), .string { data := #[] }, .bool false, .int .i64 0, .int .i64 0, .int .i64 0, .slice none 0 0] := hF.get 0 _ rfl (.inr p0)
              subst e0
              have p1 := hpre 1 (by kernel_rfl)
              have e1 : s1 = .agg #[.int .i64 1, .string (numS H), .string (denS H), .string { data := #[] }, .bool false, .int .i64 0, .int .i64 0, .int .i64 0, .slice none 0 0] := hF.get 1 _ rfl (.inr p1)
              subst e1
              refine step_of ⟨some 37, _, _, _, _, _⟩ rfl (fun K' hK => ?_)
              go_simp
              refine hK.out _ _ ⟨_, hF.row hok hla hpre rfl, ?fr⟩
              case fr => simp only [putO, layT_some, layT_none, layT_nil, List.setIfInBounds_toArray, List.set_cons_zero, List.set_cons_succ]
        · replace hge : 3 ≤ i := hgt
          clear hgt
          rcases Nat.lt_or_ge i 4 with hlt | hgt
          · replace hi := hlt
            clear hlt
            have he : i = 3 := Nat.le_antisymm (Nat.le_of_lt_succ hi) hge
            subst he
            have p2 := hpre 2 (by kernel_rfl)
            obtain ⟨G, eG, _, hGB⟩ : ∃ G, s2 = .slice (some ⟨G, 0, none⟩) 2 2 ∧ _ ≤ G ∧ Wr.heap[G]? = some (.cells #[.int .i64 1, .string (numS A), .string (denS A), .string { data := #[] }, .bool false, .int .i64 0, .int .i64 0, .int .i64 0, .slice none 0 0, .int .i64 1, .string (numS H), .string (denS H), .string { data := #[] }, .bool false, .int .i64 0, .int .i64 0, .int .i64 0, .slice none 0 0] 27 (0, 0)) := hF.get 2 _ rfl (.inr p2)
            subst eG
            refine step_of ⟨some 38, _, _, _, _, _⟩ rfl (fun K' hK => ?_)
            go_simp
            go_at_call 10
            (with_reducible refine (Qrceiling.out _ _ hGB (HE.out.below (below_none hF.low))).mono ?_)
            rintro e Wq ⟨rfl, hq⟩
            refine hK.out _ _ ⟨_, hF.pure hok hla hpre rfl hq, ?fr⟩
            case fr => simp only [putO, layT_some, layT_none, layT_nil, List.setIfInBounds_toArray, List.set_cons_zero, List.set_cons_succ]
          · replace hge : 4 ≤ i := hgt
            clear hgt
            rcases Nat.lt_or_ge i 5 with hlt | hgt
            · replace hi := hlt
              clear hlt
              have he : i = 4 := Nat.le_antisymm (Nat.le_of_lt_succ hi) hge
              subst he
              have hcc := (nine_at (keep_block H5.out (below_none hF.low))).1
              have cH50 := hcc.1
              have cH51 := hcc.2.1
              have cH52 := hcc.2.2.1
              have cH53 := hcc.2.2.2.1
              have cH54 := hcc.2.2.2.2.1
              have cH55 := hcc.2.2.2.2.2.1
              have cH56 := hcc.2.2.2.2.2.2.1
              have cH57 := hcc.2.2.2.2.2.2.2.1
              have cH58 := hcc.2.2.2.2.2.2.2.2
              clear hcc
              refine step_of ⟨some 39, _, _, _, _, _⟩ rfl (fun K' hK => ?_)
              go_simp
              refine hK.out _ _ ⟨_, hF.pure hok hla hpre rfl (Below.refl _ _), ?fr⟩
              case fr => simp only [putO, layT_some, layT_none, layT_nil, List.setIfInBounds_toArray, List.set_cons_zero, List.set_cons_succ]
            · replace hge : 5 ≤ i := hgt
              clear hgt
              have he : i = 5 := Nat.le_antisymm (Nat.le_of_lt_succ hi) hge
              subst he
              refine step_of ⟨some 40, _, _, _, _, _⟩ rfl (fun K' hK => ?_)
              go_simp
              go_at_call 14
              (with_reducible refine (Qth.out _ (HE.out.below (below_none hF.low))).mono ?_)
              rintro e Wq ⟨rfl, hq⟩
              refine hK.out _ _ ⟨_, hF.pure hok hla hpre rfl hq, ?fr⟩
              case fr => simp only [putO, layT_some, layT_none, layT_nil, List.setIfInBounds_toArray, List.set_cons_zero, List.set_cons_succ]
      · replace hge : 6 ≤ i := hgt
        clear hgt
        rcases Nat.lt_or_ge i 9 with hlt | hgt
        · replace hi := hlt
          clear hlt
          rcases Nat.lt_or_ge i 7 with hlt | hgt
          · replace hi := hlt
            clear hlt
            have he : i = 6 := Nat.le_antisymm (Nat.le_of_lt_succ hi) hge
            subst he
            have p4 := hpre 4 (by kernel_rfl)
            have e4 : s4 = .agg #[.int .i64 1, .string (numS A), .string (denS A), .string { data := #[] }, .bool false, .int .i64 0, .int .i64 0, .int .i64 0, .slice none 0 0] := hF.get 4 _ rfl (.inr p4)
            subst e4
            have p5 := hpre 5 (by kernel_rfl)
            have e5 : s5 = .agg #[.int .i64 1, .string (numS H), .string (denS H), .string { data := #[] }, .bool false, .int .i64 0, .int .i64 0, .int .i64 0, .slice none 0 0] := hF.get 5 _ rfl (.inr p5)
            subst e5
            refine step_of ⟨some 41, _, _, _, _, _⟩ rfl (fun K' hK => ?_)
            go_simp
            refine hK.out _ _ ⟨_, hF.row hok hla hpre rfl, ?fr⟩
            case fr => simp only [putO, layT_some, layT_none, layT_nil, List.setIfInBounds_toArray, List.set_cons_zero, List.set_cons_succ]
          · replace hge : 7 ≤ i := hgt
            clear hgt
            rcases Nat.lt_or_ge i 8 with hlt | hgt
            · replace hi := hlt
              clear hlt
              have he : i = 7 := Nat.le_antisymm (Nat.le_of_lt_succ hi) hge
              subst he
              have p6 := hpre 6 (by kernel_rfl)
              obtain ⟨G, eG, _, hGB⟩ : ∃ G, s6 = .slice (some ⟨G, 0, none⟩) 2 2 ∧ _ ≤ G ∧ Wr.heap[G]? = some (.cells #[.int .i64 1, .string (numS A), .string (denS A), .string { data := #[] }, .bool false, .int .i64 0, .int .i64 0, .int .i64 0, .slice none 0 0, .int .i64 1, .string (numS H), .string (denS H), .string { data := #[] }, .bool false, .int .i64 0, .int .i64 0, .int .i64 0, .slice none 0 0] 27 (0, 0)) := hF.get 6 _ rfl (.inr p6)
              subst eG
              refine step_of ⟨some 42, _, _, _, _, _⟩ rfl (fun K' hK => ?_)
              go_simp
              go_at_call 10
              (with_reducible refine (Qrfloor.out _ _ hGB (HE.out.below (below_none hF.low))).mono ?_)
              rintro e Wq ⟨rfl, hq⟩
              refine hK.out _ _ ⟨_, hF.pure hok hla hpre rfl hq, ?fr⟩
              case fr => simp only [putO, layT_some, layT_none, layT_nil, List.setIfInBounds_toArray, List.set_cons_zero, List.set_cons_succ]
            · replace hge : 8 ≤ i := hgt
              clear hgt
              have he : i = 8 := Nat.le_antisymm (Nat.le_of_lt_succ hi) hge
              subst he
              refine step_of ⟨some 10, _, _, _, _, _⟩ rfl (fun K' hK => ?_)
              go_simp
              refine hK.out _ _ ⟨_, hF.box hok hla hpre hun rfl, ?fr⟩
              case fr => simp only [putO, layT_some, layT_none, layT_nil, List.setIfInBounds_toArray, List.set_cons_zero, List.set_cons_succ]
        · replace hge : 9 ≤ i := hgt
          clear hgt
          rcases Nat.lt_or_ge i 10 with hlt | hgt
          · replace hi := hlt
            clear hlt
            have he : i = 9 := Nat.le_antisymm (Nat.le_of_lt_succ hi) hge
            subst he
            refine step_of ⟨some 11, _, _, _, _, _⟩ rfl (fun K' hK => ?_)
            go_simp
            refine hK.out _ _ ⟨_, hF.box hok hla hpre hun rfl, ?fr⟩
            case fr => simp only [putO, layT_some, layT_none, layT_nil, List.setIfInBounds_toArray, List.set_cons_zero, List.set_cons_succ]
          · replace hge : 10 ≤ i := hgt
            clear hgt
            rcases Nat.lt_or_ge i 11 with hlt | hgt
            · replace hi := hlt
              clear hlt
              have he : i = 10 := Nat.le_antisymm (Nat.le_of_lt_succ hi) hge
              subst he
              have p8 := hpre 8 (by kernel_rfl)
              obtain ⟨G, eG, _, hGl, hGB⟩ : ∃ G, s8 = .pointer (some ⟨G, 0, none⟩) ∧ (∀ k, none = some k → G = k) ∧ WB.heap.size ≤ G ∧ Wr.heap[G]? = some (.cells (if listed.getD 10 false = true then #[.int .i64 1, .string (numS Ce), .string (denS Ce), .string { data := #[] }, .bool false, .int .i64 0, .int .i64 0, .int .i64 0, .slice none 0 0] else #[.int .i64 0, .string { data := #[] }, .string { data := #[] }, .string { data := #[] }, .bool false, .int .i64 0, .int .i64 0, .int .i64 0, .slice none 0 0]) 27 (0, 0)) := hF.get 8 _ rfl (.inr p8)
              subst eG
              rw [if_neg (bit_off hun)] at hGB
              have HGB := Lib.hid hGB
              clear hGB
              have p3 := hpre 3 (by kernel_rfl)
              have e3 : s3 = .agg #[.int .i64 1, .string (numS Ce), .string (denS Ce), .string { data := #[] }, .bool false, .int .i64 0, .int .i64 0, .int .i64 0, .slice none 0 0] := hF.get 3 _ rfl (.inr p3)
              subst e3
              obtain ⟨⟨y0, y1, y2, y3, y4, y5, y6, y7, y8⟩, g0, g1, g2, g3, g4, g5, g6, g7, g8⟩ := nine_at HGB.out
              refine step_of ⟨none, _, _, _, _, _⟩ rfl (fun K' hK => ?_)
              go_simp
              refine hK.out _ _ ⟨undef, hF.put hok hna hpre hun rfl undef rfl (.inr p8) rfl (set9_at HGB.out (.int .i64 1) (.string (numS Ce)) (.string (denS Ce)) (.string { data := #[] }) (.bool false) (.int .i64 0) (.int .i64 0) (.int .i64 0) (.slice none 0 0)) (fun k hk => set9_other _ _ (.int .i64 1) (.string (numS Ce)) (.string (denS Ce)) (.string { data := #[] }) (.bool false) (.int .i64 0) (.int .i64 0) (.int .i64 0) (.slice none 0 0) hk) (put9_below hGl _ (.int .i64 1) (.string (numS Ce)) (.string (denS Ce)) (.string { data := #[] }) (.bool false) (.int .i64 0) (.int .i64 0) (.int .i64 0) (.slice none 0 0)), ?fr⟩
              case fr => simp only [putO, layT_some, layT_none, layT_nil, List.setIfInBounds_toArray, List.set_cons_zero, List.set_cons_succ]
            · replace hge : 11 ≤ i := hgt
              clear hgt
              have he : i = 11 := Nat.le_antisymm (Nat.le_of_lt_succ hi) hge
              subst he
              have p9 := hpre 9 (by kernel_rfl)
              obtain ⟨G, eG, _, hGl, hGB⟩ : ∃ G, s9 = .pointer (some ⟨G, 0, none⟩) ∧ (∀ k, none = some k → G = k) ∧ WB.heap.size ≤ G ∧ Wr.heap[G]? = some (.cells (if listed.getD 11 false = true then #[.int .i64 1, .string (numS Fl), .string (denS Fl), .string { data := #[] }, .bool false, .int .i64 0, .int .i64 0, .int .i64 0, .slice none 0 0] else #[.int .i64 0, .string { data := #[] }, .string { data := #[] }, .string { data := #[] }, .bool false, .int .i64 0, .int .i64 0, .int .i64 0, .slice none 0 0]) 27 (0, 0)) := hF.get 9 _ rfl (.inr p9)
              subst eG
              rw [if_neg (bit_off hun)] at hGB
              have HGB := Lib.hid hGB
              clear hGB
              have p7 := hpre 7 (by kernel_rfl)
              have e7 : s7 = .agg #[.int .i64 1, .string (numS Fl), .string (denS Fl), .string { data := #[] }, .bool false, .int .i64 0, .int .i64 0, .int .i64 0, .slice none 0 0] := hF.get 7 _ rfl (.inr p7)
              subst e7
              obtain ⟨⟨y0, y1, y2, y3, y4, y5, y6, y7, y8⟩, g0, g1, g2, g3, g4, g5, g6, g7, g8⟩ := nine_at HGB.out
              refine step_of ⟨none, _, _, _, _, _⟩ rfl (fun K' hK => ?_)
              go_simp
              refine hK.out _ _ ⟨undef, hF.put hok hna hpre hun rfl undef rfl (.inr p9) rfl (set9_at HGB.out (.int .i64 1) (.string (numS Fl)) (.string (denS Fl)) (.string { data := #[] }) (.bool false) (.int .i64 0) (.int .i64 0) (.int .i64 0) (.slice none 0 0)) (fun k hk => set9_other _ _ (.int .i64 1) (.string (numS Fl)) (.string (denS Fl)) (.string { data := #[] }) (.bool false) (.int .i64 0) (.int .i64 0) (.int .i64 0) (.slice none 0 0) hk) (put9_below hGl _ (.int .i64 1) (.string (numS Fl)) (.string (denS Fl)) (.string { data := #[] }) (.bool false) (.int .i64 0) (.int .i64 0) (.int .i64 0) (.slice none 0 0)), ?fr⟩
              case fr => simp only [putO, layT_some, layT_none, layT_nil, List.setIfInBounds_toArray, List.set_cons_zero, List.set_cons_succ]
    case hd =>
      rintro listed vs WC hF hall
      obtain ⟨s0, s1, s2, s3, s4, s5, s6, s7, s8, s9, s10, s11, hvs⟩ := exl_of 12 vs (fun l => vs = l) hF.len rfl
      subst hvs
      obtain ⟨b10, e8, _, _, k8⟩ : ∃ G, s8 = .pointer (some ⟨G, 0, none⟩) ∧ (∀ k, none = some k → G = k) ∧ _ ≤ G ∧ WC.heap[G]? = some (.cells (if listed.getD 10 false = true then #[.int .i64 1, .string (numS Ce), .string (denS Ce), .string { data := #[] }, .bool false, .int .i64 0, .int .i64 0, .int .i64 0, .slice none 0 0] else #[.int .i64 0, .string { data := #[] }, .string { data := #[] }, .string { data := #[] }, .bool false, .int .i64 0, .int .i64 0, .int .i64 0, .slice none 0 0]) 27 (0, 0)) := hF.get 8 _ rfl (.inr (hall 8 (by decide)))
      subst e8
      rw [if_pos (hall 10 (by decide))] at k8
      have H10 := Lib.hid k8
      clear k8
      obtain ⟨b11, e9, _, _, k9⟩ : ∃ G, s9 = .pointer (some ⟨G, 0, none⟩) ∧ (∀ k, none = some k → G = k) ∧ _ ≤ G ∧ WC.heap[G]? = some (.cells (if listed.getD 11 false = true then #[.int .i64 1, .string (numS Fl), .string (denS Fl), .string { data := #[] }, .bool false, .int .i64 0, .int .i64 0, .int .i64 0, .slice none 0 0] else #[.int .i64 0, .string { data := #[] }, .string { data := #[] }, .string { data := #[] }, .bool false, .int .i64 0, .int .i64 0, .int .i64 0, .slice none 0 0]) 27 (0, 0)) := hF.get 9 _ rfl (.inr (hall 9 (by decide)))
      subst e9
      rw [if_pos (hall 11 (by decide))] at k9
      have H11 := Lib.hid k9
      clear k9
      have hq := below_none hF.low
      replace HE := Lib.hid (HE.out.below hq)
      replace HL := Lib.hid (HL.out.trans (hq.mono HL.out.size))
      replace H5 := Lib.hid (keep_block H5.out hq)
      replace H6 := Lib.hid (keep_block H6.out hq)
      replace H7 := Lib.hid (keep_block H7.out hq)
      replace H8 := Lib.hid (keep_block H8.out hq)
      replace H9 := Lib.hid (keep_block H9.out hq)
      clear hq
      clear hF hall hok hna hla
      simp only [putO, layT_some, layT_none, layT_nil, List.setIfInBounds_toArray, List.set_cons_zero, List.set_cons_succ]
      go_wp2_with fail
      have hok : okB 10 (RNKs4 w3 b7 b8 b9 b10 b11 A K R U D Ce Fl H I T M P aA aD aU aR aT on mo) = true := by kernel_rfl
      have hna := noAny_of (ks := (RNKs4 w3 b7 b8 b9 b10 b11 A K R U D Ce Fl H I T M P aA aD aU aR aT on mo)) (by kernel_rfl)
      have hla := lasts_of hna
      refine wp_region_facts (row := none) (w := WC) 10 (RNKs4 w3 b7 b8 b9 b10 b11 A K R U D Ce Fl H I T M P aA aD aU aR aT on mo) [some 43, some 44, some 45, some 46, some 47, some 48, some 12, some 13, none, none] (by kernel_rfl) (by kernel_rfl) rfl [undef, undef, undef, undef, undef, undef, undef, undef, undef, undef] ?h00 (Fs.start rfl rfl) ?hs ?hd
      case h00 => simp only [putO, layT_some, layT_none, layT_nil, List.setIfInBounds_toArray, List.set_cons_zero, List.set_cons_succ]
      case hs =>
        rintro listed vs Wr hF i hi hun hpre
        obtain ⟨s0, s1, s2, s3, s4, s5, s6, s7, s8, s9, hvs⟩ := exl_of 10 vs (fun l => vs = l) hF.len rfl
        subst hvs
        have hge := Nat.zero_le i
        simp only [putO, layT_some, layT_none, layT_nil, List.setIfInBounds_toArray, List.set_cons_zero, List.set_cons_succ]
        rcases Nat.lt_or_ge i 5 with hlt | hgt
        · replace hi := hlt
          clear hlt
          rcases Nat.lt_or_ge i 2 with hlt | hgt
          · replace hi := hlt
            clear hlt
            rcases Nat.lt_or_ge i 1 with hlt | hgt
            · replace hi := hlt
              clear hlt
              have he : i = 0 := Nat.le_antisymm (Nat.le_of_lt_succ hi) hge
              subst he
              have hcc := (nine_at (keep_block H5.out (below_none hF.low))).1
              have cH50 := hcc.1
              have cH51 := hcc.2.1
              have cH52 := hcc.2.2.1
              have cH53 := hcc.2.2.2.1
              have cH54 := hcc.2.2.2.2.1
              have cH55 := hcc.2.2.2.2.2.1
              have cH56 := hcc.2.2.2.2.2.2.1
              have cH57 := hcc.2.2.2.2.2.2.2.1
              have cH58 := hcc.2.2.2.2.2.2.2.2
              clear hcc
              refine step_of ⟨some 43, _, _, _, _, _⟩ rfl (fun K' hK => ?_)
              go_simp
              refine hK.out _ _ ⟨_, hF.pure hok hla hpre rfl (Below.refl _ _), ?fr⟩
              case fr => simp only [putO, layT_some, layT_none, layT_nil, List.setIfInBounds_toArray, List.set_cons_zero, List.set_cons_succ]
            · replace hge : 1 ≤ i := hgt
              clear hgt
              have he : i = 1 := Nat.le_antisymm (Nat.le_of_lt_succ hi) hge
              subst he
              have p0 := hpre 0 (by kernel_rfl)
              have e0 : s0 = .agg #[.int .i64 1, .string (numS A), .string (denS A), .string { data := #[] }, .bool false, .int .i64 0, .int .i64 0, .int .i64 0, .slice none 0 0] := hF.get 0 _ rfl (.inr p0)
              subst e0
              refine step_of ⟨some 44, _, _, _, _, _⟩ rfl (fun K' hK => ?_)
              go_simp
              refine hK.out _ _ ⟨_, hF.row hok hla hpre rfl, ?fr⟩
              case fr => simp only [putO, layT_some, layT_none, layT_nil, List.setIfInBounds_toArray, List.set_cons_zero, List.set_cons_succ]
          · replace hge : 2 ≤ i := hgt
            clear hgt
            rcases Nat.lt_or_ge i 3 with hlt | hgt
            · replace hi := hlt
              clear hlt
              have he : i = 2 := Nat.le_antisymm (Nat.le_of_lt_succ hi) hge
              subst he
              have p1 := hpre 1 (by kernel_rfl)
              obtain ⟨G, eG, _, hGB⟩ : ∃ G, s1 = .slice (some ⟨G, 0, none⟩) 1 1 ∧ _ ≤ G ∧ Wr.heap[G]? = some (.cells #[.int .i64 1, .string (numS A), .string (denS A), .string { data := #[] }, .bool false, .int .i64 0, .int .i64 0, .int .i64 0, .slice none 0 0] 27 (0, 0)) := hF.get 1 _ rfl (.inr p1)
              subst eG
              refine step_of ⟨some 45, _, _, _, _, _⟩ rfl (fun K' hK => ?_)
              go_simp
              go_at_call 10
              (with_reducible refine (Qrint.out _ _ hGB (HE.out.below (below_none hF.low))).mono ?_)
              rintro e Wq ⟨rfl, hq⟩
              refine hK.out _ _ ⟨_, hF.pure hok hla hpre rfl hq, ?fr⟩
              case fr => simp only [putO, layT_some, layT_none, layT_nil, List.setIfInBounds_toArray, List.set_cons_zero, List.set_cons_succ]
            · replace hge : 3 ≤ i := hgt
              clear hgt
              rcases Nat.lt_or_ge i 4 with hlt | hgt
              · replace hi := hlt
                clear hlt
                have he : i = 3 := Nat.le_antisymm (Nat.le_of_lt_succ hi) hge
                subst he
                have hcc := (nine_at (keep_block H5.out (below_none hF.low))).1
                have cH50 := hcc.1
                have cH51 := hcc.2.1
                have cH52 := hcc.2.2.1
                have cH53 := hcc.2.2.2.1
                have cH54 := hcc.2.2.2.2.1
                have cH55 := hcc.2.2.2.2.2.1
                have cH56 := hcc.2.2.2.2.2.2.1
                have cH57 := hcc.2.2.2.2.2.2.2.1
                have cH58 := hcc.2.2.2.2.2.2.2.2
                clear hcc
                refine step_of ⟨some 46, _, _, _, _, _⟩ rfl (fun K' hK => ?_)
                go_simp
                refine hK.out _ _ ⟨_, hF.pure hok hla hpre rfl (Below.refl _ _), ?fr⟩
                case fr => simp only [putO, layT_some, layT_none, layT_nil, List.setIfInBounds_toArray, List.set_cons_zero, List.set_cons_succ]
              · replace hge : 4 ≤ i := hgt
                clear hgt
                have he : i = 4 := Nat.le_antisymm (Nat.le_of_lt_succ hi) hge
                subst he
                have p3 := hpre 3 (by kernel_rfl)
                have e3 : s3 = .agg #[.int .i64 1, .string (numS A), .string (denS A), .string { data := #[] }, .bool false, .int .i64 0, .int .i64 0, .int .i64 0, .slice none 0 0] := hF.get 3 _ rfl (.inr p3)
                subst e3
                refine step_of ⟨some 47, _, _, _, _, _⟩ rfl (fun K' hK => ?_)
                go_simp
                refine hK.out _ _ ⟨_, hF.row hok hla hpre rfl, ?fr⟩
                case fr => simp only [putO, layT_some, layT_none, layT_nil, List.setIfInBounds_toArray, List.set_cons_zero, List.set_cons_succ]
        · replace hge : 5 ≤ i := hgt
          clear hgt
          rcases Nat.lt_or_ge i 7 with hlt | hgt
          · replace hi := hlt
            clear hlt
            rcases Nat.lt_or_ge i 6 with hlt | hgt
            · replace hi := hlt
              clear hlt
              have he : i = 5 := Nat.le_antisymm (Nat.le_of_lt_succ hi) hge
              subst he
              have p4 := hpre 4 (by kernel_rfl)
              obtain ⟨G, eG, _, hGB⟩ : ∃ G, s4 = .slice (some ⟨G, 0, none⟩) 1 1 ∧ _ ≤ G ∧ Wr.heap[G]? = some (.cells #[.int .i64 1, .string (numS A), .string (denS A), .string { data := #[] }, .bool false, .int .i64 0, .int .i64 0, .int .i64 0, .slice none 0 0] 27 (0, 0)) := hF.get 4 _ rfl (.inr p4)
              subst eG
              refine step_of ⟨some 48, _, _, _, _, _⟩ rfl (fun K' hK => ?_)
              go_simp
              go_at_call 10
              (with_reducible refine (Qrtrunc.out _ _ hGB (HE.out.below (below_none hF.low))).mono ?_)
              rintro e Wq ⟨rfl, hq⟩
              refine hK.out _ _ ⟨_, hF.pure hok hla hpre rfl hq, ?fr⟩
              case fr => simp only [putO, layT_some, layT_none, layT_nil, List.setIfInBounds_toArray, List.set_cons_zero, List.set_cons_succ]
            · replace hge : 6 ≤ i := hgt
              clear hgt
              have he : i = 6 := Nat.le_antisymm (Nat.le_of_lt_succ hi) hge
              subst he
              refine step_of ⟨some 12, _, _, _, _, _⟩ rfl (fun K' hK => ?_)
              go_simp
              refine hK.out _ _ ⟨_, hF.box hok hla hpre hun rfl, ?fr⟩
              case fr => simp only [putO, layT_some, layT_none, layT_nil, List.setIfInBounds_toArray, List.set_cons_zero, List.set_cons_succ]
          · replace hge : 7 ≤ i := hgt
            clear hgt
            rcases Nat.lt_or_ge i 8 with hlt | hgt
            · replace hi := hlt
              clear hlt
              have he : i = 7 := Nat.le_antisymm (Nat.le_of_lt_succ hi) hge
              subst he
              refine step_of ⟨some 13, _, _, _, _, _⟩ rfl (fun K' hK => ?_)
              go_simp
              refine hK.out _ _ ⟨_, hF.box hok hla hpre hun rfl, ?fr⟩
              case fr => simp only [putO, layT_some, layT_none, layT_nil, List.setIfInBounds_toArray, List.set_cons_zero, List.set_cons_succ]
            · replace hge : 8 ≤ i := hgt
              clear hgt
              rcases Nat.lt_or_ge i 9 with hlt | hgt
              · replace hi := hlt
                clear hlt
                have he : i = 8 := Nat.le_antisymm (Nat.le_of_lt_succ hi) hge
                subst he
                have p6 := hpre 6 (by kernel_rfl)
                obtain ⟨G, eG, _, hGl, hGB⟩ : ∃ G, s6 = .pointer (some ⟨G, 0, none⟩) ∧ (∀ k, none = some k → G = k) ∧ WC.heap.size ≤ G ∧ Wr.heap[G]? = some (.cells (if listed.getD 8 false = true then #[.int .i64 1, .string (numS I), .string (denS I), .string { data := #[] }, .bool false, .int .i64 0, .int .i64 0, .int .i64 0, .slice none 0 0] else #[.int .i64 0, .string { data := #[] }, .string { data := #[] }, .string { data := #[] }, .bool false, .int .i64 0, .int .i64 0, .int .i64 0, .slice none 0 0]) 27 (0, 0)) := hF.get 6 _ rfl (.inr p6)
                subst eG
                rw [if_neg (bit_off hun)] at hGB
                have HGB := Lib.hid hGB
                clear hGB
                have p2 := hpre 2 (by kernel_rfl)
                have e2 : s2 = .agg #[.int .i64 1, .string (numS I), .string (denS I), .string { data := #[] }, .bool false, .int .i64 0, .int .i64 0, .int .i64 0, .slice none 0 0] := hF.get 2 _ rfl (.inr p2)
                subst e2
                obtain ⟨⟨y0, y1, y2, y3, y4, y5, y6, y7, y8⟩, g0, g1, g2, g3, g4, g5, g6, g7, g8⟩ := nine_at HGB.out
                refine step_of ⟨none, _, _, _, _, _⟩ rfl (fun K' hK => ?_)
                go_simp
                refine hK.out _ _ ⟨undef, hF.put hok hna hpre hun rfl undef rfl (.inr p6) rfl (set9_at HGB.out (.int .i64 1) (.string (numS I)) (.string (denS I)) (.string { data := #[] }) (.bool false) (.int .i64 0) (.int .i64 0) (.int .i64 0) (.slice none 0 0)) (fun k hk => set9_other _ _ (.int .i64 1) (.string (numS I)) (.string (denS I)) (.string { data := #[] }) (.bool false) (.int .i64 0) (.int .i64 0) (.int .i64 0) (.slice none 0 0) hk) (put9_below hGl _ (.int .i64 1) (.string (numS I)) (.string (denS I)) (.string { data := #[] }) (.bool false) (.int .i64 0) (.int .i64 0) (.int .i64 0) (.slice none 0 0)), ?fr⟩
                case fr => simp only [putO, layT_some, layT_none, layT_nil, List.setIfInBounds_toArray, List.set_cons_zero, List.set_cons_succ]
              · replace hge : 9 ≤ i := hgt
                clear hgt
                have he : i = 9 := Nat.le_antisymm (Nat.le_of_lt_succ hi) hge
                subst he
                have p7 := hpre 7 (by kernel_rfl)
                obtain ⟨G, eG, _, hGl, hGB⟩ : ∃ G, s7 = .pointer (some ⟨G, 0, none⟩) ∧ (∀ k, none = some k → G = k) ∧ WC.heap.size ≤ G ∧ Wr.heap[G]? = some (.cells (if listed.getD 9 false = true then #[.int .i64 1, .string (numS T), .string (denS T), .string { data := #[] }, .bool false, .int .i64 0, .int .i64 0, .int .i64 0, .slice none 0 0] else #[.int .i64 0, .string { data := #[] }, .string { data := #[] }, .string { data := #[] }, .bool false, .int .i64 0, .int .i64 0, .int .i64 0, .slice none 0 0]) 27 (0, 0)) := hF.get 7 _ rfl (.inr p7)
                subst eG
                rw [if_neg (bit_off hun)] at hGB
                have HGB := Lib.hid hGB
                clear hGB
                have p5 := hpre 5 (by kernel_rfl)
                have e5 : s5 = .agg #[.int .i64 1, .string (numS T), .string (denS T), .string { data := #[] }, .bool false, .int .i64 0, .int .i64 0, .int .i64 0, .slice none 0 0] := hF.get 5 _ rfl (.inr p5)
                subst e5
                obtain ⟨⟨y0, y1, y2, y3, y4, y5, y6, y7, y8⟩, g0, g1, g2, g3, g4, g5, g6, g7, g8⟩ := nine_at HGB.out
                refine step_of ⟨none, _, _, _, _, _⟩ rfl (fun K' hK => ?_)
                go_simp
                refine hK.out _ _ ⟨undef, hF.put hok hna hpre hun rfl undef rfl (.inr p7) rfl (set9_at HGB.out (.int .i64 1) (.string (numS T)) (.string (denS T)) (.string { data := #[] }) (.bool false) (.int .i64 0) (.int .i64 0) (.int .i64 0) (.slice none 0 0)) (fun k hk => set9_other _ _ (.int .i64 1) (.string (numS T)) (.string (denS T)) (.string { data := #[] }) (.bool false) (.int .i64 0) (.int .i64 0) (.int .i64 0) (.slice none 0 0) hk) (put9_below hGl _ (.int .i64 1) (.string (numS T)) (.string (denS T)) (.string { data := #[] }) (.bool false) (.int .i64 0) (.int .i64 0) (.int .i64 0) (.slice none 0 0)), ?fr⟩
                case fr => simp only [putO, layT_some, layT_none, layT_nil, List.setIfInBounds_toArray, List.set_cons_zero, List.set_cons_succ]
      case hd =>
        rintro listed vs WD hF hall
        obtain ⟨s0, s1, s2, s3, s4, s5, s6, s7, s8, s9, hvs⟩ := exl_of 10 vs (fun l => vs = l) hF.len rfl
        subst hvs
        obtain ⟨b12, e6, _, _, k6⟩ : ∃ G, s6 = .pointer (some ⟨G, 0, none⟩) ∧ (∀ k, none = some k → G = k) ∧ _ ≤ G ∧ WD.heap[G]? = some (.cells (if listed.getD 8 false = true then #[.int .i64 1, .string (numS I), .string (denS I), .string { data := #[] }, .bool false, .int .i64 0, .int .i64 0, .int .i64 0, .slice none 0 0] else #[.int .i64 0, .string { data := #[] }, .string { data := #[] }, .string { data := #[] }, .bool false, .int .i64 0, .int .i64 0, .int .i64 0, .slice none 0 0]) 27 (0, 0)) := hF.get 6 _ rfl (.inr (hall 6 (by decide)))
        subst e6
        rw [if_pos (hall 8 (by decide))] at k6
        have H12 := Lib.hid k6
        clear k6
        obtain ⟨b13, e7, _, _, k7⟩ : ∃ G, s7 = .pointer (some ⟨G, 0, none⟩) ∧ (∀ k, none = some k → G = k) ∧ _ ≤ G ∧ WD.heap[G]? = some (.cells (if listed.getD 9 false = true then #[.int .i64 1, .string (numS T), .string (denS T), .string { data := #[] }, .bool false, .int .i64 0, .int .i64 0, .int .i64 0, .slice none 0 0] else #[.int .i64 0, .string { data := #[] }, .string { data := #[] }, .string { data := #[] }, .bool false, .int .i64 0, .int .i64 0, .int .i64 0, .slice none 0 0]) 27 (0, 0)) := hF.get 7 _ rfl (.inr (hall 7 (by decide)))
        subst e7
        rw [if_pos (hall 9 (by decide))] at k7
        have H13 := Lib.hid k7
        clear k7
        have hq := below_none hF.low
        replace HE := Lib.hid (HE.out.below hq)
        replace HL := Lib.hid (HL.out.trans (hq.mono HL.out.size))
        replace H5 := Lib.hid (keep_block H5.out hq)
        replace H6 := Lib.hid (keep_block H6.out hq)
        replace H7 := Lib.hid (keep_block H7.out hq)
        replace H8 := Lib.hid (keep_block H8.out hq)
        replace H9 := Lib.hid (keep_block H9.out hq)
        replace H10 := Lib.hid (keep_block H10.out hq)
        replace H11 := Lib.hid (keep_block H11.out hq)
        clear hq
        clear hF hall hok hna hla
        simp only [putO, layT_some, layT_none, layT_nil, List.setIfInBounds_toArray, List.set_cons_zero, List.set_cons_succ]
        obtain ⟨⟨c0, c1, c2, c3, c4, c5, c6, c7, c8⟩, _⟩ := nine_at H5.out
        go_wp2_with fail
        (with_reducible refine (at_row Qrabs0.out _ HE.out).mono ?_)
        rintro e w5 ⟨rfl, hq⟩
        replace HE := Lib.hid (HE.out.below hq)
        replace HL := Lib.hid (HL.out.trans (hq.mono HL.out.size))
        replace H5 := Lib.hid (keep_block H5.out hq)
        replace H6 := Lib.hid (keep_block H6.out hq)
        replace H7 := Lib.hid (keep_block H7.out hq)
        replace H8 := Lib.hid (keep_block H8.out hq)
        replace H9 := Lib.hid (keep_block H9.out hq)
        replace H10 := Lib.hid (keep_block H10.out hq)
        replace H11 := Lib.hid (keep_block H11.out hq)
        replace H12 := Lib.hid (keep_block H12.out hq)
        replace H13 := Lib.hid (keep_block H13.out hq)
        clear hq c0 c1 c2 c3 c4 c5 c6 c7 c8
        obtain ⟨⟨c0, c1, c2, c3, c4, c5, c6, c7, c8⟩, _⟩ := nine_at H7.out
        go_wp2_with fail
        have hok : okB 39 (RNKs9 w3 b7 b8 b9 b10 b11 b12 b13 A K R U D Ce Fl H I T M P aA aD aU aR aT on mo) = true := by kernel_rfl
        have hna := noAny_of (ks := (RNKs9 w3 b7 b8 b9 b10 b11 b12 b13 A K R U D Ce Fl H I T M P aA aD aU aR aT on mo)) (by kernel_rfl)
        have hla := lasts_of hna
        refine wp_region_facts (row := none) (w := w5) 39 (RNKs9 w3 b7 b8 b9 b10 b11 b12 b13 A K R U D Ce Fl H I T M P aA aD aU aR aT on mo) [some 59, some 60, some 61, some 62, some 63, some 64, some 65, some 66, some 67, some 68, some 69, some 70, some 71, some 72, some 73, some 74, some 75, some 76, some 77, some 78, some 79, some 80, some 81, some 82, some 83, some 84, some 85, some 86, some 87, some 88, some 89, some 90, some 91, some 92, some 93, some 94, some 95, some 96, some 16] (by kernel_rfl) (by kernel_rfl) rfl [undef, undef, undef, undef, undef, undef, undef, undef, undef, undef, undef, undef, undef, undef, undef, undef, undef, undef, undef, undef, undef, undef, undef, undef, undef, undef, undef, undef, undef, undef, undef, undef, undef, undef, undef, undef, undef, undef, undef] ?h00 (Fs.start rfl rfl) ?hs ?hd
        case h00 => simp only [putO, layT_some, layT_none, layT_nil, List.setIfInBounds_toArray, List.set_cons_zero, List.set_cons_succ]
        case hs =>
          rintro listed vs Wr hF i hi hun hpre
          obtain ⟨s0, s1, s2, s3, s4, s5, s6, s7, s8, s9, s10, s11, s12, s13, s14, s15, s16, s17, s18, s19, s20, s21, s22, s23, s24, s25, s26, s27, s28, s29, s30, s31, s32, s33, s34, s35, s36, s37, s38, hvs⟩ := exl_of 39 vs (fun l => vs = l) hF.len rfl
          subst hvs
          have hge := Nat.zero_le i
          simp only [putO, layT_some, layT_none, layT_nil, List.setIfInBounds_toArray, List.set_cons_zero, List.set_cons_succ]
          rcases Nat.lt_or_ge i 19 with hlt | hgt
          · replace hi := hlt
            clear hlt
            rcases Nat.lt_or_ge i 9 with hlt | hgt
            · replace hi := hlt
              clear hlt
              rcases Nat.lt_or_ge i 4 with hlt | hgt
              · replace hi := hlt
                clear hlt
                rcases Nat.lt_or_ge i 2 with hlt | hgt
                · replace hi := hlt
                  clear hlt
                  rcases Nat.lt_or_ge i 1 with hlt | hgt
                  · replace hi := hlt
                    clear hlt
                    have he : i = 0 := Nat.le_antisymm (Nat.le_of_lt_succ hi) hge
                    subst he
                    refine step_of ⟨some 59, _, _, _, _, _⟩ rfl (fun K' hK => ?_)
                    go_simp
                    refine hK.out _ _ ⟨_, hF.pure hok hla hpre rfl (Below.refl _ _), ?fr⟩
                    case fr => simp only [putO, layT_some, layT_none, layT_nil, List.setIfInBounds_toArray, List.set_cons_zero, List.set_cons_succ]
                  · replace hge : 1 ≤ i := hgt
                    clear hgt
                    have he : i = 1 := Nat.le_antisymm (Nat.le_of_lt_succ hi) hge
                    subst he
                    refine step_of ⟨some 60, _, _, _, _, _⟩ rfl (fun K' hK => ?_)
                    go_simp
                    refine hK.out _ _ ⟨_, hF.pure hok hla hpre rfl (Below.refl _ _), ?fr⟩
                    case fr => simp only [putO, layT_some, layT_none, layT_nil, List.setIfInBounds_toArray, List.set_cons_zero, List.set_cons_succ]
                · replace hge : 2 ≤ i := hgt
                  clear hgt
                  rcases Nat.lt_or_ge i 3 with hlt | hgt
                  · replace hi := hlt
                    clear hlt
                    have he : i = 2 := Nat.le_antisymm (Nat.le_of_lt_succ hi) hge
                    subst he
                    have hcc := (nine_at (keep_block H9.out (below_none hF.low))).1
                    have cH90 := hcc.1
                    have cH91 := hcc.2.1
                    have cH92 := hcc.2.2.1
                    have cH93 := hcc.2.2.2.1
                    have cH94 := hcc.2.2.2.2.1
                    have cH95 := hcc.2.2.2.2.2.1
                    have cH96 := hcc.2.2.2.2.2.2.1
                    have cH97 := hcc.2.2.2.2.2.2.2.1
                    have cH98 := hcc.2.2.2.2.2.2.2.2
                    clear hcc
                    refine step_of ⟨some 61, _, _, _, _, _⟩ rfl (fun K' hK => ?_)
                    go_simp
                    refine hK.out _ _ ⟨_, hF.pure hok hla hpre rfl (Below.refl _ _), ?fr⟩
                    case fr => simp only [putO, layT_some, layT_none, layT_nil, List.setIfInBounds_toArray, List.set_cons_zero, List.set_cons_succ]
                  · replace hge : 3 ≤ i := hgt
                    clear hgt
                    have he : i = 3 := Nat.le_antisymm (Nat.le_of_lt_succ hi) hge
                    subst he
                    have p1 := hpre 1 (by kernel_rfl)
                    have e1 : s1 = .func (.func 21) #[] #[] := hF.get 1 _ rfl (.inr p1)
                    subst e1
                    have p2 := hpre 2 (by kernel_rfl)
                    have e2 : s2 = .agg #[.int .i64 1, .string (numS D), .string (denS D), .string { data := #[] }, .bool false, .int .i64 0, .int .i64 0, .int .i64 0, .slice none 0 0] := hF.get 2 _ rfl (.inr p2)
                    subst e2
                    refine step_of ⟨some 62, _, _, _, _, _⟩ rfl (fun K' hK => ?_)
                    go_simp
                    go_at_call 21
                    (with_reducible refine (QabD.out _ (HE.out.below (below_none hF.low))).mono ?_)
                    rintro e Wq ⟨rfl, hq⟩
                    refine hK.out _ _ ⟨_, hF.pure hok hla hpre rfl hq, ?fr⟩
                    case fr => simp only [putO, layT_some, layT_none, layT_nil, List.setIfInBounds_toArray, List.set_cons_zero, List.set_cons_succ]
              · replace hge : 4 ≤ i := hgt
                clear hgt
                rcases Nat.lt_or_ge i 6 with hlt | hgt
                · replace hi := hlt
                  clear hlt
                  rcases Nat.lt_or_ge i 5 with hlt | hgt
                  · replace hi := hlt
                    clear hlt
                    have he : i = 4 := Nat.le_antisymm (Nat.le_of_lt_succ hi) hge
                    subst he
                    refine step_of ⟨some 63, _, _, _, _, _⟩ rfl (fun K' hK => ?_)
                    go_simp
                    refine hK.out _ _ ⟨_, hF.pure hok hla hpre rfl (Below.refl _ _), ?fr⟩
                    case fr => simp only [putO, layT_some, layT_none, layT_nil, List.setIfInBounds_toArray, List.set_cons_zero, List.set_cons_succ]
                  · replace hge : 5 ≤ i := hgt
                    clear hgt
                    have he : i = 5 := Nat.le_antisymm (Nat.le_of_lt_succ hi) hge
                    subst he
                    have hcc := (nine_at (keep_block H5.out (below_none hF.low))).1
                    have cH50 := hcc.1
                    have cH51 := hcc.2.1
                    have cH52 := hcc.2.2.1
                    have cH53 := hcc.2.2.2.1
                    have cH54 := hcc.2.2.2.2.1
                    have cH55 := hcc.2.2.2.2.2.1
                    have cH56 := hcc.2.2.2.2.2.2.1
                    have cH57 := hcc.2.2.2.2.2.2.2.1
                    have cH58 := hcc.2.2.2.2.2.2.2.2
                    clear hcc
                    refine step_of ⟨some 64, _, _, _, _, _⟩ rfl (fun K' hK => ?_)
                    go_simp
                    refine hK.out _ _ ⟨_, hF.pure hok hla hpre rfl (Below.refl _ _), ?fr⟩
                    case fr => simp only [putO, layT_some, layT_none, layT_nil, List.setIfInBounds_toArray, List.set_cons_zero, List.set_cons_succ]
                · replace hge : 6 ≤ i := hgt
                  clear hgt
                  rcases Nat.lt_or_ge i 7 with hlt | hgt
                  · replace hi := hlt
                    clear hlt
                    have he : i = 6 := Nat.le_antisymm (Nat.le_of_lt_succ hi) hge
                    subst he
                    have p4 := hpre 4 (by kernel_rfl)
                    have e4 : s4 = .func (.func 21) #[] #[] := hF.get 4 _ rfl (.inr p4)
                    subst e4
                    have p5 := hpre 5 (by kernel_rfl)
                    have e5 : s5 = .agg #[.int .i64 1, .string (numS A), .string (denS A), .string { data := #[] }, .bool false, .int .i64 0, .int .i64 0, .int .i64 0, .slice none 0 0] := hF.get 5 _ rfl (.inr p5)
                    subst e5
                    refine step_of ⟨some 65, _, _, _, _, _⟩ rfl (fun K' hK => ?_)
                    go_simp
                    go_at_call 21
                    (with_reducible refine (QabA.out _ (HE.out.below (below_none hF.low))).mono ?_)
                    rintro e Wq ⟨rfl, hq⟩
                    refine hK.out _ _ ⟨_, hF.pure hok hla hpre rfl hq, ?fr⟩
                    case fr => simp only [putO, layT_some, layT_none, layT_nil, List.setIfInBounds_toArray, List.set_cons_zero, List.set_cons_succ]
                  · replace hge : 7 ≤ i := hgt
                    clear hgt
                    rcases Nat.lt_or_ge i 8 with hlt | hgt
                    · replace hi := hlt
                      clear hlt
                      have he : i = 7 := Nat.le_antisymm (Nat.le_of_lt_succ hi) hge
                      subst he
                      have p0 := hpre 0 (by kernel_rfl)
                      have e0 : s0 = .func (.func 19) #[] #[] := hF.get 0 _ rfl (.inr p0)
                      subst e0
                      have p3 := hpre 3 (by kernel_rfl)
                      have e3 : s3 = .agg #[.int .i64 1, .string (numS aD), .string (denS aD), .string { data := #[] }, .bool false, .int .i64 0, .int .i64 0, .int .i64 0, .slice none 0 0] := hF.get 3 _ rfl (.inr p3)
                      subst e3
                      have p6 := hpre 6 (by kernel_rfl)
                      have e6 : s6 = .agg #[.int .i64 1, .string (numS aA), .string (denS aA), .string { data := #[] }, .bool false, .int .i64 0, .int .i64 0, .int .i64 0, .slice none 0 0] := hF.get 6 _ rfl (.inr p6)
                      subst e6
                      refine step_of ⟨some 66, _, _, _, _, _⟩ rfl (fun K' hK => ?_)
                      go_simp
                      go_at_call 19
                      (with_reducible refine (QleaDaA.out _ (HE.out.below (below_none hF.low))).mono ?_)
                      rintro e Wq ⟨rfl, hq⟩
                      refine hK.out _ _ ⟨_, hF.pure hok hla hpre rfl hq, ?fr⟩
                      case fr => simp only [putO, layT_some, layT_none, layT_nil, List.setIfInBounds_toArray, List.set_cons_zero, List.set_cons_succ]
                    · replace hge : 8 ≤ i := hgt
                      clear hgt
                      have he : i = 8 := Nat.le_antisymm (Nat.le_of_lt_succ hi) hge
                      subst he
                      have p7 := hpre 7 (by kernel_rfl)
                      have e7 : s7 = .bool true := hF.get 7 _ rfl (.inr p7)
                      subst e7
                      refine step_of ⟨some 67, _, _, _, _, _⟩ rfl (fun K' hK => ?_)
                      go_simp
                      refine hK.out _ _ ⟨_, hF.pure hok hla hpre rfl (Below.refl _ _), ?fr⟩
                      case fr => simp only [putO, layT_some, layT_none, layT_nil, List.setIfInBounds_toArray, List.set_cons_zero, List.set_cons_succ]
            · replace hge : 9 ≤ i := hgt
              clear hgt
              rcases Nat.lt_or_ge i 14 with hlt | hgt
              · replace hi := hlt
                clear hlt
                rcases Nat.lt_or_ge i 11 with hlt | hgt
                · replace hi := hlt
                  clear hlt
                  rcases Nat.lt_or_ge i 10 with hlt | hgt
                  · replace hi := hlt
                    clear hlt
                    have he : i = 9 := Nat.le_antisymm (Nat.le_of_lt_succ hi) hge
                    subst he
                    have p8 := hpre 8 (by kernel_rfl)
                    have e8 : s8 = .bool true := hF.get 8 _ rfl (.inr p8)
                    subst e8
                    refine step_of ⟨some 68, _, _, _, _, _⟩ rfl (fun K' hK => ?_)
                    rw [if_pos (by rfl)]
                    go_simp
                    refine hK.out _ _ ⟨_, hF.pure hok hla hpre rfl (Below.refl _ _), ?fr⟩
                    case fr => simp only [putO, layT_some, layT_none, layT_nil, List.setIfInBounds_toArray, List.set_cons_zero, List.set_cons_succ]
                  · replace hge : 10 ≤ i := hgt
                    clear hgt
                    have he : i = 10 := Nat.le_antisymm (Nat.le_of_lt_succ hi) hge
                    subst he
                    have p8 := hpre 8 (by kernel_rfl)
                    have e8 : s8 = .bool true := hF.get 8 _ rfl (.inr p8)
                    subst e8
                    refine step_of ⟨some 69, _, _, _, _, _⟩ rfl (fun K' hK => ?_)
                    rw [if_pos (by rfl)]
                    go_simp
                    refine hK.out _ _ ⟨_, hF.pure hok hla hpre rfl (Below.refl _ _), ?fr⟩
                    case fr => simp only [putO, layT_some, layT_none, layT_nil, List.setIfInBounds_toArray, List.set_cons_zero, List.set_cons_succ]
                · replace hge : 11 ≤ i := hgt
                  clear hgt
                  rcases Nat.lt_or_ge i 12 with hlt | hgt
                  · replace hi := hlt
                    clear hlt
                    have he : i = 11 := Nat.le_antisymm (Nat.le_of_lt_succ hi) hge
                    subst he
                    have p8 := hpre 8 (by kernel_rfl)
                    have e8 : s8 = .bool true := hF.get 8 _ rfl (.inr p8)
                    subst e8
                    have hcc := (nine_at (keep_block H5.out (below_none hF.low))).1
                    have cH50 := hcc.1
                    have cH51 := hcc.2.1
                    have cH52 := hcc.2.2.1
                    have cH53 := hcc.2.2.2.1
                    have cH54 := hcc.2.2.2.2.1
                    have cH55 := hcc.2.2.2.2.2.1
                    have cH56 := hcc.2.2.2.2.2.2.1
                    have cH57 := hcc.2.2.2.2.2.2.2.1
                    have cH58 := hcc.2.2.2.2.2.2.2.2
                    clear hcc
                    refine step_of ⟨some 70, _, _, _, _, _⟩ rfl (fun K' hK => ?_)
                    rw [if_pos (by rfl)]
                    go_simp
                    refine hK.out _ _ ⟨_, hF.pure hok hla hpre rfl (Below.refl _ _), ?fr⟩
                    case fr => simp only [putO, layT_some, layT_none, layT_nil, List.setIfInBounds_toArray, List.set_cons_zero, List.set_cons_succ]
                  · replace hge : 12 ≤ i := hgt
                    clear hgt
                    rcases Nat.lt_or_ge i 13 with hlt | hgt
                    · replace hi := hlt
                      clear hlt
                      have he : i = 12 := Nat.le_antisymm (Nat.le_of_lt_succ hi) hge
                      subst he
                      have p10 := hpre 10 (by kernel_rfl)
                      have e10 : s10 = .func (.func 21) #[] #[] := hF.get 10 _ rfl (.inr p10)
                      subst e10
                      have p11 := hpre 11 (by kernel_rfl)
                      have e11 : s11 = .agg #[.int .i64 1, .string (numS A), .string (denS A), .string { data := #[] }, .bool false, .int .i64 0, .int .i64 0, .int .i64 0, .slice none 0 0] := hF.get 11 _ rfl (.inr p11)
                      subst e11
                      have p8 := hpre 8 (by kernel_rfl)
                      have e8 : s8 = .bool true := hF.get 8 _ rfl (.inr p8)
                      subst e8
                      refine step_of ⟨some 71, _, _, _, _, _⟩ rfl (fun K' hK => ?_)
                      rw [if_pos (by rfl)]
                      go_simp
                      go_at_call 21
                      (with_reducible refine (QabA.out _ (HE.out.below (below_none hF.low))).mono ?_)
                      rintro e Wq ⟨rfl, hq⟩
                      refine hK.out _ _ ⟨_, hF.pure hok hla hpre rfl hq, ?fr⟩
                      case fr => simp only [putO, layT_some, layT_none, layT_nil, List.setIfInBounds_toArray, List.set_cons_zero, List.set_cons_succ]
                    · replace hge : 13 ≤ i := hgt
                      clear hgt
                      have he : i = 13 := Nat.le_antisymm (Nat.le_of_lt_succ hi) hge
                      subst he
                      have p8 := hpre 8 (by kernel_rfl)
                      have e8 : s8 = .bool true := hF.get 8 _ rfl (.inr p8)
                      subst e8
                      refine step_of ⟨some 72, _, _, _, _, _⟩ rfl (fun K' hK => ?_)
                      rw [if_pos (by rfl)]
                      go_simp
                      refine hK.out _ _ ⟨_, hF.pure hok hla hpre rfl (Below.refl _ _), ?fr⟩
                      case fr => simp only [putO, layT_some, layT_none, layT_nil, List.setIfInBounds_toArray, List.set_cons_zero, List.set_cons_succ]
              · replace hge : 14 ≤ i := hgt
                clear hgt
                rcases Nat.lt_or_ge i 16 with hlt | hgt
                · replace hi := hlt
                  clear hlt
                  rcases Nat.lt_or_ge i 15 with hlt | hgt
                  · replace hi := hlt
                    clear hlt
                    have he : i = 14 := Nat.le_antisymm (Nat.le_of_lt_succ hi) hge
                    subst he
                    have p8 := hpre 8 (by kernel_rfl)
                    have e8 : s8 = .bool true := hF.get 8 _ rfl (.inr p8)
                    subst e8
                    have hcc := (nine_at (keep_block H8.out (below_none hF.low))).1
                    have cH80 := hcc.1
                    have cH81 := hcc.2.1
                    have cH82 := hcc.2.2.1
                    have cH83 := hcc.2.2.2.1
                    have cH84 := hcc.2.2.2.2.1
                    have cH85 := hcc.2.2.2.2.2.1
                    have cH86 := hcc.2.2.2.2.2.2.1
                    have cH87 := hcc.2.2.2.2.2.2.2.1
                    have cH88 := hcc.2.2.2.2.2.2.2.2
                    clear hcc
                    refine step_of ⟨some 73, _, _, _, _, _⟩ rfl (fun K' hK => ?_)
                    rw [if_pos (by rfl)]
                    go_simp
                    refine hK.out _ _ ⟨_, hF.pure hok hla hpre rfl (Below.refl _ _), ?fr⟩
                    case fr => simp only [putO, layT_some, layT_none, layT_nil, List.setIfInBounds_toArray, List.set_cons_zero, List.set_cons_succ]
                  · replace hge : 15 ≤ i := hgt
                    clear hgt
                    have he : i = 15 := Nat.le_antisymm (Nat.le_of_lt_succ hi) hge
                    subst he
                    have p13 := hpre 13 (by kernel_rfl)
                    have e13 : s13 = .func (.func 21) #[] #[] := hF.get 13 _ rfl (.inr p13)
                    subst e13
                    have p14 := hpre 14 (by kernel_rfl)
                    have e14 : s14 = .agg #[.int .i64 1, .string (numS U), .string (denS U), .string { data := #[] }, .bool false, .int .i64 0, .int .i64 0, .int .i64 0, .slice none 0 0] := hF.get 14 _ rfl (.inr p14)
                    subst e14
                    have p8 := hpre 8 (by kernel_rfl)
                    have e8 : s8 = .bool true := hF.get 8 _ rfl (.inr p8)
                    subst e8
                    refine step_of ⟨some 74, _, _, _, _, _⟩ rfl (fun K' hK => ?_)
                    rw [if_pos (by rfl)]
                    go_simp
                    go_at_call 21
                    (with_reducible refine (QabU.out _ (HE.out.below (below_none hF.low))).mono ?_)
                    rintro e Wq ⟨rfl, hq⟩
                    refine hK.out _ _ ⟨_, hF.pure hok hla hpre rfl hq, ?fr⟩
                    case fr => simp only [putO, layT_some, layT_none, layT_nil, List.setIfInBounds_toArray, List.set_cons_zero, List.set_cons_succ]
                · replace hge : 16 ≤ i := hgt
                  clear hgt
                  rcases Nat.lt_or_ge i 17 with hlt | hgt
                  · replace hi := hlt
                    clear hlt
                    have he : i = 16 := Nat.le_antisymm (Nat.le_of_lt_succ hi) hge
                    subst he
                    have p9 := hpre 9 (by kernel_rfl)
                    have e9 : s9 = .func (.func 19) #[] #[] := hF.get 9 _ rfl (.inr p9)
                    subst e9
                    have p12 := hpre 12 (by kernel_rfl)
                    have e12 : s12 = .agg #[.int .i64 1, .string (numS aA), .string (denS aA), .string { data := #[] }, .bool false, .int .i64 0, .int .i64 0, .int .i64 0, .slice none 0 0] := hF.get 12 _ rfl (.inr p12)
                    subst e12
                    have p15 := hpre 15 (by kernel_rfl)
                    have e15 : s15 = .agg #[.int .i64 1, .string (numS aU), .string (denS aU), .string { data := #[] }, .bool false, .int .i64 0, .int .i64 0, .int .i64 0, .slice none 0 0] := hF.get 15 _ rfl (.inr p15)
                    subst e15
                    have p8 := hpre 8 (by kernel_rfl)
                    have e8 : s8 = .bool true := hF.get 8 _ rfl (.inr p8)
                    subst e8
                    refine step_of ⟨some 75, _, _, _, _, _⟩ rfl (fun K' hK => ?_)
                    rw [if_pos (by rfl)]
                    go_simp
                    go_at_call 19
                    (with_reducible refine (QleaAaU.out _ (HE.out.below (below_none hF.low))).mono ?_)
                    rintro e Wq ⟨rfl, hq⟩
                    refine hK.out _ _ ⟨_, hF.pure hok hla hpre rfl hq, ?fr⟩
                    case fr => simp only [putO, layT_some, layT_none, layT_nil, List.setIfInBounds_toArray, List.set_cons_zero, List.set_cons_succ]
                  · replace hge : 17 ≤ i := hgt
                    clear hgt
                    rcases Nat.lt_or_ge i 18 with hlt | hgt
                    · replace hi := hlt
                      clear hlt
                      have he : i = 17 := Nat.le_antisymm (Nat.le_of_lt_succ hi) hge
                      subst he
                      have p8 := hpre 8 (by kernel_rfl)
                      have e8 : s8 = .bool true := hF.get 8 _ rfl (.inr p8)
                      subst e8
                      have p16 := hpre 16 (by kernel_rfl)
                      have e16 : s16 = .bool true := hF.get 16 _ rfl (.inr p16)
                      subst e16
                      refine step_of ⟨some 76, _, _, _, _, _⟩ rfl (fun K' hK => ?_)
                      go_simp
                      refine hK.out _ _ ⟨_, hF.pure hok hla hpre rfl (Below.refl _ _), ?fr⟩
                      case fr => simp only [putO, layT_some, layT_none, layT_nil, List.setIfInBounds_toArray, List.set_cons_zero, List.set_cons_succ]
                    · replace hge : 18 ≤ i := hgt
                      clear hgt
                      have he : i = 18 := Nat.le_antisymm (Nat.le_of_lt_succ hi) hge
                      subst he
                      have p17 := hpre 17 (by kernel_rfl)
                      have e17 : s17 = .bool true := hF.get 17 _ rfl (.inr p17)
                      subst e17
                      refine step_of ⟨some 77, _, _, _, _, _⟩ rfl (fun K' hK => ?_)
                      go_simp
                      refine hK.out _ _ ⟨_, hF.pure hok hla hpre rfl (Below.refl _ _), ?fr⟩
                      case fr => simp only [putO, layT_some, layT_none, layT_nil, List.setIfInBounds_toArray, List.set_cons_zero, List.set_cons_succ]
          · replace hge : 19 ≤ i := hgt
            clear hgt
            rcases Nat.lt_or_ge i 29 with hlt | hgt
            · replace hi := hlt
              clear hlt
              rcases Nat.lt_or_ge i 24 with hlt | hgt
              · replace hi := hlt
                clear hlt
                rcases Nat.lt_or_ge i 21 with hlt | hgt
                · replace hi := hlt
                  clear hlt
                  rcases Nat.lt_or_ge i 20 with hlt | hgt
                  · replace hi := hlt
                    clear hlt
                    have he : i = 19 := Nat.le_antisymm (Nat.le_of_lt_succ hi) hge
                    subst he
                    have p18 := hpre 18 (by kernel_rfl)
                    have e18 : s18 = .bool true := hF.get 18 _ rfl (.inr p18)
                    subst e18
                    refine step_of ⟨some 78, _, _, _, _, _⟩ rfl (fun K' hK => ?_)
                    rw [if_pos (by rfl)]
                    go_simp
                    refine hK.out _ _ ⟨_, hF.pure hok hla hpre rfl (Below.refl _ _), ?fr⟩
                    case fr => simp only [putO, layT_some, layT_none, layT_nil, List.setIfInBounds_toArray, List.set_cons_zero, List.set_cons_succ]
                  · replace hge : 20 ≤ i := hgt
                    clear hgt
                    have he : i = 20 := Nat.le_antisymm (Nat.le_of_lt_succ hi) hge
                    subst he
                    have p18 := hpre 18 (by kernel_rfl)
                    have e18 : s18 = .bool true := hF.get 18 _ rfl (.inr p18)
                    subst e18
                    refine step_of ⟨some 79, _, _, _, _, _⟩ rfl (fun K' hK => ?_)
                    rw [if_pos (by rfl)]
                    go_simp
                    refine hK.out _ _ ⟨_, hF.pure hok hla hpre rfl (Below.refl _ _), ?fr⟩
                    case fr => simp only [putO, layT_some, layT_none, layT_nil, List.setIfInBounds_toArray, List.set_cons_zero, List.set_cons_succ]
                · replace hge : 21 ≤ i := hgt
                  clear hgt
                  rcases Nat.lt_or_ge i 22 with hlt | hgt
                  · replace hi := hlt
                    clear hlt
                    have he : i = 21 := Nat.le_antisymm (Nat.le_of_lt_succ hi) hge
                    subst he
                    have p18 := hpre 18 (by kernel_rfl)
                    have e18 : s18 = .bool true := hF.get 18 _ rfl (.inr p18)
                    subst e18
                    have hcc := (nine_at (keep_block H9.out (below_none hF.low))).1
                    have cH90 := hcc.1
                    have cH91 := hcc.2.1
                    have cH92 := hcc.2.2.1
                    have cH93 := hcc.2.2.2.1
                    have cH94 := hcc.2.2.2.2.1
                    have cH95 := hcc.2.2.2.2.2.1
                    have cH96 := hcc.2.2.2.2.2.2.1
                    have cH97 := hcc.2.2.2.2.2.2.2.1
                    have cH98 := hcc.2.2.2.2.2.2.2.2
                    clear hcc
                    refine step_of ⟨some 80, _, _, _, _, _⟩ rfl (fun K' hK => ?_)
                    rw [if_pos (by rfl)]
                    go_simp
                    refine hK.out _ _ ⟨_, hF.pure hok hla hpre rfl (Below.refl _ _), ?fr⟩
                    case fr => simp only [putO, layT_some, layT_none, layT_nil, List.setIfInBounds_toArray, List.set_cons_zero, List.set_cons_succ]
                  · replace hge : 22 ≤ i := hgt
                    clear hgt
                    rcases Nat.lt_or_ge i 23 with hlt | hgt
                    · replace hi := hlt
                      clear hlt
                      have he : i = 22 := Nat.le_antisymm (Nat.le_of_lt_succ hi) hge
                      subst he
                      have p20 := hpre 20 (by kernel_rfl)
                      have e20 : s20 = .func (.func 21) #[] #[] := hF.get 20 _ rfl (.inr p20)
                      subst e20
                      have p21 := hpre 21 (by kernel_rfl)
                      have e21 : s21 = .agg #[.int .i64 1, .string (numS D), .string (denS D), .string { data := #[] }, .bool false, .int .i64 0, .int .i64 0, .int .i64 0, .slice none 0 0] := hF.get 21 _ rfl (.inr p21)
                      subst e21
                      have p18 := hpre 18 (by kernel_rfl)
                      have e18 : s18 = .bool true := hF.get 18 _ rfl (.inr p18)
                      subst e18
                      refine step_of ⟨some 81, _, _, _, _, _⟩ rfl (fun K' hK => ?_)
                      rw [if_pos (by rfl)]
                      go_simp
                      go_at_call 21
                      (with_reducible refine (QabD.out _ (HE.out.below (below_none hF.low))).mono ?_)
                      rintro e Wq ⟨rfl, hq⟩
                      refine hK.out _ _ ⟨_, hF.pure hok hla hpre rfl hq, ?fr⟩
                      case fr => simp only [putO, layT_some, layT_none, layT_nil, List.setIfInBounds_toArray, List.set_cons_zero, List.set_cons_succ]
                    · replace hge : 23 ≤ i := hgt
                      clear hgt
                      have he : i = 23 := Nat.le_antisymm (Nat.le_of_lt_succ hi) hge
                      subst he
                      have p18 := hpre 18 (by kernel_rfl)
                      have e18 : s18 = .bool true := hF.get 18 _ rfl (.inr p18)
                      subst e18
                      refine step_of ⟨some 82, _, _, _, _, _⟩ rfl (fun K' hK => ?_)
                      rw [if_pos (by rfl)]
                      go_simp
                      refine hK.out _ _ ⟨_, hF.pure hok hla hpre rfl (Below.refl _ _), ?fr⟩
                      case fr => simp only [putO, layT_some, layT_none, layT_nil, List.setIfInBounds_toArray, List.set_cons_zero, List.set_cons_succ]
              · replace hge : 24 ≤ i := hgt
                clear hgt
                rcases Nat.lt_or_ge i 26 with hlt | hgt
                · replace hi := hlt
                  clear hlt
                  rcases Nat.lt_or_ge i 25 with hlt | hgt
                  · replace hi := hlt
                    clear hlt
                    have he : i = 24 := Nat.le_antisymm (Nat.le_of_lt_succ hi) hge
                    subst he
                    have p18 := hpre 18 (by kernel_rfl)
                    have e18 : s18 = .bool true := hF.get 18 _ rfl (.inr p18)
                    subst e18
                    have hcc := (nine_at (keep_block H7.out (below_none hF.low))).1
                    have cH70 := hcc.1
                    have cH71 := hcc.2.1
                    have cH72 := hcc.2.2.1
                    have cH73 := hcc.2.2.2.1
                    have cH74 := hcc.2.2.2.2.1
                    have cH75 := hcc.2.2.2.2.2.1
                    have cH76 := hcc.2.2.2.2.2.2.1
                    have cH77 := hcc.2.2.2.2.2.2.2.1
                    have cH78 := hcc.2.2.2.2.2.2.2.2
                    clear hcc
                    refine step_of ⟨some 83, _, _, _, _, _⟩ rfl (fun K' hK => ?_)
                    rw [if_pos (by rfl)]
                    go_simp
                    refine hK.out _ _ ⟨_, hF.pure hok hla hpre rfl (Below.refl _ _), ?fr⟩
                    case fr => simp only [putO, layT_some, layT_none, layT_nil, List.setIfInBounds_toArray, List.set_cons_zero, List.set_cons_succ]
                  · replace hge : 25 ≤ i := hgt
                    clear hgt
                    have he : i = 25 := Nat.le_antisymm (Nat.le_of_lt_succ hi) hge
                    subst he
                    have p23 := hpre 23 (by kernel_rfl)
                    have e23 : s23 = .func (.func 21) #[] #[] := hF.get 23 _ rfl (.inr p23)
                    subst e23
                    have p24 := hpre 24 (by kernel_rfl)
                    have e24 : s24 = .agg #[.int .i64 1, .string (numS R), .string (denS R), .string { data := #[] }, .bool false, .int .i64 0, .int .i64 0, .int .i64 0, .slice none 0 0] := hF.get 24 _ rfl (.inr p24)
                    subst e24
                    have p18 := hpre 18 (by kernel_rfl)
                    have e18 : s18 = .bool true := hF.get 18 _ rfl (.inr p18)
                    subst e18
                    refine step_of ⟨some 84, _, _, _, _, _⟩ rfl (fun K' hK => ?_)
                    rw [if_pos (by rfl)]
                    go_simp
                    go_at_call 21
                    (with_reducible refine (QabR.out _ (HE.out.below (below_none hF.low))).mono ?_)
                    rintro e Wq ⟨rfl, hq⟩
                    refine hK.out _ _ ⟨_, hF.pure hok hla hpre rfl hq, ?fr⟩
                    case fr => simp only [putO, layT_some, layT_none, layT_nil, List.setIfInBounds_toArray, List.set_cons_zero, List.set_cons_succ]
                · replace hge : 26 ≤ i := hgt
                  clear hgt
                  rcases Nat.lt_or_ge i 27 with hlt | hgt
                  · replace hi := hlt
                    clear hlt
                    have he : i = 26 := Nat.le_antisymm (Nat.le_of_lt_succ hi) hge
                    subst he
                    have p19 := hpre 19 (by kernel_rfl)
                    have e19 : s19 = .func (.func 19) #[] #[] := hF.get 19 _ rfl (.inr p19)
                    subst e19
                    have p22 := hpre 22 (by kernel_rfl)
                    have e22 : s22 = .agg #[.int .i64 1, .string (numS aD), .string (denS aD), .string { data := #[] }, .bool false, .int .i64 0, .int .i64 0, .int .i64 0, .slice none 0 0] := hF.get 22 _ rfl (.inr p22)
                    subst e22
                    have p25 := hpre 25 (by kernel_rfl)
                    have e25 : s25 = .agg #[.int .i64 1, .string (numS aR), .string (denS aR), .string { data := #[] }, .bool false, .int .i64 0, .int .i64 0, .int .i64 0, .slice none 0 0] := hF.get 25 _ rfl (.inr p25)
                    subst e25
                    have p18 := hpre 18 (by kernel_rfl)
                    have e18 : s18 = .bool true := hF.get 18 _ rfl (.inr p18)
                    subst e18
                    refine step_of ⟨some 85, _, _, _, _, _⟩ rfl (fun K' hK => ?_)
                    rw [if_pos (by rfl)]
                    go_simp
                    go_at_call 19
                    (with_reducible refine (QleaDaR.out _ (HE.out.below (below_none hF.low))).mono ?_)
                    rintro e Wq ⟨rfl, hq⟩
                    refine hK.out _ _ ⟨_, hF.pure hok hla hpre rfl hq, ?fr⟩
                    case fr => simp only [putO, layT_some, layT_none, layT_nil, List.setIfInBounds_toArray, List.set_cons_zero, List.set_cons_succ]
                  · replace hge : 27 ≤ i := hgt
                    clear hgt
                    rcases Nat.lt_or_ge i 28 with hlt | hgt
                    · replace hi := hlt
                      clear hlt
                      have he : i = 27 := Nat.le_antisymm (Nat.le_of_lt_succ hi) hge
                      subst he
                      have p18 := hpre 18 (by kernel_rfl)
                      have e18 : s18 = .bool true := hF.get 18 _ rfl (.inr p18)
                      subst e18
                      have p26 := hpre 26 (by kernel_rfl)
                      have e26 : s26 = .bool true := hF.get 26 _ rfl (.inr p26)
                      subst e26
                      refine step_of ⟨some 86, _, _, _, _, _⟩ rfl (fun K' hK => ?_)
                      go_simp
                      refine hK.out _ _ ⟨_, hF.pure hok hla hpre rfl (Below.refl _ _), ?fr⟩
                      case fr => simp only [putO, layT_some, layT_none, layT_nil, List.setIfInBounds_toArray, List.set_cons_zero, List.set_cons_succ]
                    · replace hge : 28 ≤ i := hgt
                      clear hgt
                      have he : i = 28 := Nat.le_antisymm (Nat.le_of_lt_succ hi) hge
                      subst he
                      have p27 := hpre 27 (by kernel_rfl)
                      have e27 : s27 = .bool true := hF.get 27 _ rfl (.inr p27)
                      subst e27
                      refine step_of ⟨some 87, _, _, _, _, _⟩ rfl (fun K' hK => ?_)
                      go_simp
                      refine hK.out _ _ ⟨_, hF.pure hok hla hpre rfl (Below.refl _ _), ?fr⟩
                      case fr => simp only [putO, layT_some, layT_none, layT_nil, List.setIfInBounds_toArray, List.set_cons_zero, List.set_cons_succ]
            · replace hge : 29 ≤ i := hgt
              clear hgt
              rcases Nat.lt_or_ge i 34 with hlt | hgt
              · replace hi := hlt
                clear hlt
                rcases Nat.lt_or_ge i 31 with hlt | hgt
                · replace hi := hlt
                  clear hlt
                  rcases Nat.lt_or_ge i 30 with hlt | hgt
                  · replace hi := hlt
                    clear hlt
                    have he : i = 29 := Nat.le_antisymm (Nat.le_of_lt_succ hi) hge
                    subst he
                    have p28 := hpre 28 (by kernel_rfl)
                    have e28 : s28 = .bool true := hF.get 28 _ rfl (.inr p28)
                    subst e28
                    refine step_of ⟨some 88, _, _, _, _, _⟩ rfl (fun K' hK => ?_)
                    rw [if_pos (by rfl)]
                    go_simp
                    refine hK.out _ _ ⟨_, hF.pure hok hla hpre rfl (Below.refl _ _), ?fr⟩
                    case fr => simp only [putO, layT_some, layT_none, layT_nil, List.setIfInBounds_toArray, List.set_cons_zero, List.set_cons_succ]
                  · replace hge : 30 ≤ i := hgt
                    clear hgt
                    have he : i = 30 := Nat.le_antisymm (Nat.le_of_lt_succ hi) hge
                    subst he
                    have p28 := hpre 28 (by kernel_rfl)
                    have e28 : s28 = .bool true := hF.get 28 _ rfl (.inr p28)
                    subst e28
                    refine step_of ⟨some 89, _, _, _, _, _⟩ rfl (fun K' hK => ?_)
                    rw [if_pos (by rfl)]
                    go_simp
                    refine hK.out _ _ ⟨_, hF.pure hok hla hpre rfl (Below.refl _ _), ?fr⟩
                    case fr => simp only [putO, layT_some, layT_none, layT_nil, List.setIfInBounds_toArray, List.set_cons_zero, List.set_cons_succ]
                · replace hge : 31 ≤ i := hgt
                  clear hgt
                  rcases Nat.lt_or_ge i 32 with hlt | hgt
                  · replace hi := hlt
                    clear hlt
                    have he : i = 31 := Nat.le_antisymm (Nat.le_of_lt_succ hi) hge
                    subst he
                    have p28 := hpre 28 (by kernel_rfl)
                    have e28 : s28 = .bool true := hF.get 28 _ rfl (.inr p28)
                    subst e28
                    have hcc := (nine_at (keep_block H7.out (below_none hF.low))).1
                    have cH70 := hcc.1
                    have cH71 := hcc.2.1
                    have cH72 := hcc.2.2.1
                    have cH73 := hcc.2.2.2.1
                    have cH74 := hcc.2.2.2.2.1
                    have cH75 := hcc.2.2.2.2.2.1
                    have cH76 := hcc.2.2.2.2.2.2.1
                    have cH77 := hcc.2.2.2.2.2.2.2.1
                    have cH78 := hcc.2.2.2.2.2.2.2.2
                    clear hcc
                    refine step_of ⟨some 90, _, _, _, _, _⟩ rfl (fun K' hK => ?_)
                    rw [if_pos (by rfl)]
                    go_simp
                    refine hK.out _ _ ⟨_, hF.pure hok hla hpre rfl (Below.refl _ _), ?fr⟩
                    case fr => simp only [putO, layT_some, layT_none, layT_nil, List.setIfInBounds_toArray, List.set_cons_zero, List.set_cons_succ]
                  · replace hge : 32 ≤ i := hgt
                    clear hgt
                    rcases Nat.lt_or_ge i 33 with hlt | hgt
                    · replace hi := hlt
                      clear hlt
                      have he : i = 32 := Nat.le_antisymm (Nat.le_of_lt_succ hi) hge
                      subst he
                      have p30 := hpre 30 (by kernel_rfl)
                      have e30 : s30 = .func (.func 21) #[] #[] := hF.get 30 _ rfl (.inr p30)
                      subst e30
                      have p31 := hpre 31 (by kernel_rfl)
                      have e31 : s31 = .agg #[.int .i64 1, .string (numS R), .string (denS R), .string { data := #[] }, .bool false, .int .i64 0, .int .i64 0, .int .i64 0, .slice none 0 0] := hF.get 31 _ rfl (.inr p31)
                      subst e31
                      have p28 := hpre 28 (by kernel_rfl)
                      have e28 : s28 = .bool true := hF.get 28 _ rfl (.inr p28)
                      subst e28
                      refine step_of ⟨some 91, _, _, _, _, _⟩ rfl (fun K' hK => ?_)
                      rw [if_pos (by rfl)]
                      go_simp
                      go_at_call 21
                      (with_reducible refine (QabR.out _ (HE.out.below (below_none hF.low))).mono ?_)
                      rintro e Wq ⟨rfl, hq⟩
                      refine hK.out _ _ ⟨_, hF.pure hok hla hpre rfl hq, ?fr⟩
                      case fr => simp only [putO, layT_some, layT_none, layT_nil, List.setIfInBounds_toArray, List.set_cons_zero, List.set_cons_succ]
                    · replace hge : 33 ≤ i := hgt
                      clear hgt
                      have he : i = 33 := Nat.le_antisymm (Nat.le_of_lt_succ hi) hge
                      subst he
                      have p28 := hpre 28 (by kernel_rfl)
                      have e28 : s28 = .bool true := hF.get 28 _ rfl (.inr p28)
                      subst e28
                      refine step_of ⟨some 92, _, _, _, _, _⟩ rfl (fun K' hK => ?_)
                      rw [if_pos (by rfl)]
                      go_simp
                      refine hK.out _ _ ⟨_, hF.pure hok hla hpre rfl (Below.refl _ _), ?fr⟩
                      case fr => simp only [putO, layT_some, layT_none, layT_nil, List.setIfInBounds_toArray, List.set_cons_zero, List.set_cons_succ]
              · replace hge : 34 ≤ i := hgt
                clear hgt
                rcases Nat.lt_or_ge i 36 with hlt | hgt
                · replace hi := hlt
                  clear hlt
                  rcases Nat.lt_or_ge i 35 with hlt | hgt
                  · replace hi := hlt
                    clear hlt
                    have he : i = 34 := Nat.le_antisymm (Nat.le_of_lt_succ hi) hge
                    subst he
                    have p28 := hpre 28 (by kernel_rfl)
                    have e28 : s28 = .bool true := hF.get 28 _ rfl (.inr p28)
                    subst e28
                    have hcc := (nine_at (keep_block H8.out (below_none hF.low))).1
                    have cH80 := hcc.1
                    have cH81 := hcc.2.1
                    have cH82 := hcc.2.2.1
                    have cH83 := hcc.2.2.2.1
                    have cH84 := hcc.2.2.2.2.1
                    have cH85 := hcc.2.2.2.2.2.1
                    have cH86 := hcc.2.2.2.2.2.2.1
                    have cH87 := hcc.2.2.2.2.2.2.2.1
                    have cH88 := hcc.2.2.2.2.2.2.2.2
                    clear hcc
                    refine step_of ⟨some 93, _, _, _, _, _⟩ rfl (fun K' hK => ?_)
                    rw [if_pos (by rfl)]
                    go_simp
                    refine hK.out _ _ ⟨_, hF.pure hok hla hpre rfl (Below.refl _ _), ?fr⟩
                    case fr => simp only [putO, layT_some, layT_none, layT_nil, List.setIfInBounds_toArray, List.set_cons_zero, List.set_cons_succ]
                  · replace hge : 35 ≤ i := hgt
                    clear hgt
                    have he : i = 35 := Nat.le_antisymm (Nat.le_of_lt_succ hi) hge
                    subst he
                    have p33 := hpre 33 (by kernel_rfl)
                    have e33 : s33 = .func (.func 21) #[] #[] := hF.get 33 _ rfl (.inr p33)
                    subst e33
                    have p34 := hpre 34 (by kernel_rfl)
                    have e34 : s34 = .agg #[.int .i64 1, .string (numS U), .string (denS U), .string { data := #[] }, .bool false, .int .i64 0, .int .i64 0, .int .i64 0, .slice none 0 0] := hF.get 34 _ rfl (.inr p34)
                    subst e34
                    have p28 := hpre 28 (by kernel_rfl)
                    have e28 : s28 = .bool true := hF.get 28 _ rfl (.inr p28)
                    subst e28
                    refine step_of ⟨some 94, _, _, _, _, _⟩ rfl (fun K' hK => ?_)
                    rw [if_pos (by rfl)]
                    go_simp
                    go_at_call 21
                    (with_reducible refine (QabU.out _ (HE.out.below (below_none hF.low))).mono ?_)
                    rintro e Wq ⟨rfl, hq⟩
                    refine hK.out _ _ ⟨_, hF.pure hok hla hpre rfl hq, ?fr⟩
                    case fr => simp only [putO, layT_some, layT_none, layT_nil, List.setIfInBounds_toArray, List.set_cons_zero, List.set_cons_succ]
                · replace hge : 36 ≤ i := hgt
                  clear hgt
                  rcases Nat.lt_or_ge i 37 with hlt | hgt
                  · replace hi := hlt
                    clear hlt
                    have he : i = 36 := Nat.le_antisymm (Nat.le_of_lt_succ hi) hge
                    subst he
                    have p29 := hpre 29 (by kernel_rfl)
                    have e29 : s29 = .func (.func 19) #[] #[] := hF.get 29 _ rfl (.inr p29)
                    subst e29
                    have p32 := hpre 32 (by kernel_rfl)
                    have e32 : s32 = .agg #[.int .i64 1, .string (numS aR), .string (denS aR), .string { data := #[] }, .bool false, .int .i64 0, .int .i64 0, .int .i64 0, .slice none 0 0] := hF.get 32 _ rfl (.inr p32)
                    subst e32
                    have p35 := hpre 35 (by kernel_rfl)
                    have e35 : s35 = .agg #[.int .i64 1, .string (numS aU), .string (denS aU), .string { data := #[] }, .bool false, .int .i64 0, .int .i64 0, .int .i64 0, .slice none 0 0] := hF.get 35 _ rfl (.inr p35)
                    subst e35
                    have p28 := hpre 28 (by kernel_rfl)
                    have e28 : s28 = .bool true := hF.get 28 _ rfl (.inr p28)
                    subst e28
                    refine step_of ⟨some 95, _, _, _, _, _⟩ rfl (fun K' hK => ?_)
                    rw [if_pos (by rfl)]
                    go_simp
                    go_at_call 19
                    (with_reducible refine (QleaRaU.out _ (HE.out.below (below_none hF.low))).mono ?_)
                    rintro e Wq ⟨rfl, hq⟩
                    refine hK.out _ _ ⟨_, hF.pure hok hla hpre rfl hq, ?fr⟩
                    case fr => simp only [putO, layT_some, layT_none, layT_nil, List.setIfInBounds_toArray, List.set_cons_zero, List.set_cons_succ]
                  · replace hge : 37 ≤ i := hgt
                    clear hgt
                    rcases Nat.lt_or_ge i 38 with hlt | hgt
                    · replace hi := hlt
                      clear hlt
                      have he : i = 37 := Nat.le_antisymm (Nat.le_of_lt_succ hi) hge
                      subst he
                      have p28 := hpre 28 (by kernel_rfl)
                      have e28 : s28 = .bool true := hF.get 28 _ rfl (.inr p28)
                      subst e28
                      have p36 := hpre 36 (by kernel_rfl)
                      have e36 : s36 = .bool true := hF.get 36 _ rfl (.inr p36)
                      subst e36
                      refine step_of ⟨some 96, _, _, _, _, _⟩ rfl (fun K' hK => ?_)
                      go_simp
                      refine hK.out _ _ ⟨_, hF.pure hok hla hpre rfl (Below.refl _ _), ?fr⟩
                      case fr => simp only [putO, layT_some, layT_none, layT_nil, List.setIfInBounds_toArray, List.set_cons_zero, List.set_cons_succ]
                    · replace hge : 38 ≤ i := hgt
                      clear hgt
                      have he : i = 38 := Nat.le_antisymm (Nat.le_of_lt_succ hi) hge
                      subst he
                      have p37 := hpre 37 (by kernel_rfl)
                      have e37 : s37 = .bool true := hF.get 37 _ rfl (.inr p37)
                      subst e37
                      refine step_of ⟨some 16, _, _, _, _, _⟩ rfl (fun K' hK => ?_)
                      go_simp
                      refine hK.out _ _ ⟨_, hF.pure hok hla hpre rfl (Below.refl _ _), ?fr⟩
                      case fr => simp only [putO, layT_some, layT_none, layT_nil, List.setIfInBounds_toArray, List.set_cons_zero, List.set_cons_succ]
        case hd =>
          rintro listed vs WE hF hall
          obtain ⟨s0, s1, s2, s3, s4, s5, s6, s7, s8, s9, s10, s11, s12, s13, s14, s15, s16, s17, s18, s19, s20, s21, s22, s23, s24, s25, s26, s27, s28, s29, s30, s31, s32, s33, s34, s35, s36, s37, s38, hvs⟩ := exl_of 39 vs (fun l => vs = l) hF.len rfl
          subst hvs
          have e38 : s38 = .bool true := hF.get 38 _ rfl (.inr (hall 38 (by decide)))
          subst e38
          have hq := below_none hF.low
          replace HE := Lib.hid (HE.out.below hq)
          replace HL := Lib.hid (HL.out.trans (hq.mono HL.out.size))
          replace H5 := Lib.hid (keep_block H5.out hq)
          replace H6 := Lib.hid (keep_block H6.out hq)
          replace H7 := Lib.hid (keep_block H7.out hq)
          replace H8 := Lib.hid (keep_block H8.out hq)
          replace H9 := Lib.hid (keep_block H9.out hq)
          replace H10 := Lib.hid (keep_block H10.out hq)
          replace H11 := Lib.hid (keep_block H11.out hq)
          replace H12 := Lib.hid (keep_block H12.out hq)
          replace H13 := Lib.hid (keep_block H13.out hq)
          clear hq
          clear hF hall hok hna hla
          simp only [putO, layT_some, layT_none, layT_nil, List.setIfInBounds_toArray, List.set_cons_zero, List.set_cons_succ]
          go_wp2_with fail
          have hok : okB 52 (RNKs10 w3 b7 b8 b9 b10 b11 b12 b13 A K R U D Ce Fl H I T M P aA aD aU aR aT on mo) = true := by kernel_rfl
          have hna := noAny_of (ks := (RNKs10 w3 b7 b8 b9 b10 b11 b12 b13 A K R U D Ce Fl H I T M P aA aD aU aR aT on mo)) (by kernel_rfl)
          have hla := lasts_of hna
          refine wp_region_facts (row := none) (w := WE) 52 (RNKs10 w3 b7 b8 b9 b10 b11 b12 b13 A K R U D Ce Fl H I T M P aA aD aU aR aT on mo) [some 97, some 98, some 99, some 100, some 101, some 102, some 103, some 104, some 105, some 106, some 107, some 108, some 109, some 110, some 111, some 112, some 113, some 114, some 115, some 116, some 117, some 118, some 119, some 120, some 121, some 122, some 123, some 124, some 125, some 126, some 127, some 128, some 129, some 130, some 131, some 132, some 133, some 134, some 135, some 136, some 137, some 138, some 139, some 140, some 141, some 142, some 143, some 144, some 145, some 146, some 147, some 4] (by kernel_rfl) (by kernel_rfl) rfl [undef, undef, undef, undef, undef, undef, undef, undef, undef, undef, undef, undef, undef, undef, undef, undef, undef, undef, undef, undef, undef, undef, undef, undef, undef, undef, undef, undef, undef, undef, undef, undef, undef, undef, undef, undef, undef, undef, undef, undef, undef, undef, undef, undef, undef, undef, undef, undef, undef, undef, undef, (.bool false)] ?h00 (Fs.start rfl rfl) ?hs ?hd
          case h00 => simp only [putO, layT_some, layT_none, layT_nil, List.setIfInBounds_toArray, List.set_cons_zero, List.set_cons_succ]
          case hs =>
            rintro listed vs Wr hF i hi hun hpre
            obtain ⟨s0, s1, s2, s3, s4, s5, s6, s7, s8, s9, s10, s11, s12, s13, s14, s15, s16, s17, s18, s19, s20, s21, s22, s23, s24, s25, s26, s27, s28, s29, s30, s31, s32, s33, s34, s35, s36, s37, s38, s39, s40, s41, s42, s43, s44, s45, s46, s47, s48, s49, s50, s51, hvs⟩ := exl_of 52 vs (fun l => vs = l) hF.len rfl
            subst hvs
            have hge := Nat.zero_le i
            simp only [putO, layT_some, layT_none, layT_nil, List.setIfInBounds_toArray, List.set_cons_zero, List.set_cons_succ]
            rcases Nat.lt_or_ge i 26 with hlt | hgt
            · replace hi := hlt
              clear hlt
              rcases Nat.lt_or_ge i 13 with hlt | hgt
              · replace hi := hlt
                clear hlt
                rcases Nat.lt_or_ge i 6 with hlt | hgt
                · replace hi := hlt
                  clear hlt
                  rcases Nat.lt_or_ge i 3 with hlt | hgt
                  · replace hi := hlt
                    clear hlt
                    rcases Nat.lt_or_ge i 1 with hlt | hgt
                    · replace hi := hlt
                      clear hlt
                      have he : i = 0 := Nat.le_antisymm (Nat.le_of_lt_succ hi) hge
                      subst he
                      refine step_of ⟨some 97, _, _, _, _, _⟩ rfl (fun K' hK => ?_)
                      go_simp
                      refine hK.out _ _ ⟨_, hF.pure hok hla hpre rfl (Below.refl _ _), ?fr⟩
                      case fr => simp only [putO, layT_some, layT_none, layT_nil, List.setIfInBounds_toArray, List.set_cons_zero, List.set_cons_succ]
                    · replace hge : 1 ≤ i := hgt
                      clear hgt
                      rcases Nat.lt_or_ge i 2 with hlt | hgt
                      · replace hi := hlt
                        clear hlt
                        have he : i = 1 := Nat.le_antisymm (Nat.le_of_lt_succ hi) hge
                        subst he
                        have p0 := hpre 0 (by kernel_rfl)
                        have e0 : s0 = .bool true := hF.get 0 _ rfl (.inr p0)
                        subst e0
                        refine step_of ⟨some 98, _, _, _, _, _⟩ rfl (fun K' hK => ?_)
                        go_simp
                        refine hK.out _ _ ⟨_, hF.pure hok hla hpre rfl (Below.refl _ _), ?fr⟩
                        case fr => simp only [putO, layT_some, layT_none, layT_nil, List.setIfInBounds_toArray, List.set_cons_zero, List.set_cons_succ]
                      · replace hge : 2 ≤ i := hgt
                        clear hgt
                        have he : i = 2 := Nat.le_antisymm (Nat.le_of_lt_succ hi) hge
                        subst he
                        have p1 := hpre 1 (by kernel_rfl)
                        have e1 : s1 = .bool true := hF.get 1 _ rfl (.inr p1)
                        subst e1
                        refine step_of ⟨some 99, _, _, _, _, _⟩ rfl (fun K' hK => ?_)
                        rw [if_pos (by rfl)]
                        go_simp
                        refine hK.out _ _ ⟨_, hF.pure hok hla hpre rfl (Below.refl _ _), ?fr⟩
                        case fr => simp only [putO, layT_some, layT_none, layT_nil, List.setIfInBounds_toArray, List.set_cons_zero, List.set_cons_succ]
                  · replace hge : 3 ≤ i := hgt
                    clear hgt
                    rcases Nat.lt_or_ge i 4 with hlt | hgt
                    · replace hi := hlt
                      clear hlt
                      have he : i = 3 := Nat.le_antisymm (Nat.le_of_lt_succ hi) hge
                      subst he
                      have p1 := hpre 1 (by kernel_rfl)
                      have e1 : s1 = .bool true := hF.get 1 _ rfl (.inr p1)
                      subst e1
                      have hcc := (nine_at (keep_block H11.out (below_none hF.low))).1
                      have cH110 := hcc.1
                      have cH111 := hcc.2.1
                      have cH112 := hcc.2.2.1
                      have cH113 := hcc.2.2.2.1
                      have cH114 := hcc.2.2.2.2.1
                      have cH115 := hcc.2.2.2.2.2.1
                      have cH116 := hcc.2.2.2.2.2.2.1
                      have cH117 := hcc.2.2.2.2.2.2.2.1
                      have cH118 := hcc.2.2.2.2.2.2.2.2
                      clear hcc
                      refine step_of ⟨some 100, _, _, _, _, _⟩ rfl (fun K' hK => ?_)
                      rw [if_pos (by rfl)]
                      go_simp
                      refine hK.out _ _ ⟨_, hF.pure hok hla hpre rfl (Below.refl _ _), ?fr⟩
                      case fr => simp only [putO, layT_some, layT_none, layT_nil, List.setIfInBounds_toArray, List.set_cons_zero, List.set_cons_succ]
                    · replace hge : 4 ≤ i := hgt
                      clear hgt
                      rcases Nat.lt_or_ge i 5 with hlt | hgt
                      · replace hi := hlt
                        clear hlt
                        have he : i = 4 := Nat.le_antisymm (Nat.le_of_lt_succ hi) hge
                        subst he
                        have p1 := hpre 1 (by kernel_rfl)
                        have e1 : s1 = .bool true := hF.get 1 _ rfl (.inr p1)
                        subst e1
                        have hcc := (nine_at (keep_block H5.out (below_none hF.low))).1
                        have cH50 := hcc.1
                        have cH51 := hcc.2.1
                        have cH52 := hcc.2.2.1
                        have cH53 := hcc.2.2.2.1
                        have cH54 := hcc.2.2.2.2.1
                        have cH55 := hcc.2.2.2.2.2.1
                        have cH56 := hcc.2.2.2.2.2.2.1
                        have cH57 := hcc.2.2.2.2.2.2.2.1
                        have cH58 := hcc.2.2.2.2.2.2.2.2
                        clear hcc
                        refine step_of ⟨some 101, _, _, _, _, _⟩ rfl (fun K' hK => ?_)
                        rw [if_pos (by rfl)]
                        go_simp
                        refine hK.out _ _ ⟨_, hF.pure hok hla hpre rfl (Below.refl _ _), ?fr⟩
                        case fr => simp only [putO, layT_some, layT_none, layT_nil, List.setIfInBounds_toArray, List.set_cons_zero, List.set_cons_succ]
                      · replace hge : 5 ≤ i := hgt
                        clear hgt
                        have he : i = 5 := Nat.le_antisymm (Nat.le_of_lt_succ hi) hge
                        subst he
                        have p2 := hpre 2 (by kernel_rfl)
                        have e2 : s2 = .func (.func 19) #[] #[] := hF.get 2 _ rfl (.inr p2)
                        subst e2
                        have p3 := hpre 3 (by kernel_rfl)
                        have e3 : s3 = .agg #[.int .i64 1, .string (numS Fl), .string (denS Fl), .string { data := #[] }, .bool false, .int .i64 0, .int .i64 0, .int .i64 0, .slice none 0 0] := hF.get 3 _ rfl (.inr p3)
                        subst e3
                        have p4 := hpre 4 (by kernel_rfl)
                        have e4 : s4 = .agg #[.int .i64 1, .string (numS A), .string (denS A), .string { data := #[] }, .bool false, .int .i64 0, .int .i64 0, .int .i64 0, .slice none 0 0] := hF.get 4 _ rfl (.inr p4)
                        subst e4
                        have p1 := hpre 1 (by kernel_rfl)
                        have e1 : s1 = .bool true := hF.get 1 _ rfl (.inr p1)
                        subst e1
                        refine step_of ⟨some 102, _, _, _, _, _⟩ rfl (fun K' hK => ?_)
                        rw [if_pos (by rfl)]
                        go_simp
                        go_at_call 19
                        (with_reducible refine (QleFlA.out _ (HE.out.below (below_none hF.low))).mono ?_)
                        rintro e Wq ⟨rfl, hq⟩
                        refine hK.out _ _ ⟨_, hF.pure hok hla hpre rfl hq, ?fr⟩
                        case fr => simp only [putO, layT_some, layT_none, layT_nil, List.setIfInBounds_toArray, List.set_cons_zero, List.set_cons_succ]
                · replace hge : 6 ≤ i := hgt
                  clear hgt
                  rcases Nat.lt_or_ge i 9 with hlt | hgt
                  · replace hi := hlt
                    clear hlt
                    rcases Nat.lt_or_ge i 7 with hlt | hgt
                    · replace hi := hlt
                      clear hlt
                      have he : i = 6 := Nat.le_antisymm (Nat.le_of_lt_succ hi) hge
                      subst he
                      have p1 := hpre 1 (by kernel_rfl)
                      have e1 : s1 = .bool true := hF.get 1 _ rfl (.inr p1)
                      subst e1
                      have p5 := hpre 5 (by kernel_rfl)
                      have e5 : s5 = .bool true := hF.get 5 _ rfl (.inr p5)
                      subst e5
                      refine step_of ⟨some 103, _, _, _, _, _⟩ rfl (fun K' hK => ?_)
                      go_simp
                      refine hK.out _ _ ⟨_, hF.pure hok hla hpre rfl (Below.refl _ _), ?fr⟩
                      case fr => simp only [putO, layT_some, layT_none, layT_nil, List.setIfInBounds_toArray, List.set_cons_zero, List.set_cons_succ]
                    · replace hge : 7 ≤ i := hgt
                      clear hgt
                      rcases Nat.lt_or_ge i 8 with hlt | hgt
                      · replace hi := hlt
                        clear hlt
                        have he : i = 7 := Nat.le_antisymm (Nat.le_of_lt_succ hi) hge
                        subst he
                        have p6 := hpre 6 (by kernel_rfl)
                        have e6 : s6 = .bool true := hF.get 6 _ rfl (.inr p6)
                        subst e6
                        refine step_of ⟨some 104, _, _, _, _, _⟩ rfl (fun K' hK => ?_)
                        go_simp
                        refine hK.out _ _ ⟨_, hF.pure hok hla hpre rfl (Below.refl _ _), ?fr⟩
                        case fr => simp only [putO, layT_some, layT_none, layT_nil, List.setIfInBounds_toArray, List.set_cons_zero, List.set_cons_succ]
                      · replace hge : 8 ≤ i := hgt
                        clear hgt
                        have he : i = 8 := Nat.le_antisymm (Nat.le_of_lt_succ hi) hge
                        subst he
                        have p7 := hpre 7 (by kernel_rfl)
                        have e7 : s7 = .bool true := hF.get 7 _ rfl (.inr p7)
                        subst e7
                        refine step_of ⟨some 105, _, _, _, _, _⟩ rfl (fun K' hK => ?_)
                        rw [if_pos (by rfl)]
                        go_simp
                        refine hK.out _ _ ⟨_, hF.pure hok hla hpre rfl (Below.refl _ _), ?fr⟩
                        case fr => simp only [putO, layT_some, layT_none, layT_nil, List.setIfInBounds_toArray, List.set_cons_zero, List.set_cons_succ]
                  · replace hge : 9 ≤ i := hgt
                    clear hgt
                    rcases Nat.lt_or_ge i 11 with hlt | hgt
                    · replace hi := hlt
                      clear hlt
                      rcases Nat.lt_or_ge i 10 with hlt | hgt
                      · replace hi := hlt
                        clear hlt
                        have he : i = 9 := Nat.le_antisymm (Nat.le_of_lt_succ hi) hge
                        subst he
                        have p7 := hpre 7 (by kernel_rfl)
                        have e7 : s7 = .bool true := hF.get 7 _ rfl (.inr p7)
                        subst e7
                        have hcc := (nine_at (keep_block H5.out (below_none hF.low))).1
                        have cH50 := hcc.1
                        have cH51 := hcc.2.1
                        have cH52 := hcc.2.2.1
                        have cH53 := hcc.2.2.2.1
                        have cH54 := hcc.2.2.2.2.1
                        have cH55 := hcc.2.2.2.2.2.1
                        have cH56 := hcc.2.2.2.2.2.2.1
                        have cH57 := hcc.2.2.2.2.2.2.2.1
                        have cH58 := hcc.2.2.2.2.2.2.2.2
                        clear hcc
                        refine step_of ⟨some 106, _, _, _, _, _⟩ rfl (fun K' hK => ?_)
                        rw [if_pos (by rfl)]
                        go_simp
                        refine hK.out _ _ ⟨_, hF.pure hok hla hpre rfl (Below.refl _ _), ?fr⟩
                        case fr => simp only [putO, layT_some, layT_none, layT_nil, List.setIfInBounds_toArray, List.set_cons_zero, List.set_cons_succ]
                      · replace hge : 10 ≤ i := hgt
                        clear hgt
                        have he : i = 10 := Nat.le_antisymm (Nat.le_of_lt_succ hi) hge
                        subst he
                        have p7 := hpre 7 (by kernel_rfl)
                        have e7 : s7 = .bool true := hF.get 7 _ rfl (.inr p7)
                        subst e7
                        have hcc := (nine_at (keep_block H10.out (below_none hF.low))).1
                        have cH100 := hcc.1
                        have cH101 := hcc.2.1
                        have cH102 := hcc.2.2.1
                        have cH103 := hcc.2.2.2.1
                        have cH104 := hcc.2.2.2.2.1
                        have cH105 := hcc.2.2.2.2.2.1
                        have cH106 := hcc.2.2.2.2.2.2.1
                        have cH107 := hcc.2.2.2.2.2.2.2.1
                        have cH108 := hcc.2.2.2.2.2.2.2.2
                        clear hcc
                        refine step_of ⟨some 107, _, _, _, _, _⟩ rfl (fun K' hK => ?_)
                        rw [if_pos (by rfl)]
                        go_simp
                        refine hK.out _ _ ⟨_, hF.pure hok hla hpre rfl (Below.refl _ _), ?fr⟩
                        case fr => simp only [putO, layT_some, layT_none, layT_nil, List.setIfInBounds_toArray, List.set_cons_zero, List.set_cons_succ]
                    · replace hge : 11 ≤ i := hgt
                      clear hgt
                      rcases Nat.lt_or_ge i 12 with hlt | hgt
                      · replace hi := hlt
                        clear hlt
                        have he : i = 11 := Nat.le_antisymm (Nat.le_of_lt_succ hi) hge
                        subst he
                        have p8 := hpre 8 (by kernel_rfl)
                        have e8 : s8 = .func (.func 19) #[] #[] := hF.get 8 _ rfl (.inr p8)
                        subst e8
                        have p9 := hpre 9 (by kernel_rfl)
                        have e9 : s9 = .agg #[.int .i64 1, .string (numS A), .string (denS A), .string { data := #[] }, .bool false, .int .i64 0, .int .i64 0, .int .i64 0, .slice none 0 0] := hF.get 9 _ rfl (.inr p9)
                        subst e9
                        have p10 := hpre 10 (by kernel_rfl)
                        have e10 : s10 = .agg #[.int .i64 1, .string (numS Ce), .string (denS Ce), .string { data := #[] }, .bool false, .int .i64 0, .int .i64 0, .int .i64 0, .slice none 0 0] := hF.get 10 _ rfl (.inr p10)
                        subst e10
                        have p7 := hpre 7 (by kernel_rfl)
                        have e7 : s7 = .bool true := hF.get 7 _ rfl (.inr p7)
                        subst e7
                        refine step_of ⟨some 108, _, _, _, _, _⟩ rfl (fun K' hK => ?_)
                        rw [if_pos (by rfl)]
                        go_simp
                        go_at_call 19
                        (with_reducible refine (QleACe.out _ (HE.out.below (below_none hF.low))).mono ?_)
                        rintro e Wq ⟨rfl, hq⟩
                        refine hK.out _ _ ⟨_, hF.pure hok hla hpre rfl hq, ?fr⟩
                        case fr => simp only [putO, layT_some, layT_none, layT_nil, List.setIfInBounds_toArray, List.set_cons_zero, List.set_cons_succ]
                      · replace hge : 12 ≤ i := hgt
                        clear hgt
                        have he : i = 12 := Nat.le_antisymm (Nat.le_of_lt_succ hi) hge
                        subst he
                        have p7 := hpre 7 (by kernel_rfl)
                        have e7 : s7 = .bool true := hF.get 7 _ rfl (.inr p7)
                        subst e7
                        have p11 := hpre 11 (by kernel_rfl)
                        have e11 : s11 = .bool true := hF.get 11 _ rfl (.inr p11)
                        subst e11
                        refine step_of ⟨some 109, _, _, _, _, _⟩ rfl (fun K' hK => ?_)
                        go_simp
                        refine hK.out _ _ ⟨_, hF.pure hok hla hpre rfl (Below.refl _ _), ?fr⟩
                        case fr => simp only [putO, layT_some, layT_none, layT_nil, List.setIfInBounds_toArray, List.set_cons_zero, List.set_cons_succ]
              · replace hge : 13 ≤ i := hgt
                clear hgt
                rcases Nat.lt_or_ge i 19 with hlt | hgt
                · replace hi := hlt
                  clear hlt
                  rcases Nat.lt_or_ge i 16 with hlt | hgt
                  · replace hi := hlt
                    clear hlt
                    rcases Nat.lt_or_ge i 14 with hlt | hgt
                    · replace hi := hlt
                      clear hlt
                      have he : i = 13 := Nat.le_antisymm (Nat.le_of_lt_succ hi) hge
                      subst he
                      have p12 := hpre 12 (by kernel_rfl)
                      have e12 : s12 = .bool true := hF.get 12 _ rfl (.inr p12)
                      subst e12
                      refine step_of ⟨some 110, _, _, _, _, _⟩ rfl (fun K' hK => ?_)
                      go_simp
                      refine hK.out _ _ ⟨_, hF.pure hok hla hpre rfl (Below.refl _ _), ?fr⟩
                      case fr => simp only [putO, layT_some, layT_none, layT_nil, List.setIfInBounds_toArray, List.set_cons_zero, List.set_cons_succ]
                    · replace hge : 14 ≤ i := hgt
                      clear hgt
                      rcases Nat.lt_or_ge i 15 with hlt | hgt
                      · replace hi := hlt
                        clear hlt
                        have he : i = 14 := Nat.le_antisymm (Nat.le_of_lt_succ hi) hge
                        subst he
                        have p13 := hpre 13 (by kernel_rfl)
                        have e13 : s13 = .bool true := hF.get 13 _ rfl (.inr p13)
                        subst e13
                        refine step_of ⟨some 111, _, _, _, _, _⟩ rfl (fun K' hK => ?_)
                        rw [if_pos (by rfl)]
                        go_simp
                        refine hK.out _ _ ⟨_, hF.pure hok hla hpre rfl (Below.refl _ _), ?fr⟩
                        case fr => simp only [putO, layT_some, layT_none, layT_nil, List.setIfInBounds_toArray, List.set_cons_zero, List.set_cons_succ]
                      · replace hge : 15 ≤ i := hgt
                        clear hgt
                        have he : i = 15 := Nat.le_antisymm (Nat.le_of_lt_succ hi) hge
                        subst he
                        have p13 := hpre 13 (by kernel_rfl)
                        have e13 : s13 = .bool true := hF.get 13 _ rfl (.inr p13)
                        subst e13
                        have hcc := (nine_at (keep_block H12.out (below_none hF.low))).1
                        have cH120 := hcc.1
                        have cH121 := hcc.2.1
                        have cH122 := hcc.2.2.1
                        have cH123 := hcc.2.2.2.1
                        have cH124 := hcc.2.2.2.2.1
                        have cH125 := hcc.2.2.2.2.2.1
                        have cH126 := hcc.2.2.2.2.2.2.1
                        have cH127 := hcc.2.2.2.2.2.2.2.1
                        have cH128 := hcc.2.2.2.2.2.2.2.2
                        clear hcc
                        refine step_of ⟨some 112, _, _, _, _, _⟩ rfl (fun K' hK => ?_)
                        rw [if_pos (by rfl)]
                        go_simp
                        refine hK.out _ _ ⟨_, hF.pure hok hla hpre rfl (Below.refl _ _), ?fr⟩
                        case fr => simp only [putO, layT_some, layT_none, layT_nil, List.setIfInBounds_toArray, List.set_cons_zero, List.set_cons_succ]
                  · replace hge : 16 ≤ i := hgt
                    clear hgt
                    rcases Nat.lt_or_ge i 17 with hlt | hgt
                    · replace hi := hlt
                      clear hlt
                      have he : i = 16 := Nat.le_antisymm (Nat.le_of_lt_succ hi) hge
                      subst he
                      have p13 := hpre 13 (by kernel_rfl)
                      have e13 : s13 = .bool true := hF.get 13 _ rfl (.inr p13)
                      subst e13
                      have hcc := (nine_at (keep_block H5.out (below_none hF.low))).1
                      have cH50 := hcc.1
                      have cH51 := hcc.2.1
                      have cH52 := hcc.2.2.1
                      have cH53 := hcc.2.2.2.1
                      have cH54 := hcc.2.2.2.2.1
                      have cH55 := hcc.2.2.2.2.2.1
                      have cH56 := hcc.2.2.2.2.2.2.1
                      have cH57 := hcc.2.2.2.2.2.2.2.1
                      have cH58 := hcc.2.2.2.2.2.2.2.2
                      clear hcc
                      refine step_of ⟨some 113, _, _, _, _, _⟩ rfl (fun K' hK => ?_)
                      rw [if_pos (by rfl)]
                      go_simp
                      refine hK.out _ _ ⟨_, hF.pure hok hla hpre rfl (Below.refl _ _), ?fr⟩
                      case fr => simp only [putO, layT_some, layT_none, layT_nil, List.setIfInBounds_toArray, List.set_cons_zero, List.set_cons_succ]
                    · replace hge : 17 ≤ i := hgt
                      clear hgt
                      rcases Nat.lt_or_ge i 18 with hlt | hgt
                      · replace hi := hlt
                        clear hlt
                        have he : i = 17 := Nat.le_antisymm (Nat.le_of_lt_succ hi) hge
                        subst he
                        have p14 := hpre 14 (by kernel_rfl)
                        have e14 : s14 = .func (.func 19) #[] #[] := hF.get 14 _ rfl (.inr p14)
                        subst e14
                        have p15 := hpre 15 (by kernel_rfl)
                        have e15 : s15 = .agg #[.int .i64 1, .string (numS I), .string (denS I), .string { data := #[] }, .bool false, .int .i64 0, .int .i64 0, .int .i64 0, .slice none 0 0] := hF.get 15 _ rfl (.inr p15)
                        subst e15
                        have p16 := hpre 16 (by kernel_rfl)
                        have e16 : s16 = .agg #[.int .i64 1, .string (numS A), .string (denS A), .string { data := #[] }, .bool false, .int .i64 0, .int .i64 0, .int .i64 0, .slice none 0 0] := hF.get 16 _ rfl (.inr p16)
                        subst e16
                        have p13 := hpre 13 (by kernel_rfl)
                        have e13 : s13 = .bool true := hF.get 13 _ rfl (.inr p13)
                        subst e13
                        refine step_of ⟨some 114, _, _, _, _, _⟩ rfl (fun K' hK => ?_)
                        rw [if_pos (by rfl)]
                        go_simp
                        go_at_call 19
                        (with_reducible refine (QleIA.out _ (HE.out.below (below_none hF.low))).mono ?_)
                        rintro e Wq ⟨rfl, hq⟩
                        refine hK.out _ _ ⟨_, hF.pure hok hla hpre rfl hq, ?fr⟩
                        case fr => simp only [putO, layT_some, layT_none, layT_nil, List.setIfInBounds_toArray, List.set_cons_zero, List.set_cons_succ]
                      · replace hge : 18 ≤ i := hgt
                        clear hgt
                        have he : i = 18 := Nat.le_antisymm (Nat.le_of_lt_succ hi) hge
                        subst he
                        have p13 := hpre 13 (by kernel_rfl)
                        have e13 : s13 = .bool true := hF.get 13 _ rfl (.inr p13)
                        subst e13
                        have p17 := hpre 17 (by kernel_rfl)
                        have e17 : s17 = .bool true := hF.get 17 _ rfl (.inr p17)
                        subst e17
                        refine step_of ⟨some 115, _, _, _, _, _⟩ rfl (fun K' hK => ?_)
                        go_simp
                        refine hK.out _ _ ⟨_, hF.pure hok hla hpre rfl (Below.refl _ _), ?fr⟩
                        case fr => simp only [putO, layT_some, layT_none, layT_nil, List.setIfInBounds_toArray, List.set_cons_zero, List.set_cons_succ]
                · replace hge : 19 ≤ i := hgt
                  clear hgt
                  rcases Nat.lt_or_ge i 22 with hlt | hgt
                  · replace hi := hlt
                    clear hlt
                    rcases Nat.lt_or_ge i 20 with hlt | hgt
                    · replace hi := hlt
                      clear hlt
                      have he : i = 19 := Nat.le_antisymm (Nat.le_of_lt_succ hi) hge
                      subst he
                      have p18 := hpre 18 (by kernel_rfl)
                      have e18 : s18 = .bool true := hF.get 18 _ rfl (.inr p18)
                      subst e18
                      refine step_of ⟨some 116, _, _, _, _, _⟩ rfl (fun K' hK => ?_)
                      go_simp
                      refine hK.out _ _ ⟨_, hF.pure hok hla hpre rfl (Below.refl _ _), ?fr⟩
                      case fr => simp only [putO, layT_some, layT_none, layT_nil, List.setIfInBounds_toArray, List.set_cons_zero, List.set_cons_succ]
                    · replace hge : 20 ≤ i := hgt
                      clear hgt
                      rcases Nat.lt_or_ge i 21 with hlt | hgt
                      · replace hi := hlt
                        clear hlt
                        have he : i = 20 := Nat.le_antisymm (Nat.le_of_lt_succ hi) hge
                        subst he
                        have p19 := hpre 19 (by kernel_rfl)
                        have e19 : s19 = .bool true := hF.get 19 _ rfl (.inr p19)
                        subst e19
                        refine step_of ⟨some 117, _, _, _, _, _⟩ rfl (fun K' hK => ?_)
                        rw [if_pos (by rfl)]
                        go_simp
                        refine hK.out _ _ ⟨_, hF.pure hok hla hpre rfl (Below.refl _ _), ?fr⟩
                        case fr => simp only [putO, layT_some, layT_none, layT_nil, List.setIfInBounds_toArray, List.set_cons_zero, List.set_cons_succ]
                      · replace hge : 21 ≤ i := hgt
                        clear hgt
                        have he : i = 21 := Nat.le_antisymm (Nat.le_of_lt_succ hi) hge
                        subst he
                        have p19 := hpre 19 (by kernel_rfl)
                        have e19 : s19 = .bool true := hF.get 19 _ rfl (.inr p19)
                        subst e19
                        refine step_of ⟨some 118, _, _, _, _, _⟩ rfl (fun K' hK => ?_)
                        rw [if_pos (by rfl)]
                        go_simp
                        refine hK.out _ _ ⟨_, hF.pure hok hla hpre rfl (Below.refl _ _), ?fr⟩
                        case fr => simp only [putO, layT_some, layT_none, layT_nil, List.setIfInBounds_toArray, List.set_cons_zero, List.set_cons_succ]
                  · replace hge : 22 ≤ i := hgt
                    clear hgt
                    rcases Nat.lt_or_ge i 24 with hlt | hgt
                    · replace hi := hlt
                      clear hlt
                      rcases Nat.lt_or_ge i 23 with hlt | hgt
                      · replace hi := hlt
                        clear hlt
                        have he : i = 22 := Nat.le_antisymm (Nat.le_of_lt_succ hi) hge
                        subst he
                        have p19 := hpre 19 (by kernel_rfl)
                        have e19 : s19 = .bool true := hF.get 19 _ rfl (.inr p19)
                        subst e19
                        have hcc := (nine_at (keep_block H13.out (below_none hF.low))).1
                        have cH130 := hcc.1
                        have cH131 := hcc.2.1
                        have cH132 := hcc.2.2.1
                        have cH133 := hcc.2.2.2.1
                        have cH134 := hcc.2.2.2.2.1
                        have cH135 := hcc.2.2.2.2.2.1
                        have cH136 := hcc.2.2.2.2.2.2.1
                        have cH137 := hcc.2.2.2.2.2.2.2.1
                        have cH138 := hcc.2.2.2.2.2.2.2.2
                        clear hcc
                        refine step_of ⟨some 119, _, _, _, _, _⟩ rfl (fun K' hK => ?_)
                        rw [if_pos (by rfl)]
                        go_simp
                        refine hK.out _ _ ⟨_, hF.pure hok hla hpre rfl (Below.refl _ _), ?fr⟩
                        case fr => simp only [putO, layT_some, layT_none, layT_nil, List.setIfInBounds_toArray, List.set_cons_zero, List.set_cons_succ]
                      · replace hge : 23 ≤ i := hgt
                        clear hgt
                        have he : i = 23 := Nat.le_antisymm (Nat.le_of_lt_succ hi) hge
                        subst he
                        have p21 := hpre 21 (by kernel_rfl)
                        have e21 : s21 = .func (.func 21) #[] #[] := hF.get 21 _ rfl (.inr p21)
                        subst e21
                        have p22 := hpre 22 (by kernel_rfl)
                        have e22 : s22 = .agg #[.int .i64 1, .string (numS T), .string (denS T), .string { data := #[] }, .bool false, .int .i64 0, .int .i64 0, .int .i64 0, .slice none 0 0] := hF.get 22 _ rfl (.inr p22)
                        subst e22
                        have p19 := hpre 19 (by kernel_rfl)
                        have e19 : s19 = .bool true := hF.get 19 _ rfl (.inr p19)
                        subst e19
                        refine step_of ⟨some 120, _, _, _, _, _⟩ rfl (fun K' hK => ?_)
                        rw [if_pos (by rfl)]
                        go_simp
                        go_at_call 21
                        (with_reducible refine (QabT.out _ (HE.out.below (below_none hF.low))).mono ?_)
                        rintro e Wq ⟨rfl, hq⟩
                        refine hK.out _ _ ⟨_, hF.pure hok hla hpre rfl hq, ?fr⟩
                        case fr => simp only [putO, layT_some, layT_none, layT_nil, List.setIfInBounds_toArray, List.set_cons_zero, List.set_cons_succ]
                    · replace hge : 24 ≤ i := hgt
                      clear hgt
                      rcases Nat.lt_or_ge i 25 with hlt | hgt
                      · replace hi := hlt
                        clear hlt
                        have he : i = 24 := Nat.le_antisymm (Nat.le_of_lt_succ hi) hge
                        subst he
                        have p19 := hpre 19 (by kernel_rfl)
                        have e19 : s19 = .bool true := hF.get 19 _ rfl (.inr p19)
                        subst e19
                        refine step_of ⟨some 121, _, _, _, _, _⟩ rfl (fun K' hK => ?_)
                        rw [if_pos (by rfl)]
                        go_simp
                        refine hK.out _ _ ⟨_, hF.pure hok hla hpre rfl (Below.refl _ _), ?fr⟩
                        case fr => simp only [putO, layT_some, layT_none, layT_nil, List.setIfInBounds_toArray, List.set_cons_zero, List.set_cons_succ]
                      · replace hge : 25 ≤ i := hgt
                        clear hgt
                        have he : i = 25 := Nat.le_antisymm (Nat.le_of_lt_succ hi) hge
                        subst he
                        have p19 := hpre 19 (by kernel_rfl)
                        have e19 : s19 = .bool true := hF.get 19 _ rfl (.inr p19)
                        subst e19
                        have hcc := (nine_at (keep_block H5.out (below_none hF.low))).1
                        have cH50 := hcc.1
                        have cH51 := hcc.2.1
                        have cH52 := hcc.2.2.1
                        have cH53 := hcc.2.2.2.1
                        have cH54 := hcc.2.2.2.2.1
                        have cH55 := hcc.2.2.2.2.2.1
                        have cH56 := hcc.2.2.2.2.2.2.1
                        have cH57 := hcc.2.2.2.2.2.2.2.1
                        have cH58 := hcc.2.2.2.2.2.2.2.2
                        clear hcc
                        refine step_of ⟨some 122, _, _, _, _, _⟩ rfl (fun K' hK => ?_)
                        rw [if_pos (by rfl)]
                        go_simp
                        refine hK.out _ _ ⟨_, hF.pure hok hla hpre rfl (Below.refl _ _), ?fr⟩
                        case fr => simp only [putO, layT_some, layT_none, layT_nil, List.setIfInBounds_toArray, List.set_cons_zero, List.set_cons_succ]
            · replace hge : 26 ≤ i := hgt
              clear hgt
              rcases Nat.lt_or_ge i 39 with hlt | hgt
              · replace hi := hlt
                clear hlt
                rcases Nat.lt_or_ge i 32 with hlt | hgt
                · replace hi := hlt
                  clear hlt
                  rcases Nat.lt_or_ge i 29 with hlt | hgt
                  · replace hi := hlt
                    clear hlt
                    rcases Nat.lt_or_ge i 27 with hlt | hgt
                    · replace hi := hlt
                      clear hlt
                      have he : i = 26 := Nat.le_antisymm (Nat.le_of_lt_succ hi) hge
                      subst he
                      have p24 := hpre 24 (by kernel_rfl)
                      have e24 : s24 = .func (.func 21) #[] #[] := hF.get 24 _ rfl (.inr p24)
                      subst e24
                      have p25 := hpre 25 (by kernel_rfl)
                      have e25 : s25 = .agg #[.int .i64 1, .string (numS A), .string (denS A), .string { data := #[] }, .bool false, .int .i64 0, .int .i64 0, .int .i64 0, .slice none 0 0] := hF.get 25 _ rfl (.inr p25)
                      subst e25
                      have p19 := hpre 19 (by kernel_rfl)
                      have e19 : s19 = .bool true := hF.get 19 _ rfl (.inr p19)
                      subst e19
                      refine step_of ⟨some 123, _, _, _, _, _⟩ rfl (fun K' hK => ?_)
                      rw [if_pos (by rfl)]
                      go_simp
                      go_at_call 21
                      (with_reducible refine (QabA.out _ (HE.out.below (below_none hF.low))).mono ?_)
                      rintro e Wq ⟨rfl, hq⟩
                      refine hK.out _ _ ⟨_, hF.pure hok hla hpre rfl hq, ?fr⟩
                      case fr => simp only [putO, layT_some, layT_none, layT_nil, List.setIfInBounds_toArray, List.set_cons_zero, List.set_cons_succ]
                    · replace hge : 27 ≤ i := hgt
                      clear hgt
                      rcases Nat.lt_or_ge i 28 with hlt | hgt
                      · replace hi := hlt
                        clear hlt
                        have he : i = 27 := Nat.le_antisymm (Nat.le_of_lt_succ hi) hge
                        subst he
                        have p20 := hpre 20 (by kernel_rfl)
                        have e20 : s20 = .func (.func 19) #[] #[] := hF.get 20 _ rfl (.inr p20)
                        subst e20
                        have p23 := hpre 23 (by kernel_rfl)
                        have e23 : s23 = .agg #[.int .i64 1, .string (numS aT), .string (denS aT), .string { data := #[] }, .bool false, .int .i64 0, .int .i64 0, .int .i64 0, .slice none 0 0] := hF.get 23 _ rfl (.inr p23)
                        subst e23
                        have p26 := hpre 26 (by kernel_rfl)
                        have e26 : s26 = .agg #[.int .i64 1, .string (numS aA), .string (denS aA), .string { data := #[] }, .bool false, .int .i64 0, .int .i64 0, .int .i64 0, .slice none 0 0] := hF.get 26 _ rfl (.inr p26)
                        subst e26
                        have p19 := hpre 19 (by kernel_rfl)
                        have e19 : s19 = .bool true := hF.get 19 _ rfl (.inr p19)
                        subst e19
                        refine step_of ⟨some 124, _, _, _, _, _⟩ rfl (fun K' hK => ?_)
                        rw [if_pos (by rfl)]
                        go_simp
                        go_at_call 19
                        (with_reducible refine (QleaTaA.out _ (HE.out.below (below_none hF.low))).mono ?_)
                        rintro e Wq ⟨rfl, hq⟩
                        refine hK.out _ _ ⟨_, hF.pure hok hla hpre rfl hq, ?fr⟩
                        case fr => simp only [putO, layT_some, layT_none, layT_nil, List.setIfInBounds_toArray, List.set_cons_zero, List.set_cons_succ]
                      · replace hge : 28 ≤ i := hgt
                        clear hgt
                        have he : i = 28 := Nat.le_antisymm (Nat.le_of_lt_succ hi) hge
                        subst he
                        have p19 := hpre 19 (by kernel_rfl)
                        have e19 : s19 = .bool true := hF.get 19 _ rfl (.inr p19)
                        subst e19
                        have p27 := hpre 27 (by kernel_rfl)
                        have e27 : s27 = .bool true := hF.get 27 _ rfl (.inr p27)
                        subst e27
                        refine step_of ⟨some 125, _, _, _, _, _⟩ rfl (fun K' hK => ?_)
                        go_simp
                        refine hK.out _ _ ⟨_, hF.pure hok hla hpre rfl (Below.refl _ _), ?fr⟩
                        case fr => simp only [putO, layT_some, layT_none, layT_nil, List.setIfInBounds_toArray, List.set_cons_zero, List.set_cons_succ]
                  · replace hge : 29 ≤ i := hgt
                    clear hgt
                    rcases Nat.lt_or_ge i 30 with hlt | hgt
                    · replace hi := hlt
                      clear hlt
                      have he : i = 29 := Nat.le_antisymm (Nat.le_of_lt_succ hi) hge
                      subst he
                      have p28 := hpre 28 (by kernel_rfl)
                      have e28 : s28 = .bool true := hF.get 28 _ rfl (.inr p28)
                      subst e28
                      refine step_of ⟨some 126, _, _, _, _, _⟩ rfl (fun K' hK => ?_)
                      go_simp
                      refine hK.out _ _ ⟨_, hF.pure hok hla hpre rfl (Below.refl _ _), ?fr⟩
                      case fr => simp only [putO, layT_some, layT_none, layT_nil, List.setIfInBounds_toArray, List.set_cons_zero, List.set_cons_succ]
                    · replace hge : 30 ≤ i := hgt
                      clear hgt
                      rcases Nat.lt_or_ge i 31 with hlt | hgt
                      · replace hi := hlt
                        clear hlt
                        have he : i = 30 := Nat.le_antisymm (Nat.le_of_lt_succ hi) hge
                        subst he
                        have p29 := hpre 29 (by kernel_rfl)
                        have e29 : s29 = .bool true := hF.get 29 _ rfl (.inr p29)
                        subst e29
                        have hcc := (nine_at (keep_block H7.out (below_none hF.low))).1
                        have cH70 := hcc.1
                        have cH71 := hcc.2.1
                        have cH72 := hcc.2.2.1
                        have cH73 := hcc.2.2.2.1
                        have cH74 := hcc.2.2.2.2.1
                        have cH75 := hcc.2.2.2.2.2.1
                        have cH76 := hcc.2.2.2.2.2.2.1
                        have cH77 := hcc.2.2.2.2.2.2.2.1
                        have cH78 := hcc.2.2.2.2.2.2.2.2
                        clear hcc
                        refine step_of ⟨some 127, _, _, _, _, _⟩ rfl (fun K' hK => ?_)
                        rw [if_pos (by rfl)]
                        go_simp
                        refine hK.out _ _ ⟨_, hF.pure hok hla hpre rfl (Below.refl _ _), ?fr⟩
                        case fr => simp only [putO, layT_some, layT_none, layT_nil, List.setIfInBounds_toArray, List.set_cons_zero, List.set_cons_succ]
                      · replace hge : 31 ≤ i := hgt
                        clear hgt
                        have he : i = 31 := Nat.le_antisymm (Nat.le_of_lt_succ hi) hge
                        subst he
                        have p29 := hpre 29 (by kernel_rfl)
                        have e29 : s29 = .bool true := hF.get 29 _ rfl (.inr p29)
                        subst e29
                        have hcc := (nine_at (keep_block H6.out (below_none hF.low))).1
                        have cH60 := hcc.1
                        have cH61 := hcc.2.1
                        have cH62 := hcc.2.2.1
                        have cH63 := hcc.2.2.2.1
                        have cH64 := hcc.2.2.2.2.1
                        have cH65 := hcc.2.2.2.2.2.1
                        have cH66 := hcc.2.2.2.2.2.2.1
                        have cH67 := hcc.2.2.2.2.2.2.2.1
                        have cH68 := hcc.2.2.2.2.2.2.2.2
                        clear hcc
                        refine step_of ⟨some 128, _, _, _, _, _⟩ rfl (fun K' hK => ?_)
                        rw [if_pos (by rfl)]
                        go_simp
                        refine hK.out _ _ ⟨_, hF.pure hok hla hpre rfl (Below.refl _ _), ?fr⟩
                        case fr => simp only [putO, layT_some, layT_none, layT_nil, List.setIfInBounds_toArray, List.set_cons_zero, List.set_cons_succ]
                · replace hge : 32 ≤ i := hgt
                  clear hgt
                  rcases Nat.lt_or_ge i 35 with hlt | hgt
                  · replace hi := hlt
                    clear hlt
                    rcases Nat.lt_or_ge i 33 with hlt | hgt
                    · replace hi := hlt
                      clear hlt
                      have he : i = 32 := Nat.le_antisymm (Nat.le_of_lt_succ hi) hge
                      subst he
                      have p30 := hpre 30 (by kernel_rfl)
                      have e30 : s30 = .agg #[.int .i64 1, .string (numS R), .string (denS R), .string { data := #[] }, .bool false, .int .i64 0, .int .i64 0, .int .i64 0, .slice none 0 0] := hF.get 30 _ rfl (.inr p30)
                      subst e30
                      have p31 := hpre 31 (by kernel_rfl)
                      have e31 : s31 = .agg #[.int .i64 1, .string (numS K), .string (denS K), .string { data := #[] }, .bool false, .int .i64 0, .int .i64 0, .int .i64 0, .slice none 0 0] := hF.get 31 _ rfl (.inr p31)
                      subst e31
                      have p29 := hpre 29 (by kernel_rfl)
                      have e29 : s29 = .bool true := hF.get 29 _ rfl (.inr p29)
                      subst e29
                      refine step_of ⟨some 129, _, _, _, _, _⟩ rfl (fun K' hK => ?_)
                      rw [if_pos (by rfl)]
                      go_simp
                      refine hK.out _ _ ⟨_, hF.row hok hla hpre rfl, ?fr⟩
                      case fr => simp only [putO, layT_some, layT_none, layT_nil, List.setIfInBounds_toArray, List.set_cons_zero, List.set_cons_succ]
                    · replace hge : 33 ≤ i := hgt
                      clear hgt
                      rcases Nat.lt_or_ge i 34 with hlt | hgt
                      · replace hi := hlt
                        clear hlt
                        have he : i = 33 := Nat.le_antisymm (Nat.le_of_lt_succ hi) hge
                        subst he
                        have p32 := hpre 32 (by kernel_rfl)
                        obtain ⟨G, eG, _, hGB⟩ : ∃ G, s32 = .slice (some ⟨G, 0, none⟩) 2 2 ∧ _ ≤ G ∧ Wr.heap[G]? = some (.cells #[.int .i64 1, .string (numS R), .string (denS R), .string { data := #[] }, .bool false, .int .i64 0, .int .i64 0, .int .i64 0, .slice none 0 0, .int .i64 1, .string (numS K), .string (denS K), .string { data := #[] }, .bool false, .int .i64 0, .int .i64 0, .int .i64 0, .slice none 0 0] 27 (0, 0)) := hF.get 32 _ rfl (.inr p32)
                        subst eG
                        have p29 := hpre 29 (by kernel_rfl)
                        have e29 : s29 = .bool true := hF.get 29 _ rfl (.inr p29)
                        subst e29
                        refine step_of ⟨some 130, _, _, _, _, _⟩ rfl (fun K' hK => ?_)
                        rw [if_pos (by rfl)]
                        go_simp
                        go_at_call 10
                        (with_reducible refine (Qrround2.out _ _ hGB (HE.out.below (below_none hF.low))).mono ?_)
                        rintro e Wq ⟨rfl, hq⟩
                        refine hK.out _ _ ⟨_, hF.pure hok hla hpre rfl hq, ?fr⟩
                        case fr => simp only [putO, layT_some, layT_none, layT_nil, List.setIfInBounds_toArray, List.set_cons_zero, List.set_cons_succ]
                      · replace hge : 34 ≤ i := hgt
                        clear hgt
                        have he : i = 34 := Nat.le_antisymm (Nat.le_of_lt_succ hi) hge
                        subst he
                        have p29 := hpre 29 (by kernel_rfl)
                        have e29 : s29 = .bool true := hF.get 29 _ rfl (.inr p29)
                        subst e29
                        have hcc := (nine_at (keep_block H7.out (below_none hF.low))).1
                        have cH70 := hcc.1
                        have cH71 := hcc.2.1
                        have cH72 := hcc.2.2.1
                        have cH73 := hcc.2.2.2.1
                        have cH74 := hcc.2.2.2.2.1
                        have cH75 := hcc.2.2.2.2.2.1
                        have cH76 := hcc.2.2.2.2.2.2.1
                        have cH77 := hcc.2.2.2.2.2.2.2.1
                        have cH78 := hcc.2.2.2.2.2.2.2.2
                        clear hcc
                        refine step_of ⟨some 131, _, _, _, _, _⟩ rfl (fun K' hK => ?_)
                        rw [if_pos (by rfl)]
                        go_simp
                        refine hK.out _ _ ⟨_, hF.pure hok hla hpre rfl (Below.refl _ _), ?fr⟩
                        case fr => simp only [putO, layT_some, layT_none, layT_nil, List.setIfInBounds_toArray, List.set_cons_zero, List.set_cons_succ]
                  · replace hge : 35 ≤ i := hgt
                    clear hgt
                    rcases Nat.lt_or_ge i 37 with hlt | hgt
                    · replace hi := hlt
                      clear hlt
                      rcases Nat.lt_or_ge i 36 with hlt | hgt
                      · replace hi := hlt
                        clear hlt
                        have he : i = 35 := Nat.le_antisymm (Nat.le_of_lt_succ hi) hge
                        subst he
                        have p33 := hpre 33 (by kernel_rfl)
                        have e33 : s33 = .agg #[.int .i64 1, .string (numS R), .string (denS R), .string { data := #[] }, .bool false, .int .i64 0, .int .i64 0, .int .i64 0, .slice none 0 0] := hF.get 33 _ rfl (.inr p33)
                        subst e33
                        have p34 := hpre 34 (by kernel_rfl)
                        have e34 : s34 = .agg #[.int .i64 1, .string (numS R), .string (denS R), .string { data := #[] }, .bool false, .int .i64 0, .int .i64 0, .int .i64 0, .slice none 0 0] := hF.get 34 _ rfl (.inr p34)
                        subst e34
                        have p29 := hpre 29 (by kernel_rfl)
                        have e29 : s29 = .bool true := hF.get 29 _ rfl (.inr p29)
                        subst e29
                        refine step_of ⟨some 132, _, _, _, _, _⟩ rfl (fun K' hK => ?_)
                        rw [if_pos (by rfl)]
                        go_simp
                        go_at_call 12
                        (with_reducible refine (RS.out R _).mono ?_)
                        rintro e Wq ⟨rfl, hq⟩
                        refine hK.out _ _ ⟨_, hF.pure hok hla hpre rfl hq, ?fr⟩
                        case fr => simp only [putO, layT_some, layT_none, layT_nil, List.setIfInBounds_toArray, List.set_cons_zero, List.set_cons_succ]
                      · replace hge : 36 ≤ i := hgt
                        clear hgt
                        have he : i = 36 := Nat.le_antisymm (Nat.le_of_lt_succ hi) hge
                        subst he
                        have p29 := hpre 29 (by kernel_rfl)
                        have e29 : s29 = .bool true := hF.get 29 _ rfl (.inr p29)
                        subst e29
                        have p35 := hpre 35 (by kernel_rfl)
                        have e35 : s35 = .bool true := hF.get 35 _ rfl (.inr p35)
                        subst e35
                        refine step_of ⟨some 133, _, _, _, _, _⟩ rfl (fun K' hK => ?_)
                        go_simp
                        refine hK.out _ _ ⟨_, hF.pure hok hla hpre rfl (Below.refl _ _), ?fr⟩
                        case fr => simp only [putO, layT_some, layT_none, layT_nil, List.setIfInBounds_toArray, List.set_cons_zero, List.set_cons_succ]
                    · replace hge : 37 ≤ i := hgt
                      clear hgt
                      rcases Nat.lt_or_ge i 38 with hlt | hgt
                      · replace hi := hlt
                        clear hlt
                        have he : i = 37 := Nat.le_antisymm (Nat.le_of_lt_succ hi) hge
                        subst he
                        have p36 := hpre 36 (by kernel_rfl)
                        have e36 : s36 = .bool true := hF.get 36 _ rfl (.inr p36)
                        subst e36
                        refine step_of ⟨some 134, _, _, _, _, _⟩ rfl (fun K' hK => ?_)
                        go_simp
                        refine hK.out _ _ ⟨_, hF.pure hok hla hpre rfl (Below.refl _ _), ?fr⟩
                        case fr => simp only [putO, layT_some, layT_none, layT_nil, List.setIfInBounds_toArray, List.set_cons_zero, List.set_cons_succ]
                      · replace hge : 38 ≤ i := hgt
                        clear hgt
                        have he : i = 38 := Nat.le_antisymm (Nat.le_of_lt_succ hi) hge
                        subst he
                        have p37 := hpre 37 (by kernel_rfl)
                        have e37 : s37 = .bool true := hF.get 37 _ rfl (.inr p37)
                        subst e37
                        have hcc := (nine_at (keep_block H5.out (below_none hF.low))).1
                        have cH50 := hcc.1
                        have cH51 := hcc.2.1
                        have cH52 := hcc.2.2.1
                        have cH53 := hcc.2.2.2.1
                        have cH54 := hcc.2.2.2.2.1
                        have cH55 := hcc.2.2.2.2.2.1
                        have cH56 := hcc.2.2.2.2.2.2.1
                        have cH57 := hcc.2.2.2.2.2.2.2.1
                        have cH58 := hcc.2.2.2.2.2.2.2.2
                        clear hcc
                        refine step_of ⟨some 135, _, _, _, _, _⟩ rfl (fun K' hK => ?_)
                        rw [if_pos (by rfl)]
                        go_simp
                        refine hK.out _ _ ⟨_, hF.pure hok hla hpre rfl (Below.refl _ _), ?fr⟩
                        case fr => simp only [putO, layT_some, layT_none, layT_nil, List.setIfInBounds_toArray, List.set_cons_zero, List.set_cons_succ]
              · replace hge : 39 ≤ i := hgt
                clear hgt
                rcases Nat.lt_or_ge i 45 with hlt | hgt
                · replace hi := hlt
                  clear hlt
                  rcases Nat.lt_or_ge i 42 with hlt | hgt
                  · replace hi := hlt
                    clear hlt
                    rcases Nat.lt_or_ge i 40 with hlt | hgt
                    · replace hi := hlt
                      clear hlt
                      have he : i = 39 := Nat.le_antisymm (Nat.le_of_lt_succ hi) hge
                      subst he
                      have p37 := hpre 37 (by kernel_rfl)
                      have e37 : s37 = .bool true := hF.get 37 _ rfl (.inr p37)
                      subst e37
                      refine step_of ⟨some 136, _, _, _, _, _⟩ rfl (fun K' hK => ?_)
                      rw [if_pos (by rfl)]
                      go_simp
                      go_at_call 11
                      (with_reducible refine (Qton.out _ (HE.out.below (below_none hF.low))).mono ?_)
                      rintro e Wq ⟨rfl, hq⟩
                      refine hK.out _ _ ⟨_, hF.pure hok hla hpre rfl hq, ?fr⟩
                      case fr => simp only [putO, layT_some, layT_none, layT_nil, List.setIfInBounds_toArray, List.set_cons_zero, List.set_cons_succ]
                    · replace hge : 40 ≤ i := hgt
                      clear hgt
                      rcases Nat.lt_or_ge i 41 with hlt | hgt
                      · replace hi := hlt
                        clear hlt
                        have he : i = 40 := Nat.le_antisymm (Nat.le_of_lt_succ hi) hge
                        subst he
                        have p38 := hpre 38 (by kernel_rfl)
                        have e38 : s38 = .agg #[.int .i64 1, .string (numS A), .string (denS A), .string { data := #[] }, .bool false, .int .i64 0, .int .i64 0, .int .i64 0, .slice none 0 0] := hF.get 38 _ rfl (.inr p38)
                        subst e38
                        have p39 := hpre 39 (by kernel_rfl)
                        have e39 : s39 = .agg #[.int .i64 1, .string (numS on), .string (denS on), .string { data := #[] }, .bool false, .int .i64 0, .int .i64 0, .int .i64 0, .slice none 0 0] := hF.get 39 _ rfl (.inr p39)
                        subst e39
                        have p37 := hpre 37 (by kernel_rfl)
                        have e37 : s37 = .bool true := hF.get 37 _ rfl (.inr p37)
                        subst e37
                        refine step_of ⟨some 137, _, _, _, _, _⟩ rfl (fun K' hK => ?_)
                        rw [if_pos (by rfl)]
                        go_simp
                        refine hK.out _ _ ⟨_, hF.row hok hla hpre rfl, ?fr⟩
                        case fr => simp only [putO, layT_some, layT_none, layT_nil, List.setIfInBounds_toArray, List.set_cons_zero, List.set_cons_succ]
                      · replace hge : 41 ≤ i := hgt
                        clear hgt
                        have he : i = 41 := Nat.le_antisymm (Nat.le_of_lt_succ hi) hge
                        subst he
                        have p40 := hpre 40 (by kernel_rfl)
                        obtain ⟨G, eG, _, hGB⟩ : ∃ G, s40 = .slice (some ⟨G, 0, none⟩) 2 2 ∧ _ ≤ G ∧ Wr.heap[G]? = some (.cells #[.int .i64 1, .string (numS A), .string (denS A), .string { data := #[] }, .bool false, .int .i64 0, .int .i64 0, .int .i64 0, .slice none 0 0, .int .i64 1, .string (numS on), .string (denS on), .string { data := #[] }, .bool false, .int .i64 0, .int .i64 0, .int .i64 0, .slice none 0 0] 27 (0, 0)) := hF.get 40 _ rfl (.inr p40)
                        subst eG
                        have p37 := hpre 37 (by kernel_rfl)
                        have e37 : s37 = .bool true := hF.get 37 _ rfl (.inr p37)
                        subst e37
                        refine step_of ⟨some 138, _, _, _, _, _⟩ rfl (fun K' hK => ?_)
                        rw [if_pos (by rfl)]
                        go_simp
                        go_at_call 10
                        (with_reducible refine (Qrmod.out _ _ hGB (HE.out.below (below_none hF.low))).mono ?_)
                        rintro e Wq ⟨rfl, hq⟩
                        refine hK.out _ _ ⟨_, hF.pure hok hla hpre rfl hq, ?fr⟩
                        case fr => simp only [putO, layT_some, layT_none, layT_nil, List.setIfInBounds_toArray, List.set_cons_zero, List.set_cons_succ]
                  · replace hge : 42 ≤ i := hgt
                    clear hgt
                    rcases Nat.lt_or_ge i 43 with hlt | hgt
                    · replace hi := hlt
                      clear hlt
                      have he : i = 42 := Nat.le_antisymm (Nat.le_of_lt_succ hi) hge
                      subst he
                      have p37 := hpre 37 (by kernel_rfl)
                      have e37 : s37 = .bool true := hF.get 37 _ rfl (.inr p37)
                      subst e37
                      have hcc := (nine_at (keep_block H5.out (below_none hF.low))).1
                      have cH50 := hcc.1
                      have cH51 := hcc.2.1
                      have cH52 := hcc.2.2.1
                      have cH53 := hcc.2.2.2.1
                      have cH54 := hcc.2.2.2.2.1
                      have cH55 := hcc.2.2.2.2.2.1
                      have cH56 := hcc.2.2.2.2.2.2.1
                      have cH57 := hcc.2.2.2.2.2.2.2.1
                      have cH58 := hcc.2.2.2.2.2.2.2.2
                      clear hcc
                      refine step_of ⟨some 139, _, _, _, _, _⟩ rfl (fun K' hK => ?_)
                      rw [if_pos (by rfl)]
                      go_simp
                      refine hK.out _ _ ⟨_, hF.pure hok hla hpre rfl (Below.refl _ _), ?fr⟩
                      case fr => simp only [putO, layT_some, layT_none, layT_nil, List.setIfInBounds_toArray, List.set_cons_zero, List.set_cons_succ]
                    · replace hge : 43 ≤ i := hgt
                      clear hgt
                      rcases Nat.lt_or_ge i 44 with hlt | hgt
                      · replace hi := hlt
                        clear hlt
                        have he : i = 43 := Nat.le_antisymm (Nat.le_of_lt_succ hi) hge
                        subst he
                        have p37 := hpre 37 (by kernel_rfl)
                        have e37 : s37 = .bool true := hF.get 37 _ rfl (.inr p37)
                        subst e37
                        have hcc := (nine_at (keep_block H12.out (below_none hF.low))).1
                        have cH120 := hcc.1
                        have cH121 := hcc.2.1
                        have cH122 := hcc.2.2.1
                        have cH123 := hcc.2.2.2.1
                        have cH124 := hcc.2.2.2.2.1
                        have cH125 := hcc.2.2.2.2.2.1
                        have cH126 := hcc.2.2.2.2.2.2.1
                        have cH127 := hcc.2.2.2.2.2.2.2.1
                        have cH128 := hcc.2.2.2.2.2.2.2.2
                        clear hcc
                        refine step_of ⟨some 140, _, _, _, _, _⟩ rfl (fun K' hK => ?_)
                        rw [if_pos (by rfl)]
                        go_simp
                        refine hK.out _ _ ⟨_, hF.pure hok hla hpre rfl (Below.refl _ _), ?fr⟩
                        case fr => simp only [putO, layT_some, layT_none, layT_nil, List.setIfInBounds_toArray, List.set_cons_zero, List.set_cons_succ]
                      · replace hge : 44 ≤ i := hgt
                        clear hgt
                        have he : i = 44 := Nat.le_antisymm (Nat.le_of_lt_succ hi) hge
                        subst he
                        have p37 := hpre 37 (by kernel_rfl)
                        have e37 : s37 = .bool true := hF.get 37 _ rfl (.inr p37)
                        subst e37
                        refine step_of ⟨some 141, _, _, _, _, _⟩ rfl (fun K' hK => ?_)
                        rw [if_pos (by rfl)]
                        go_simp
                        go_at_call 11
                        (with_reducible refine (Qtmo.out _ (HE.out.below (below_none hF.low))).mono ?_)
                        rintro e Wq ⟨rfl, hq⟩
                        refine hK.out _ _ ⟨_, hF.pure hok hla hpre rfl hq, ?fr⟩
                        case fr => simp only [putO, layT_some, layT_none, layT_nil, List.setIfInBounds_toArray, List.set_cons_zero, List.set_cons_succ]
                · replace hge : 45 ≤ i := hgt
                  clear hgt
                  rcases Nat.lt_or_ge i 48 with hlt | hgt
                  · replace hi := hlt
                    clear hlt
                    rcases Nat.lt_or_ge i 46 with hlt | hgt
                    · replace hi := hlt
                      clear hlt
                      have he : i = 45 := Nat.le_antisymm (Nat.le_of_lt_succ hi) hge
                      subst he
                      have p43 := hpre 43 (by kernel_rfl)
                      have e43 : s43 = .agg #[.int .i64 1, .string (numS I), .string (denS I), .string { data := #[] }, .bool false, .int .i64 0, .int .i64 0, .int .i64 0, .slice none 0 0] := hF.get 43 _ rfl (.inr p43)
                      subst e43
                      have p44 := hpre 44 (by kernel_rfl)
                      have e44 : s44 = .agg #[.int .i64 1, .string (numS mo), .string (denS mo), .string { data := #[] }, .bool false, .int .i64 0, .int .i64 0, .int .i64 0, .slice none 0 0] := hF.get 44 _ rfl (.inr p44)
                      subst e44
                      have p37 := hpre 37 (by kernel_rfl)
                      have e37 : s37 = .bool true := hF.get 37 _ rfl (.inr p37)
                      subst e37
                      refine step_of ⟨some 142, _, _, _, _, _⟩ rfl (fun K' hK => ?_)
                      rw [if_pos (by rfl)]
                      go_simp
                      refine hK.out _ _ ⟨_, hF.row hok hla hpre rfl, ?fr⟩
                      case fr => simp only [putO, layT_some, layT_none, layT_nil, List.setIfInBounds_toArray, List.set_cons_zero, List.set_cons_succ]
                    · replace hge : 46 ≤ i := hgt
                      clear hgt
                      rcases Nat.lt_or_ge i 47 with hlt | hgt
                      · replace hi := hlt
                        clear hlt
                        have he : i = 46 := Nat.le_antisymm (Nat.le_of_lt_succ hi) hge
                        subst he
                        have p45 := hpre 45 (by kernel_rfl)
                        obtain ⟨G, eG, _, hGB⟩ : ∃ G, s45 = .slice (some ⟨G, 0, none⟩) 2 2 ∧ _ ≤ G ∧ Wr.heap[G]? = some (.cells #[.int .i64 1, .string (numS I), .string (denS I), .string { data := #[] }, .bool false, .int .i64 0, .int .i64 0, .int .i64 0, .slice none 0 0, .int .i64 1, .string (numS mo), .string (denS mo), .string { data := #[] }, .bool false, .int .i64 0, .int .i64 0, .int .i64 0, .slice none 0 0] 27 (0, 0)) := hF.get 45 _ rfl (.inr p45)
                        subst eG
                        have p37 := hpre 37 (by kernel_rfl)
                        have e37 : s37 = .bool true := hF.get 37 _ rfl (.inr p37)
                        subst e37
                        refine step_of ⟨some 143, _, _, _, _, _⟩ rfl (fun K' hK => ?_)
                        rw [if_pos (by rfl)]
                        go_simp
                        go_at_call 10
                        (with_reducible refine (Qrproduct.out _ _ hGB (HE.out.below (below_none hF.low))).mono ?_)
                        rintro e Wq ⟨rfl, hq⟩
                        refine hK.out _ _ ⟨_, hF.pure hok hla hpre rfl hq, ?fr⟩
                        case fr => simp only [putO, layT_some, layT_none, layT_nil, List.setIfInBounds_toArray, List.set_cons_zero, List.set_cons_succ]
                      · replace hge : 47 ≤ i := hgt
                        clear hgt
                        have he : i = 47 := Nat.le_antisymm (Nat.le_of_lt_succ hi) hge
                        subst he
                        have p42 := hpre 42 (by kernel_rfl)
                        have e42 : s42 = .agg #[.int .i64 1, .string (numS A), .string (denS A), .string { data := #[] }, .bool false, .int .i64 0, .int .i64 0, .int .i64 0, .slice none 0 0] := hF.get 42 _ rfl (.inr p42)
                        subst e42
                        have p46 := hpre 46 (by kernel_rfl)
                        have e46 : s46 = .agg #[.int .i64 1, .string (numS P), .string (denS P), .string { data := #[] }, .bool false, .int .i64 0, .int .i64 0, .int .i64 0, .slice none 0 0] := hF.get 46 _ rfl (.inr p46)
                        subst e46
                        have p37 := hpre 37 (by kernel_rfl)
                        have e37 : s37 = .bool true := hF.get 37 _ rfl (.inr p37)
                        subst e37
                        refine step_of ⟨some 144, _, _, _, _, _⟩ rfl (fun K' hK => ?_)
                        rw [if_pos (by rfl)]
                        go_simp
                        refine hK.out _ _ ⟨_, hF.row hok hla hpre rfl, ?fr⟩
                        case fr => simp only [putO, layT_some, layT_none, layT_nil, List.setIfInBounds_toArray, List.set_cons_zero, List.set_cons_succ]
                  · replace hge : 48 ≤ i := hgt
                    clear hgt
                    rcases Nat.lt_or_ge i 50 with hlt | hgt
                    · replace hi := hlt
                      clear hlt
                      rcases Nat.lt_or_ge i 49 with hlt | hgt
                      · replace hi := hlt
                        clear hlt
                        have he : i = 48 := Nat.le_antisymm (Nat.le_of_lt_succ hi) hge
                        subst he
                        have p47 := hpre 47 (by kernel_rfl)
                        obtain ⟨G, eG, _, hGB⟩ : ∃ G, s47 = .slice (some ⟨G, 0, none⟩) 2 2 ∧ _ ≤ G ∧ Wr.heap[G]? = some (.cells #[.int .i64 1, .string (numS A), .string (denS A), .string { data := #[] }, .bool false, .int .i64 0, .int .i64 0, .int .i64 0, .slice none 0 0, .int .i64 1, .string (numS P), .string (denS P), .string { data := #[] }, .bool false, .int .i64 0, .int .i64 0, .int .i64 0, .slice none 0 0] 27 (0, 0)) := hF.get 47 _ rfl (.inr p47)
                        subst eG
                        have p37 := hpre 37 (by kernel_rfl)
                        have e37 : s37 = .bool true := hF.get 37 _ rfl (.inr p37)
                        subst e37
                        refine step_of ⟨some 145, _, _, _, _, _⟩ rfl (fun K' hK => ?_)
                        rw [if_pos (by rfl)]
                        go_simp
                        go_at_call 10
                        (with_reducible refine (Qrsum.out _ _ hGB (HE.out.below (below_none hF.low))).mono ?_)
                        rintro e Wq ⟨rfl, hq⟩
                        refine hK.out _ _ ⟨_, hF.pure hok hla hpre rfl hq, ?fr⟩
                        case fr => simp only [putO, layT_some, layT_none, layT_nil, List.setIfInBounds_toArray, List.set_cons_zero, List.set_cons_succ]
                      · replace hge : 49 ≤ i := hgt
                        clear hgt
                        have he : i = 49 := Nat.le_antisymm (Nat.le_of_lt_succ hi) hge
                        subst he
                        have p41 := hpre 41 (by kernel_rfl)
                        have e41 : s41 = .agg #[.int .i64 1, .string (numS M), .string (denS M), .string { data := #[] }, .bool false, .int .i64 0, .int .i64 0, .int .i64 0, .slice none 0 0] := hF.get 41 _ rfl (.inr p41)
                        subst e41
                        have p48 := hpre 48 (by kernel_rfl)
                        have e48 : s48 = .agg #[.int .i64 1, .string (numS M), .string (denS M), .string { data := #[] }, .bool false, .int .i64 0, .int .i64 0, .int .i64 0, .slice none 0 0] := hF.get 48 _ rfl (.inr p48)
                        subst e48
                        have p37 := hpre 37 (by kernel_rfl)
                        have e37 : s37 = .bool true := hF.get 37 _ rfl (.inr p37)
                        subst e37
                        refine step_of ⟨some 146, _, _, _, _, _⟩ rfl (fun K' hK => ?_)
                        rw [if_pos (by rfl)]
                        go_simp
                        go_at_call 12
                        (with_reducible refine (RS.out M _).mono ?_)
                        rintro e Wq ⟨rfl, hq⟩
                        refine hK.out _ _ ⟨_, hF.pure hok hla hpre rfl hq, ?fr⟩
                        case fr => simp only [putO, layT_some, layT_none, layT_nil, List.setIfInBounds_toArray, List.set_cons_zero, List.set_cons_succ]
                    · replace hge : 50 ≤ i := hgt
                      clear hgt
                      rcases Nat.lt_or_ge i 51 with hlt | hgt
                      · replace hi := hlt
                        clear hlt
                        have he : i = 50 := Nat.le_antisymm (Nat.le_of_lt_succ hi) hge
                        subst he
                        have p37 := hpre 37 (by kernel_rfl)
                        have e37 : s37 = .bool true := hF.get 37 _ rfl (.inr p37)
                        subst e37
                        have p49 := hpre 49 (by kernel_rfl)
                        have e49 : s49 = .bool true := hF.get 49 _ rfl (.inr p49)
                        subst e49
                        refine step_of ⟨some 147, _, _, _, _, _⟩ rfl (fun K' hK => ?_)
                        go_simp
                        refine hK.out _ _ ⟨_, hF.pure hok hla hpre rfl (Below.refl _ _), ?fr⟩
                        case fr => simp only [putO, layT_some, layT_none, layT_nil, List.setIfInBounds_toArray, List.set_cons_zero, List.set_cons_succ]
                      · replace hge : 51 ≤ i := hgt
                        clear hgt
                        have he : i = 51 := Nat.le_antisymm (Nat.le_of_lt_succ hi) hge
                        subst he
                        have p50 := hpre 50 (by kernel_rfl)
                        have e50 : s50 = .bool true := hF.get 50 _ rfl (.inr p50)
                        subst e50
                        refine step_of ⟨some 4, _, _, _, _, _⟩ rfl (fun K' hK => ?_)
                        go_simp
                        refine hK.out _ _ ⟨_, hF.pure hok hla hpre rfl (Below.refl _ _), ?fr⟩
                        case fr => simp only [putO, layT_some, layT_none, layT_nil, List.setIfInBounds_toArray, List.set_cons_zero, List.set_cons_succ]
          case hd =>
            rintro listed vs WF hF hall
            obtain ⟨s0, s1, s2, s3, s4, s5, s6, s7, s8, s9, s10, s11, s12, s13, s14, s15, s16, s17, s18, s19, s20, s21, s22, s23, s24, s25, s26, s27, s28, s29, s30, s31, s32, s33, s34, s35, s36, s37, s38, s39, s40, s41, s42, s43, s44, s45, s46, s47, s48, s49, s50, s51, hvs⟩ := exl_of 52 vs (fun l => vs = l) hF.len rfl
            subst hvs
            have e51 : s51 = .bool true := hF.get 51 _ rfl (.inr (hall 51 (by decide)))
            subst e51
            have hq := below_none hF.low
            replace HE := Lib.hid (HE.out.below hq)
            replace HL := Lib.hid (HL.out.trans (hq.mono HL.out.size))
            replace H5 := Lib.hid (keep_block H5.out hq)
            replace H6 := Lib.hid (keep_block H6.out hq)
            replace H7 := Lib.hid (keep_block H7.out hq)
            replace H8 := Lib.hid (keep_block H8.out hq)
            replace H9 := Lib.hid (keep_block H9.out hq)
            replace H10 := Lib.hid (keep_block H10.out hq)
            replace H11 := Lib.hid (keep_block H11.out hq)
            replace H12 := Lib.hid (keep_block H12.out hq)
            replace H13 := Lib.hid (keep_block H13.out hq)
            clear hq
            clear hF hall hok hna hla
            simp only [putO, layT_some, layT_none, layT_nil, List.setIfInBounds_toArray, List.set_cons_zero, List.set_cons_succ]
            go_wp2
            go_ret
            exact ⟨rfl, HL.out⟩
end Go.Proofs.YtcgglmoeneiokaaGreatDoor.Num
