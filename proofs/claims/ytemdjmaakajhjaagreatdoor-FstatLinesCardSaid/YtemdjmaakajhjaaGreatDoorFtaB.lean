/- Numbers as texts of digits, fractions, values and the functions of fmath: contracts of the program's functions, joined from smaller texts. Conditions stand at each theorem. -/
import Derived.Test.YtemdjmaakajhjaaGreatDoorFtaA
import Derived.Test.YtemdjmaakajhjaaGreatDoorNumH

/- package fstat: functions of a row of fractions. Conditions: what the small functions give. -/
namespace Go.Proofs.YtemdjmaakajhjaaGreatDoor.Num.Ft
open Go.RowKit Go.Lib Num

/-- what a function of a row of fractions gives -/
def RowF (f : FuncId) (qs : List Rat) (v : Value) : Prop := ∀ (W : World) (g C : Nat), FracsAt W g qs → EnvY W → Calls Tryz.prog f #[.slice (some ⟨g, 0, none⟩) qs.length C] W fun e w' => e = .returned v ∧ Below W.heap.size W w'
attribute [local irreducible] wpOp
set_option linter.unusedSimpArgs false in
set_option linter.unusedVariables false in
set_option maxHeartbeats 4000000 in
set_option maxRecDepth 100000 in
theorem mean_walk (s n m : Rat) (qs : List Rat) (g C : Nat) (W : World) (hs : RowF 52 qs (.agg #[.string (numS s), .string (denS s)]))
    (c0 : Fun1 29 (.int .i64 ((qs.length : Int))) (.agg #[.string (numS n), .string (denS n)]))
    (c1 : Fun2 51 (.agg #[.string (numS s), .string (denS s)]) (.agg #[.string (numS n), .string (denS n)]) (.agg #[.string (numS m), .string (denS m)]))
    (h9 : qs.length ≤ 1000000) (hfa : FracsAt W g qs) (hE : EnvY W) :
    Calls Tryz.prog 163 #[.slice (some ⟨g, 0, none⟩) qs.length C] W fun e w' => e = .returned (.agg #[.string (numS m), .string (denS m)]) ∧ Below W.heap.size W w' := by
  have HFA := Lib.hid hfa
  have Qhs := Lib.hid hs
  unfold RowF at Qhs
  have Qc0 := Lib.hid c0
  unfold Fun1 at Qc0
  have Qc1 := Lib.hid c1
  unfold Fun2 at Qc1
  obtain ⟨L, hLL⟩ : ∃ L, qs.length = L := ⟨_, rfl⟩
  have HLL := Lib.hid hLL
  rw [hLL]
  rw [hLL] at Qhs Qc0 h9
  have HE0 := Lib.hid hE
  have HG := Lib.hid (show Below W.heap.size W (W.alloc (.cells #[.string { data := #[] }, .string { data := #[] }] 24)) from ((Below.refl _ _).alloc (Nat.le_refl _) _))
  have H2 : Hid ((W.alloc (.cells #[.string { data := #[] }, .string { data := #[] }] 24)).heap[W.heap.size]? = some (.cells #[.string { data := #[] }, .string { data := #[] }] 24 (0, 0))) := Lib.hid (by
    have h := heap_alloc_new W (.cells #[.string { data := #[] }, .string { data := #[] }] 24)
    exact h)
  obtain ⟨W0, hW0⟩ : ∃ Z, (W.alloc (.cells #[.string { data := #[] }, .string { data := #[] }] 24)) = Z := ⟨_, rfl⟩
  rw [hW0] at HG H2
  have EW0 := Lib.hid hW0
  have HE := Lib.hid (HE0.out.below HG.out)
  clear hW0 hE  hfa hLL hs c0 c1
  go_enter Tryz.func163, Tryz.ntmps163
  go_wp2_with fail
  rw [EW0.out]
  refine (Qhs.out _ _ _ (HFA.out.below HG.out) HE.out).mono ?_
  rintro e w1 ⟨rfl, hb⟩
  replace H2 := Lib.hid (keep_block H2.out hb)
  replace HE := Lib.hid (HE.out.below hb)
  replace HG := Lib.hid (HG.out.trans (hb.mono HG.out.size))
  clear hb
  go_wp2_with fail
  refine (Qc0.out _ HE.out).mono ?_
  rintro e w2 ⟨rfl, hb⟩
  replace H2 := Lib.hid (keep_block H2.out hb)
  replace HE := Lib.hid (HE.out.below hb)
  replace HG := Lib.hid (HG.out.trans (hb.mono HG.out.size))
  clear hb
  go_wp2_with fail
  refine (Qc1.out _ HE.out).mono ?_
  rintro e w3 ⟨rfl, hb⟩
  replace H2 := Lib.hid (keep_block H2.out hb)
  replace HE := Lib.hid (HE.out.below hb)
  replace HG := Lib.hid (HG.out.trans (hb.mono HG.out.size))
  clear hb
  obtain ⟨⟨x2_0, x2_1⟩, x2_f0, x2_f1⟩ := two_at H2.out
  have n2 := set2_at H2.out (.string (numS m)) (.string (denS m))
  have hgl : Below W.heap.size W ((w3.setCell ⟨W.heap.size, 0, none⟩ (.string (numS m))).setCell ⟨W.heap.size, 1, none⟩ (.string (denS m))) := HG.out.trans (put2_below (show W.heap.size ≤ W.heap.size from (by omega)) w3 (.string (numS m)) (.string (denS m)))
  clear HG
  have HG := Lib.hid hgl
  clear hgl
  obtain ⟨⟨r2_0, r2_1⟩, _⟩ := two_at n2
  go_wp2
  refine bodyPost_ret (v := .agg #[.string (numS m), .string (denS m)]) (by simp [results, Tryz.results163, go_sem, r2_0, r2_1]) rfl ⟨rfl, HG.out⟩

end Go.Proofs.YtemdjmaakajhjaaGreatDoor.Num.Ft

/- package fstat: compare, sign, stop, some. Conditions: what the small functions give. -/
namespace Go.Proofs.YtemdjmaakajhjaaGreatDoor.Num.Ft
open Go.RowKit Go.Lib Num
attribute [local irreducible] wpOp
/-- stop where nothing is wrong -/
theorem stop_no (c : Int) (w : World) : Calls Tryz.prog 150 #[.bool false, .int .i64 c] w fun e w' => e = .returned (.tuple #[]) ∧ w' = w := by
  go_enter Tryz.func150, Tryz.ntmps150
  go_wp2
  go_end0
  exact ⟨rfl, rfl⟩
end Go.Proofs.YtemdjmaakajhjaaGreatDoor.Num.Ft

/- package fstat's table of functions: how it lies as a map. No conditions. -/
namespace Go.Proofs.YtemdjmaakajhjaaGreatDoor.Num.Ft
open Go.RowKit Go.Lib Go.MapKept Num

attribute [local go_sem] run_store_func
/-- FREQUENCY's function stands bare -/
def isRaw (f : FuncId) : Bool := f == 76
/-- a function value that wraps the row's function, or is it -/
def RowFn (w : World) (v : Value) (r : Row) : Prop :=
  if isRaw r.fn = true then v = .func (.func r.fn) #[] #[]
  else if r.num then ∃ e f, v = .func (.func 133) #[] #[.pointer (some ⟨e, 0, none⟩)] ∧ w.cell? ⟨e, 0, none⟩ = some (.func (.func 142) #[] #[.pointer (some ⟨f, 0, none⟩)]) ∧ w.cell? ⟨f, 0, none⟩ = some (.func (.func r.fn) #[] #[])
  else ∃ e, v = .func (.func 133) #[] #[.pointer (some ⟨e, 0, none⟩)] ∧ w.cell? ⟨e, 0, none⟩ = some (.func (.func r.fn) #[] #[])
/-- an entry of the table as it lies in the map -/
def EntryAt (w : World) (x : MapEntry) (r : Row) : Prop := x.key = .string r.name ∧ ∃ v, x.val = .agg #[.int .i64 r.least, .int .i64 r.most, .string r.kinds, v] ∧ RowFn w v r
/-- block b is a map with just these rows -/
def TableAt (w : World) (b : Nat) (l : List Row) : Prop :=
  ∃ es clock, w.heap[b]? = some (.map es clock) ∧ es.size = l.length ∧ ∀ i (h : i < l.length) (h' : i < es.size), EntryAt w es[i] l[i]

theorem RowFn.mono {w w' : World} {v : Value} {r : Row} (h : RowFn w v r) (hc : ∀ (p : Addr) (x : Value), w.cell? p = some x → w'.cell? p = some x) : RowFn w' v r := by
  unfold RowFn at h ⊢
  split
  · rename_i hr
    rw [if_pos hr] at h
    exact h
  · rename_i hr
    rw [if_neg hr] at h
    split
    · rename_i hn
      rw [if_pos hn] at h
      obtain ⟨e, f, h1, h2, h3⟩ := h
      exact ⟨e, f, h1, hc _ _ h2, hc _ _ h3⟩
    · rename_i hn
      rw [if_neg hn] at h
      obtain ⟨e, h1, h2⟩ := h
      exact ⟨e, h1, hc _ _ h2⟩
theorem EntryAt.mono {w w' : World} {x : MapEntry} {r : Row} (h : EntryAt w x r) (hc : ∀ (p : Addr) (x : Value), w.cell? p = some x → w'.cell? p = some x) : EntryAt w' x r :=
  let ⟨hk, v, hv, hr⟩ := h; ⟨hk, v, hv, hr.mono hc⟩
theorem TableAt.below {w w' : World} {b : Nat} {l : List Row} (h : TableAt w b l) (hb : Below w.heap.size w w') : TableAt w' b l := by
  obtain ⟨es, clock, hm, hs, he⟩ := h
  exact ⟨es, clock, keep_block hm hb, hs, fun i hi hi' => (he i hi hi').mono fun p x hp => cell_below hp hb⟩
theorem TableAt.made (w : World) : TableAt (w.alloc (.map #[] 0)) w.heap.size [] := ⟨#[], 0, heap_alloc_new w _, rfl, fun _ hi => absurd hi (Nat.not_lt_zero _)⟩
theorem TableAt.store {w : World} {b mt kt et : Nat} {l : List Row} (h : TableAt w b l) (r : Row) (v : Value) (hr : RowFn w v r) (hf : Fresh r.name l) (hm : Tryz.prog.underlying mt = some (.map kt et)) (hk : Tryz.prog.underlying kt = some .string) :
    ∃ w', (Instr.mapUpdate mt (.map (some b)) (.string r.name) (.agg #[.int .i64 r.least, .int .i64 r.most, .string r.kinds, v])).run Tryz.prog w = .ok () w' ∧ TableAt w' b (l ++ [r]) ∧ w.grownBy w' (some b) := by
  obtain ⟨es, clock, hb, hs, he⟩ := h
  have hall : ∀ x ∈ es.toList, ∃ t, x.key = .string t ∧ (r.name == t) = false := by
    intro x hx
    obtain ⟨i, hi, rfl⟩ := List.getElem_of_mem hx
    have hi' : i < es.size := by simpa using hi
    have hil : i < l.length := by omega
    have := (he i hil hi').1
    exact ⟨l[i].name, by simpa using this, hf l[i] (List.getElem_mem hil)⟩
  have hfind := findNow_fresh r.name es.toList 0 hall
  have hc : (Instr.checkKey false 10000 kt (.string r.name)).run Tryz.prog w = .ok () w := MapKept.run_checkKey (k := .string r.name) hk (by simp [IsKey]) false 9999
  refine ⟨putMap w b (.map (es.push { key := .string r.name, val := .agg #[.int .i64 r.least, .int .i64 r.most, .string r.kinds, v], born := clock }) (clock + 1)), ?_, ?_, putMap_grown hb⟩
  · simp [Instr.mapUpdate, run_underlying hm, MapKept.run_getObj_map hb, hc, MapKept.run_findKey hk hfind, MapKept.run_setObj_map _ hb, Result.andThen, putMap]
  · refine ⟨_, _, (heap_set hb).1, by simp [hs], fun i hi hi' => ?_⟩
    by_cases hlt : i < es.size
    · have hil : i < l.length := by omega
      rw [Array.getElem_push_lt hlt, List.getElem_append_left hil]
      exact (he i hil hlt).mono (putMap_cell hb)
    · have : i = es.size := by simp at hi'; omega
      subst this
      rw [Array.getElem_push_eq]
      have hl : (l ++ [r])[es.size] = r := by simp [hs]
      rw [hl]
      exact ⟨rfl, v, rfl, hr.mono (putMap_cell hb)⟩
/-- the row at a name -/
theorem TableAt.look {w : World} {b mt kt et : Nat} {l : List Row} (h : TableAt w b l) (i : Nat) (hi : i < l.length) (hf : ∀ j (hj : j < i), (l[i].name == (l[j]'(by omega)).name) = false) (hm : Tryz.prog.underlying mt = some (.map kt et)) (hk : Tryz.prog.underlying kt = some .string) :
    ∃ v, RowFn w v l[i] ∧ (Instr.lookup mt (.map (some b)) (.string l[i].name) true).run Tryz.prog w = .ok (.tuple #[.agg #[.int .i64 l[i].least, .int .i64 l[i].most, .string l[i].kinds, v], .bool true]) w := by
  obtain ⟨es, clock, hb, hs, he⟩ := h
  have hi' : i < es.size := by omega
  obtain ⟨hkey, v, hv, hr⟩ := he i hi hi'
  refine ⟨v, hr, ?_⟩
  have hat : es.toList[i]? = some es[i] := by simp [hi']
  have hfind := findNow_at l[i].name es.toList i 0 es[i] hat hkey (fun j y hj hy => by
    have hjl : j < l.length := by omega
    have hje : j < es.size := by omega
    have hy' : es[j] = y := by simpa [hje] using hy
    exact ⟨l[j].name, by rw [← hy']; exact (he j hjl hje).1, hf j hj⟩)
  rw [Nat.zero_add, hv] at hfind
  have hc : (Instr.checkKey es.isEmpty 10000 kt (.string l[i].name)).run Tryz.prog w = .ok () w := MapKept.run_checkKey (k := .string l[i].name) hk (by simp [IsKey]) _ 9999
  simp [Instr.lookup, run_underlying hm, MapKept.run_getObj_map hb, hc, MapKept.run_findKey hk hfind, Result.andThen]

section
variable {ops : Array Oper} {rest : List Oper} {o : Oper} {a : Act} {Q : Exit → Act → World → Prop}
theorem wpList_insert_row (w : World) (hg : o.guard = none) (m x u : Operand) (t : TypeId) (hop : o.op = Op.insert t m x u ∨ o.op = Op.mapUpdate t m x u) {b kt et : Nat} {l : List Row} (hm : a.eval m = .map (some b)) (h : TableAt w b l) (r : Row) (v : Value) (hx : a.eval x = .string r.name) (hv : a.eval u = .agg #[.int .i64 r.least, .int .i64 r.most, .string r.kinds, v]) (hr : RowFn w v r) (hf : Fresh r.name l) (ht : Tryz.prog.underlying t = some (.map kt et)) (hk : Tryz.prog.underlying kt = some .string)
    (hK : ∀ w', TableAt w' b (l ++ [r]) → w.grownBy w' (some b) → wpList Tryz.prog ops Q rest (a.put o.dst undef) w') :
    wpList Tryz.prog ops Q (o :: rest) a w := by
  refine wpList_plain hg fun K' hK' => ?_
  obtain ⟨w', hrun, r1, r2⟩ := h.store r v hr hf ht hk
  unfold Oper.wp
  rcases hop with hop | hop
  · simp [execOp, hop, hm, hx, hv, hrun, Result.andThen]
    exact hK' _ _ (hK w' r1 r2)
  · simp [execOp, hop, hm, hx, hv, hrun, Result.andThen]
    exact hK' _ _ (hK w' r1 r2)
end

end Go.Proofs.YtemdjmaakajhjaaGreatDoor.Num.Ft

/- package value: the closure that Run hands to Lift, at fstat. Conditions: the tables lie as they are laid. -/
namespace Go.Proofs.YtemdjmaakajhjaaGreatDoor.Num.Ft
open Go.RowKit Go.Lib Go.MapKept Num

set_option maxHeartbeats 4000000 in
set_option maxRecDepth 100000 in
theorem run1_value (pb _f e : Nat) (sl : Value) (k : Int) (n d t : ByteArray) (on : Bool) (c : Int) (A : Option Addr) (L C : Nat) (w : World) (hs : ∃ a l c, sl = .slice a l c) (hc : w.cell? ⟨pb, 3, none⟩ = some (.func (.func 133) #[] #[.pointer (some ⟨e, 0, none⟩)])) (hE : Env w)
    (hF : ∀ W, Below w.heap.size w W → Calls Tryz.prog 133 #[sl, .pointer (some ⟨e, 0, none⟩)] W fun e w' => e = .returned (.agg #[.int .i64 k, .string n, .string d, .string t, .bool on, .int .i64 c, .int .i64 0, .int .i64 0, .slice A L C]) ∧ Below W.heap.size W w') :
    Calls Tryz.prog 41 #[sl, .pointer (some ⟨pb, 0, none⟩)] w fun e w' => e = .returned (.agg #[.int .i64 k, .string n, .string d, .string t, .bool on, .int .i64 c, .int .i64 0, .int .i64 0, .slice A L C]) ∧ Below w.heap.size w w' := by
  obtain ⟨sa, slen, sc, rfl⟩ := hs
  have hmf : ∀ (fn : Fn) (first cap : Array Value) (w : World), (Instr.makeFunc fn first cap).run Tryz.prog w = .ok (.func fn first cap) w := fun _ _ _ _ => rfl
  have hb : Below w.heap.size w (w.alloc (.cells #[.int .i64 0, .string { data := #[] }, .string { data := #[] }, .string { data := #[] }, .bool false, .int .i64 0, .int .i64 0, .int .i64 0, .slice none 0 0] 27)) := (Below.refl _ _).alloc (Nat.le_refl _) _
  have HR := Lib.hid (heap_alloc_new w (.cells #[.int .i64 0, .string { data := #[] }, .string { data := #[] }, .string { data := #[] }, .bool false, .int .i64 0, .int .i64 0, .int .i64 0, .slice none 0 0] 27))
  have HX := Lib.hid (cell_below hc hb)
  have HL := Lib.hid hb
  have HE := Lib.hid (hE.below hb)
  have TF := Lib.hid (hF _ hb)
  clear hb hc hE hF
  obtain x3 := HX.out
  go_enter_defers Tryz.func41, Tryz.ntmps41
  go_wp2_with fail
  refine TF.out.mono ?_
  rintro e w1 ⟨rfl, hb⟩
  replace HR := Lib.hid (keep_block HR.out hb)
  replace HE := Lib.hid (HE.out.below hb)
  replace HL := Lib.hid (HL.out.trans (hb.mono HL.out.size))
  clear hb
  obtain ⟨⟨r0, r1, r2, r3, r4, r5, r6, r7, r8⟩, g0, g1, g2, g3, g4, g5, g6, g7, g8⟩ := nine_at HR.out
  have HR2 := Lib.hid (set9_at HR.out (.int .i64 k) (.string n) (.string d) (.string t) (.bool on) (.int .i64 c) (.int .i64 0) (.int .i64 0) (.slice A L C))
  have HL2 := Lib.hid (nine_end (x0 := (.int .i64 k)) (x1 := (.string n)) (x2 := (.string d)) (x3 := (.string t)) (x4 := (.bool on)) (x5 := (.int .i64 c)) (x6 := (.int .i64 0)) (x7 := (.int .i64 0)) (x8 := (.slice A L C)) HR.out HL.out (Nat.le_refl _)).1
  go_wp2_with fail
  obtain ⟨W2, hW2⟩ : ∃ W2, (((((((((w1.setCell ⟨w.heap.size, 0, none⟩ (.int .i64 k)).setCell ⟨w.heap.size, 1, none⟩ (.string n)).setCell ⟨w.heap.size, 2, none⟩ (.string d)).setCell ⟨w.heap.size, 3, none⟩ (.string t)).setCell ⟨w.heap.size, 4, none⟩ (.bool on)).setCell ⟨w.heap.size, 5, none⟩ (.int .i64 c)).setCell ⟨w.heap.size, 6, none⟩ (.int .i64 0)).setCell ⟨w.heap.size, 7, none⟩ (.int .i64 0)).setCell ⟨w.heap.size, 8, none⟩ (.slice A L C)) = W2 := ⟨_, rfl⟩
  rw [hW2] at HR2 HL2 ⊢
  clear hW2 r0 r1 r2 r3 r4 r5 r6 r7 r8 g0 g1 g2 g3 g4 g5 g6 g7 g8
  obtain ⟨⟨r0, r1, r2, r3, r4, r5, r6, r7, r8⟩, g0, g1, g2, g3, g4, g5, g6, g7, g8⟩ := nine_at HR2.out
  go_quiet (fail)
  have HR3 := Lib.hid (show (W2.drewN nq).heap[w.heap.size]? = _ from HR2.out)
  obtain ⟨nb, e0, e1, e2, e3, e4, e5, e6, e7, e8⟩ := nine_end (x0 := (.int .i64 k)) (x1 := (.string n)) (x2 := (.string d)) (x3 := (.string t)) (x4 := (.bool on)) (x5 := (.int .i64 c)) (x6 := (.int .i64 0)) (x7 := (.int .i64 0)) (x8 := (.slice A L C)) HR3.out (below_drewN HL2.out nq) (Nat.le_refl _)
  go_wp2
  refine leaves_cons (f := 42) (args := #[.pointer (some ⟨w.heap.size, 0, none⟩)]) (by simp) (by simp [go_sem]) ?_
  refine (idle_any _ _).mono ?_
  rintro e u' w3 ⟨rfl, rfl, rfl⟩
  exact ⟨_, (by simp [results, Tryz.results41, go_sem, e0, e1, e2, e3, e4, e5, e6, e7, e8]), rfl, nb⟩

set_option maxHeartbeats 4000000 in
set_option maxRecDepth 100000 in
theorem run1_stop (pb e : Nat) (sl : Value) (c : Int) (w : World) (hs : ∃ a l c, sl = .slice a l c) (h1 : 1 ≤ c) (h2 : c ≤ 8) (hc : w.cell? ⟨pb, 3, none⟩ = some (.func (.func 133) #[] #[.pointer (some ⟨e, 0, none⟩)])) (hE : Env w)
    (hF : ∀ W, Below w.heap.size w W → Calls Tryz.prog 133 #[sl, .pointer (some ⟨e, 0, none⟩)] W fun e w' => e = stopped c ∧ Below W.heap.size W w') :
    Calls Tryz.prog 41 #[sl, .pointer (some ⟨pb, 0, none⟩)] w fun e w' => e = .returned (faultVal c) ∧ Below w.heap.size w w' := by
  obtain ⟨sa, slen, sc, rfl⟩ := hs
  have TC := Lib.hid (fun R x0 x1 x2 x3 x4 x5 x6 x7 x8 W g g' => caught_any R c h1 h2 x0 x1 x2 x3 x4 x5 x6 x7 x8 W g g')
  rw [faultVal_is c]
  have hmf : ∀ (fn : Fn) (first cap : Array Value) (w : World), (Instr.makeFunc fn first cap).run Tryz.prog w = .ok (.func fn first cap) w := fun _ _ _ _ => rfl
  have hb : Below w.heap.size w (w.alloc (.cells #[.int .i64 0, .string { data := #[] }, .string { data := #[] }, .string { data := #[] }, .bool false, .int .i64 0, .int .i64 0, .int .i64 0, .slice none 0 0] 27)) := (Below.refl _ _).alloc (Nat.le_refl _) _
  have HR := Lib.hid (heap_alloc_new w (.cells #[.int .i64 0, .string { data := #[] }, .string { data := #[] }, .string { data := #[] }, .bool false, .int .i64 0, .int .i64 0, .int .i64 0, .slice none 0 0] 27))
  have HX := Lib.hid (cell_below hc hb)
  have HL := Lib.hid hb
  have HE := Lib.hid (hE.below hb)
  have TF := Lib.hid (hF _ hb)
  clear hb hc hE hF
  obtain x3 := HX.out
  go_enter_defers Tryz.func41, Tryz.ntmps41
  go_wp2_with fail
  refine TF.out.mono ?_
  rintro e w1 ⟨rfl, hb⟩
  replace HR := Lib.hid (keep_block HR.out hb)
  replace HE := Lib.hid (HE.out.below hb)
  replace HL := Lib.hid (HL.out.trans (hb.mono HL.out.size))
  clear hb
  unfold stopped
  go_wp2
  refine leaves_cons (f := 42) (args := #[.pointer (some ⟨w.heap.size, 0, none⟩)]) (by simp) (by simp [go_sem]) ?_
  refine (TC.out _ _ _ _ _ _ _ _ _ _ _ HR.out HE.out).mono ?_
  rintro e u' w3 ⟨rfl, rfl, hr, hg⟩
  obtain ⟨⟨e0, e1, e2, e3, e4, e5, e6, e7, e8⟩, _⟩ := nine_at hr
  exact ⟨_, (by simp [results, Tryz.results41, go_sem, e0, e1, e2, e3, e4, e5, e6, e7, e8]), rfl, HL.out.trans (below_of_only hg (Nat.le_refl _) HL.out.size)⟩
end Go.Proofs.YtemdjmaakajhjaaGreatDoor.Num.Ft
