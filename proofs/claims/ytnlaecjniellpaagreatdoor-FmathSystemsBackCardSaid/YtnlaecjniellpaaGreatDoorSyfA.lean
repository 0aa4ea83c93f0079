/- Numbers as texts of digits, fractions, values and the functions of fmath: contracts of the program's functions, joined from smaller texts. Conditions stand at each theorem. -/
import Derived.Test.YtnlaecjniellpaaGreatDoorNumH
import Derived.Test.YtnlaecjniellpaaGreatDoorSybA
import Derived.Test.YtnlaecjniellpaaGreatDoorNumG
import Derived.Test.YtnlaecjniellpaaGreatDoorSyrA

/- package ftext's table of functions: how it lies as a map. No conditions. -/
set_option linter.unusedVariables false
set_option linter.unusedSimpArgs false
namespace Go.Proofs.YtnlaecjniellpaaGreatDoor.Num.Fx
open Go.RowKit Go.Lib Go.MapKept Num

attribute [local go_sem] run_store_func
/-- a function value that wraps the row's function -/
def RowFn (w : World) (v : Value) (r : Row) : Prop :=
  if r.num then ∃ e f, v = .func (.func 101) #[] #[.pointer (some ⟨e, 0, none⟩)] ∧ w.cell? ⟨e, 0, none⟩ = some (.func (.func 105) #[] #[.pointer (some ⟨f, 0, none⟩)]) ∧ w.cell? ⟨f, 0, none⟩ = some (.func (.func r.fn) #[] #[])
  else ∃ e, v = .func (.func 101) #[] #[.pointer (some ⟨e, 0, none⟩)] ∧ w.cell? ⟨e, 0, none⟩ = some (.func (.func r.fn) #[] #[])
/-- an entry of the table as it lies in the map -/
def EntryAt (w : World) (x : MapEntry) (r : Row) : Prop := x.key = .string r.name ∧ ∃ v, x.val = .agg #[.int .i64 r.least, .int .i64 r.most, .string r.kinds, v] ∧ RowFn w v r
/-- block b is a map with just these rows -/
def TableAt (w : World) (b : Nat) (l : List Row) : Prop :=
  ∃ es clock, w.heap[b]? = some (.map es clock) ∧ es.size = l.length ∧ ∀ i (h : i < l.length) (h' : i < es.size), EntryAt w es[i] l[i]

theorem RowFn.mono {w w' : World} {v : Value} {r : Row} (h : RowFn w v r) (hc : ∀ (p : Addr) (x : Value), w.cell? p = some x → w'.cell? p = some x) : RowFn w' v r := by
  unfold RowFn at h ⊢
  split
  · rename_i hn
    rw [if_pos hn] at h
    obtain ⟨e, f, h1, h2, h3⟩ := h
    exact ⟨e, f, h1, hc _ _ h2, hc _ _ h3⟩
  · rename_i hn
    rw [if_neg hn] at h
    obtain ⟨e, h1, h2⟩ := h
    exact ⟨e, h1, hc _ _ h2⟩
theorem EntryAt.mono {w w' : World} {x : MapEntry} {r : Row} (h : EntryAt w x r) (hc : ∀ (p : Addr) (x : Value), w.cell? p = some x → w'.cell? p = some x) : EntryAt w' x r :=
  let ⟨hk, v, hv, hr⟩ := h; ⟨hk, v, hv, hr.mono hc⟩
theorem TableAt.below {w w' : World} {b : Nat} {l : List Row} (h : TableAt w b l) (hb : Below w.heap.size w w') : TableAt w' b l := by
  obtain ⟨es, clock, hm, hs, he⟩ := h
  exact ⟨es, clock, keep_block hm hb, hs, fun i hi hi' => (he i hi hi').mono fun p x hp => cell_below hp hb⟩
theorem TableAt.made (w : World) : TableAt (w.alloc (.map #[] 0)) w.heap.size [] := ⟨#[], 0, heap_alloc_new w _, rfl, fun i hi => absurd hi (Nat.not_lt_zero _)⟩
theorem TableAt.store {w : World} {b mt kt et : Nat} {l : List Row} (h : TableAt w b l) (r : Row) (v : Value) (hr : RowFn w v r) (hf : Fresh r.name l) (hm : Tryz.prog.underlying mt = some (.map kt et)) (hk : Tryz.prog.underlying kt = some .string) :
    ∃ w', (Instr.mapUpdate mt (.map (some b)) (.string r.name) (.agg #[.int .i64 r.least, .int .i64 r.most, .string r.kinds, v])).run Tryz.prog w = .ok () w' ∧ TableAt w' b (l ++ [r]) ∧ w.grownBy w' (some b) := by
  obtain ⟨es, clock, hb, hs, he⟩ := h
  have hall : ∀ x ∈ es.toList, ∃ t, x.key = .string t ∧ (r.name == t) = false := by
    intro x hx
    obtain ⟨i, hi, rfl⟩ := List.getElem_of_mem hx
    have hi' : i < es.size := by simpa using hi
    have hil : i < l.length := by omega
    have := (he i hil hi').1
    exact ⟨l[i].name, by simpa using this, hf l[i] (List.getElem_mem hil)⟩
  have hfind := findNow_fresh r.name es.toList 0 hall
  have hc : (Instr.checkKey false 10000 kt (.string r.name)).run Tryz.prog w = .ok () w := MapKept.run_checkKey (k := .string r.name) hk (by simp [IsKey]) false 9999
  refine ⟨putMap w b (.map (es.push { key := .string r.name, val := .agg #[.int .i64 r.least, .int .i64 r.most, .string r.kinds, v], born := clock }) (clock + 1)), ?_, ?_, putMap_grown hb⟩
  · simp [Instr.mapUpdate, run_underlying hm, MapKept.run_getObj_map hb, hc, MapKept.run_findKey hk hfind, MapKept.run_setObj_map _ hb, Result.andThen, putMap]
  · refine ⟨_, _, (heap_set hb).1, by simp [hs], fun i hi hi' => ?_⟩
    by_cases hlt : i < es.size
    · have hil : i < l.length := by omega
      rw [Array.getElem_push_lt hlt, List.getElem_append_left hil]
      exact (he i hil hlt).mono (putMap_cell hb)
    · have : i = es.size := by simp at hi'; omega
      subst this
      rw [Array.getElem_push_eq]
      have hl : (l ++ [r])[es.size] = r := by simp [hs]
      rw [hl]
      exact ⟨rfl, v, rfl, hr.mono (putMap_cell hb)⟩
/-- the row at a name -/
theorem TableAt.look {w : World} {b mt kt et : Nat} {l : List Row} (h : TableAt w b l) (i : Nat) (hi : i < l.length) (hf : ∀ j (hj : j < i), (l[i].name == (l[j]'(by omega)).name) = false) (hm : Tryz.prog.underlying mt = some (.map kt et)) (hk : Tryz.prog.underlying kt = some .string) :
    ∃ v, RowFn w v l[i] ∧ (Instr.lookup mt (.map (some b)) (.string l[i].name) true).run Tryz.prog w = .ok (.tuple #[.agg #[.int .i64 l[i].least, .int .i64 l[i].most, .string l[i].kinds, v], .bool true]) w := by
  obtain ⟨es, clock, hb, hs, he⟩ := h
  have hi' : i < es.size := by omega
  obtain ⟨hkey, v, hv, hr⟩ := he i hi hi'
  refine ⟨v, hr, ?_⟩
  have hat : es.toList[i]? = some es[i] := by simp [hi']
  have hfind := findNow_at l[i].name es.toList i 0 es[i] hat hkey (fun j y hj hy => by
    have hjl : j < l.length := by omega
    have hje : j < es.size := by omega
    have hy' : es[j] = y := by simpa [hje] using hy
    exact ⟨l[j].name, by rw [← hy']; exact (he j hjl hje).1, hf j hj⟩)
  rw [Nat.zero_add, hv] at hfind
  have hc : (Instr.checkKey es.isEmpty 10000 kt (.string l[i].name)).run Tryz.prog w = .ok () w := MapKept.run_checkKey (k := .string l[i].name) hk (by simp [IsKey]) _ 9999
  simp [Instr.lookup, run_underlying hm, MapKept.run_getObj_map hb, hc, MapKept.run_findKey hk hfind, Result.andThen]

section
variable {ops : Array Oper} {rest : List Oper} {o : Oper} {a : Act} {Q : Exit → Act → World → Prop}
theorem wpList_insert_row (w : World) (hg : o.guard = none) (m x u : Operand) (t : TypeId) (hop : o.op = Op.insert t m x u ∨ o.op = Op.mapUpdate t m x u) {b kt et : Nat} {l : List Row} (hm : a.eval m = .map (some b)) (h : TableAt w b l) (r : Row) (v : Value) (hx : a.eval x = .string r.name) (hv : a.eval u = .agg #[.int .i64 r.least, .int .i64 r.most, .string r.kinds, v]) (hr : RowFn w v r) (hf : Fresh r.name l) (ht : Tryz.prog.underlying t = some (.map kt et)) (hk : Tryz.prog.underlying kt = some .string)
    (hK : ∀ w', TableAt w' b (l ++ [r]) → w.grownBy w' (some b) → wpList Tryz.prog ops Q rest (a.put o.dst undef) w') :
    wpList Tryz.prog ops Q (o :: rest) a w := by
  refine wpList_plain hg fun K' hK' => ?_
  obtain ⟨w', hrun, r1, r2⟩ := h.store r v hr hf ht hk
  unfold Oper.wp
  rcases hop with hop | hop
  · simp [execOp, hop, hm, hx, hv, hrun, Result.andThen]
    exact hK' _ _ (hK w' r1 r2)
  · simp [execOp, hop, hm, hx, hv, hrun, Result.andThen]
    exact hK' _ _ (hK w' r1 r2)
end

set_option maxHeartbeats 1000000 in
theorem entry_any (least most : Int) (kinds : ByteArray) (F : Value) (w : World) (hF : ∃ f c d, F = .func f c d) :
    Calls Tryz.prog 20 #[.int .i64 least, .int .i64 most, .string kinds, F] w fun e w' => e = .returned (.agg #[.int .i64 least, .int .i64 most, .string kinds, .func (.func 101) #[] #[.pointer (some ⟨w.heap.size, 0, none⟩)]]) ∧ w'.cell? ⟨w.heap.size, 0, none⟩ = some F ∧ Below w.heap.size w w' := by
  obtain ⟨f, c, d, rfl⟩ := hF
  have hmf : ∀ (fn : Fn) (first cap : Array Value) (w : World), (Instr.makeFunc fn first cap).run Tryz.prog w = .ok (.func fn first cap) w := fun _ _ _ _ => rfl
  go_enter Tryz.func20, Tryz.ntmps20
  go_wp2
  have hc : (((w.alloc (.cells #[.func f c d] 52)).alloc (.cells #[.int .i64 least, .int .i64 most, .string kinds, .func (.func 101) #[] #[.pointer (some ⟨w.heap.size, 0, none⟩)]] 44))).cell? ⟨w.heap.size, 0, none⟩ = some (.func f c d) :=
    Lib.cell_of_heap ((Below.heap_alloc _ _ _ (by simp)).trans (heap_alloc_new w _)) 0
  exact bodyPost_ret (v := .agg #[.int .i64 least, .int .i64 most, .string kinds, .func (.func 101) #[] #[.pointer (some ⟨w.heap.size, 0, none⟩)]]) (by simp [results, Tryz.results20, go_sem]) rfl ⟨rfl, hc, ((Below.refl _ _).alloc (Nat.le_refl _) _).alloc (by simp) _⟩
end Go.Proofs.YtnlaecjniellpaaGreatDoor.Num.Fx

/- package ftext's table of functions. No conditions. -/
namespace Go.Proofs.YtnlaecjniellpaaGreatDoor.Num.Fx
open Go.RowKit Go.Lib Go.MapKept Num

attribute [local go_sem] run_store_func
theorem entry_lit (name : ByteArray) (least most : Int) (kinds : ByteArray) (F : FuncId) (w : World) : Calls Tryz.prog 20 #[.int .i64 least, .int .i64 most, .string kinds, .func (.func F) #[] #[]] w fun e w' => ∃ v, e = .returned (.agg #[.int .i64 least, .int .i64 most, .string kinds, v]) ∧ RowFn w' v ⟨name, least, most, kinds, false, F⟩ ∧ Below w.heap.size w w' :=
  (entry_any least most kinds _ w ⟨_, _, _, rfl⟩).mono fun e w' ⟨he, hc, hb⟩ => ⟨_, he, by unfold RowFn; rw [if_neg (show ¬ ((false : Bool) = true) from Bool.false_ne_true)]; exact ⟨_, rfl, hc⟩, hb⟩

set_option maxHeartbeats 1000000 in
theorem text_row (F : FuncId) (w : World) : Calls Tryz.prog 24 #[.func (.func F) #[] #[]] w fun e w' => ∃ v, e = .returned (.agg #[.int .i64 1, .int .i64 1, .string { data := #[115] }, v]) ∧ (∀ name, RowFn w' v ⟨name, 1, 1, { data := #[115] }, true, F⟩) ∧ Below w.heap.size w w' := by
  have hmf : ∀ (fn : Fn) (first cap : Array Value) (w : World), (Instr.makeFunc fn first cap).run Tryz.prog w = .ok (.func fn first cap) w := fun _ _ _ _ => rfl
  obtain ⟨hx, hr, hb⟩ := two_new w (.cells #[.func (.func F) #[] #[]] 54) (.cells #[.int .i64 0, .int .i64 0, .string { data := #[] }, .nilFunc] 44)
  have HX := Lib.hid hx
  have HR := Lib.hid hr
  have HL := Lib.hid hb
  have TE := Lib.hid (fun W => entry_any 1 1 { data := #[115] } (.func (.func 105) #[] #[.pointer (some ⟨w.heap.size, 0, none⟩)]) W ⟨_, _, _, rfl⟩)
  clear hx hr hb
  go_enter Tryz.func24, Tryz.ntmps24
  go_wp2_with fail
  refine (TE.out _).mono ?_
  rintro e W1 ⟨rfl, hc, hb⟩
  have HC := Lib.hid hc
  clear hc
  replace HX := Lib.hid (keep_block HX.out hb)
  replace HR := Lib.hid (keep_block HR.out hb)
  replace HL := Lib.hid (HL.out.trans (hb.mono HL.out.size))
  clear hb
  obtain ⟨⟨r0, r1, r2, r3⟩, f0, f1, f2, f3⟩ := quad_at HR.out
  go_wp2
  have hpos : ((w.alloc (.cells #[.func (.func F) #[] #[]] 54)).alloc (.cells #[.int .i64 0, .int .i64 0, .string { data := #[] }, .nilFunc] 44)).heap.size = w.heap.size + 1 + 1 := by simp
  rw [hpos] at HC
  have hF := set4_at HR.out (.int .i64 1) (.int .i64 1) (.string { data := #[115] }) (.func (.func 101) #[] #[.pointer (some ⟨w.heap.size + 1 + 1, 0, none⟩)])
  obtain ⟨⟨e0, e1, e2, e3⟩, _⟩ := quad_at hF
  refine bodyPost_ret (v := .agg #[.int .i64 1, .int .i64 1, .string { data := #[115] }, .func (.func 101) #[] #[.pointer (some ⟨w.heap.size + 1 + 1, 0, none⟩)]]) (by simp [results, Tryz.results24, go_sem, e0, e1, e2, e3]) rfl ⟨_, rfl, ?_, ?_⟩
  · intro name
    unfold RowFn
    rw [if_pos rfl]
    refine ⟨_, _, rfl, but_cell HC.out (fun k hk => set4_other _ _ _ _ _ _ hk) (by simp only []; omega), ?_⟩
    exact but_cell (Lib.cell_of_heap HX.out 0) (fun k hk => set4_other _ _ _ _ _ _ hk) (by simp only []; omega)
  · have hge : w.heap.size ≤ w.heap.size + 1 := Nat.le_succ _
    exact (((HL.out.setCell (p := ⟨w.heap.size + 1, 0, none⟩) hge _).setCell (p := ⟨w.heap.size + 1, 1, none⟩) hge _).setCell (p := ⟨w.heap.size + 1, 2, none⟩) hge _).setCell (p := ⟨w.heap.size + 1, 3, none⟩) hge _

set_option maxHeartbeats 8000000 in
set_option maxRecDepth 100000 in
theorem code_row (w : World) : Calls Tryz.prog 43 #[] w fun e w' => ∃ v, e = .returned (.agg #[.int .i64 1, .int .i64 1, .string { data := #[115] }, v]) ∧ (∀ name, RowFn w' v ⟨name, 1, 1, { data := #[115] }, false, 120⟩) ∧ Below w.heap.size w w' := by
  have hb : Below w.heap.size w (w.alloc (.cells #[.int .i64 0, .int .i64 0, .string { data := #[] }, .nilFunc] 44)) := (Below.refl _ _).alloc (Nat.le_refl _) _
  have HR := Lib.hid (heap_alloc_new w (.cells #[.int .i64 0, .int .i64 0, .string { data := #[] }, .nilFunc] 44))
  have HL := Lib.hid hb
  have TE := Lib.hid (fun W => entry_any 1 1 { data := #[115] } (.func (.func 120) #[] #[]) W ⟨_, _, _, rfl⟩)
  clear hb
  go_enter Tryz.func43, Tryz.ntmps43
  go_wp2_with fail
  refine (TE.out _).mono ?_
  rintro e W1 ⟨rfl, hc, hb⟩
  have HC := Lib.hid hc
  clear hc
  replace HR := Lib.hid (keep_block HR.out hb)
  replace HL := Lib.hid (HL.out.trans (hb.mono HL.out.size))
  clear hb
  obtain ⟨⟨r0, r1, r2, r3⟩, f0, f1, f2, f3⟩ := quad_at HR.out
  go_wp2
  have hpos : (w.alloc (.cells #[.int .i64 0, .int .i64 0, .string { data := #[] }, .nilFunc] 44)).heap.size = w.heap.size + 1 := by simp
  rw [hpos] at HC
  have hF := set4_at HR.out (.int .i64 1) (.int .i64 1) (.string { data := #[115] }) (.func (.func 101) #[] #[.pointer (some ⟨w.heap.size + 1, 0, none⟩)])
  obtain ⟨⟨e0, e1, e2, e3⟩, _⟩ := quad_at hF
  refine bodyPost_ret (v := .agg #[.int .i64 1, .int .i64 1, .string { data := #[115] }, .func (.func 101) #[] #[.pointer (some ⟨w.heap.size + 1, 0, none⟩)]]) (by simp [results, Tryz.results43, go_sem, e0, e1, e2, e3]) rfl ⟨_, rfl, ?_, ?_⟩
  · intro name
    unfold RowFn
    rw [if_neg (show ¬ ((false : Bool) = true) from Bool.false_ne_true)]
    exact ⟨_, rfl, but_cell HC.out (fun k hk => set4_other _ _ _ _ _ _ hk) (by simp only []; omega)⟩
  · have hge : w.heap.size ≤ w.heap.size := Nat.le_refl _
    exact (((HL.out.setCell (p := ⟨w.heap.size, 0, none⟩) hge _).setCell (p := ⟨w.heap.size, 1, none⟩) hge _).setCell (p := ⟨w.heap.size, 2, none⟩) hge _).setCell (p := ⟨w.heap.size, 3, none⟩) hge _

set_option maxHeartbeats 8000000 in
set_option maxRecDepth 100000 in
theorem char_row (w : World) : Calls Tryz.prog 44 #[] w fun e w' => ∃ v, e = .returned (.agg #[.int .i64 1, .int .i64 1, .string { data := #[115] }, v]) ∧ (∀ name, RowFn w' v ⟨name, 1, 1, { data := #[115] }, false, 122⟩) ∧ Below w.heap.size w w' := by
  have hb : Below w.heap.size w (w.alloc (.cells #[.int .i64 0, .int .i64 0, .string { data := #[] }, .nilFunc] 44)) := (Below.refl _ _).alloc (Nat.le_refl _) _
  have HR := Lib.hid (heap_alloc_new w (.cells #[.int .i64 0, .int .i64 0, .string { data := #[] }, .nilFunc] 44))
  have HL := Lib.hid hb
  have TE := Lib.hid (fun W => entry_any 1 1 { data := #[115] } (.func (.func 122) #[] #[]) W ⟨_, _, _, rfl⟩)
  clear hb
  go_enter Tryz.func44, Tryz.ntmps44
  go_wp2_with fail
  refine (TE.out _).mono ?_
  rintro e W1 ⟨rfl, hc, hb⟩
  have HC := Lib.hid hc
  clear hc
  replace HR := Lib.hid (keep_block HR.out hb)
  replace HL := Lib.hid (HL.out.trans (hb.mono HL.out.size))
  clear hb
  obtain ⟨⟨r0, r1, r2, r3⟩, f0, f1, f2, f3⟩ := quad_at HR.out
  go_wp2
  have hpos : (w.alloc (.cells #[.int .i64 0, .int .i64 0, .string { data := #[] }, .nilFunc] 44)).heap.size = w.heap.size + 1 := by simp
  rw [hpos] at HC
  have hF := set4_at HR.out (.int .i64 1) (.int .i64 1) (.string { data := #[115] }) (.func (.func 101) #[] #[.pointer (some ⟨w.heap.size + 1, 0, none⟩)])
  obtain ⟨⟨e0, e1, e2, e3⟩, _⟩ := quad_at hF
  refine bodyPost_ret (v := .agg #[.int .i64 1, .int .i64 1, .string { data := #[115] }, .func (.func 101) #[] #[.pointer (some ⟨w.heap.size + 1, 0, none⟩)]]) (by simp [results, Tryz.results44, go_sem, e0, e1, e2, e3]) rfl ⟨_, rfl, ?_, ?_⟩
  · intro name
    unfold RowFn
    rw [if_neg (show ¬ ((false : Bool) = true) from Bool.false_ne_true)]
    exact ⟨_, rfl, but_cell HC.out (fun k hk => set4_other _ _ _ _ _ _ hk) (by simp only []; omega)⟩
  · have hge : w.heap.size ≤ w.heap.size := Nat.le_refl _
    exact (((HL.out.setCell (p := ⟨w.heap.size, 0, none⟩) hge _).setCell (p := ⟨w.heap.size, 1, none⟩) hge _).setCell (p := ⟨w.heap.size, 2, none⟩) hge _).setCell (p := ⟨w.heap.size, 3, none⟩) hge _

def allRows : List Row := [⟨{ data := #[76, 69, 78] }, 1, 1, { data := #[115] }, false, 21⟩,
  ⟨{ data := #[76, 79, 87, 69, 82] }, 1, 1, { data := #[115] }, true, 25⟩,
  ⟨{ data := #[85, 80, 80, 69, 82] }, 1, 1, { data := #[115] }, true, 26⟩,
  ⟨{ data := #[80, 82, 79, 80, 69, 82] }, 1, 1, { data := #[115] }, true, 27⟩,
  ⟨{ data := #[84, 82, 73, 77] }, 1, 1, { data := #[115] }, true, 28⟩,
  ⟨{ data := #[67, 76, 69, 65, 78] }, 1, 1, { data := #[115] }, true, 29⟩,
  ⟨{ data := #[76, 69, 70, 84] }, 1, 2, { data := #[115] }, false, 30⟩,
  ⟨{ data := #[82, 73, 71, 72, 84] }, 1, 2, { data := #[115] }, false, 31⟩,
  ⟨{ data := #[77, 73, 68] }, 3, 3, { data := #[115] }, false, 32⟩,
  ⟨{ data := #[82, 69, 80, 84] }, 2, 2, { data := #[115] }, false, 33⟩,
  ⟨{ data := #[69, 88, 65, 67, 84] }, 2, 2, { data := #[115] }, false, 34⟩,
  ⟨{ data := #[70, 73, 78, 68] }, 2, 3, { data := #[115] }, false, 36⟩,
  ⟨{ data := #[83, 69, 65, 82, 67, 72] }, 2, 3, { data := #[115] }, false, 39⟩,
  ⟨{ data := #[82, 69, 80, 76, 65, 67, 69] }, 4, 4, { data := #[115] }, false, 41⟩,
  ⟨{ data := #[83, 85, 66, 83, 84, 73, 84, 85, 84, 69] }, 3, 4, { data := #[115] }, false, 42⟩,
  ⟨{ data := #[67, 79, 68, 69] }, 1, 1, { data := #[115] }, false, 120⟩,
  ⟨{ data := #[85, 78, 73, 67, 79, 68, 69] }, 1, 1, { data := #[115] }, false, 120⟩,
  ⟨{ data := #[67, 72, 65, 82] }, 1, 1, { data := #[115] }, false, 122⟩,
  ⟨{ data := #[85, 78, 73, 67, 72, 65, 82] }, 1, 1, { data := #[115] }, false, 122⟩,
  ⟨{ data := #[86, 65, 76, 85, 69] }, 1, 1, { data := #[115] }, false, 45⟩,
  ⟨{ data := #[84] }, 1, 1, { data := #[115] }, false, 48⟩,
  ⟨{ data := #[70, 73, 88, 69, 68] }, 1, 3, { data := #[115] }, false, 49⟩,
  ⟨{ data := #[84, 69, 88, 84] }, 2, 2, { data := #[115] }, false, 50⟩,
  ⟨{ data := #[67, 79, 78, 67, 65, 84] }, 1, 255, { data := #[97] }, false, 51⟩,
  ⟨{ data := #[67, 79, 78, 67, 65, 84, 69, 78, 65, 84, 69] }, 1, 255, { data := #[115] }, false, 55⟩,
  ⟨{ data := #[84, 69, 88, 84, 74, 79, 73, 78] }, 3, 255, { data := #[115, 115, 97] }, false, 56⟩,
  ⟨{ data := #[84, 69, 88, 84, 83, 80, 76, 73, 84] }, 2, 3, { data := #[115] }, false, 57⟩,
  ⟨{ data := #[84, 69, 88, 84, 66, 69, 70, 79, 82, 69] }, 2, 3, { data := #[115] }, false, 58⟩,
  ⟨{ data := #[84, 69, 88, 84, 65, 70, 84, 69, 82] }, 2, 3, { data := #[115] }, false, 60⟩]
set_option maxHeartbeats 8000000 in
set_option maxRecDepth 100000 in
theorem table_any (w : World) : Calls Tryz.prog 12 #[] w fun e w' => ∃ b, e = .returned (.map (some b)) ∧ TableAt w' b allRows ∧ Below w.heap.size w w' := by
  have hmm := @run_makeMap Tryz.prog
  have TA := Lib.hid (show TableAt (w.alloc (.map #[] 0)) w.heap.size (allRows.take 0) from TableAt.made w)
  have HL := Lib.hid (show Below w.heap.size w (w.alloc (.map #[] 0)) from (Below.refl _ _).alloc (Nat.le_refl _) _)
  go_enter Tryz.func12, Tryz.ntmps12
  go_wp2_with fail
  refine (entry_lit { data := #[76, 69, 78] } 1 1 { data := #[115] } 21 _).mono ?_
  rintro e W0 ⟨v, rfl, hr, hb⟩
  have RF := Lib.hid hr
  replace TA := Lib.hid (TA.out.below hb)
  replace HL := Lib.hid (HL.out.trans (hb.mono HL.out.size))
  clear hr hb
  go_wp2_with (first | (refine wpList_insert_row _ rfl _ _ _ _ (.inl rfl) rfl TA.out ⟨{ data := #[76, 69, 78] }, 1, 1, { data := #[115] }, false, 21⟩ v rfl rfl RF.out (fresh_of (by kernel_rfl)) Tryz.underlying36 Tryz.underlying9 ?_; intro V0 ta hg; replace TA := Lib.hid (show TableAt V0 _ (allRows.take 1) from ta); replace HL := Lib.hid (below_map HL.out (Nat.le_refl _) hg); clear ta hg RF))
  go_wp2_with fail
  refine (text_row 25 _).mono ?_
  rintro e W1 ⟨v, rfl, hrn, hb⟩
  have hr := hrn { data := #[76, 79, 87, 69, 82] }
  clear hrn
  have RF := Lib.hid hr
  replace TA := Lib.hid (TA.out.below hb)
  replace HL := Lib.hid (HL.out.trans (hb.mono HL.out.size))
  clear hr hb
  go_wp2_with (first | (refine wpList_insert_row _ rfl _ _ _ _ (.inl rfl) rfl TA.out ⟨{ data := #[76, 79, 87, 69, 82] }, 1, 1, { data := #[115] }, true, 25⟩ v rfl rfl RF.out (fresh_of (by kernel_rfl)) Tryz.underlying36 Tryz.underlying9 ?_; intro V1 ta hg; replace TA := Lib.hid (show TableAt V1 _ (allRows.take 2) from ta); replace HL := Lib.hid (below_map HL.out (Nat.le_refl _) hg); clear ta hg RF))
  go_wp2_with fail
  refine (text_row 26 _).mono ?_
  rintro e W2 ⟨v, rfl, hrn, hb⟩
  have hr := hrn { data := #[85, 80, 80, 69, 82] }
  clear hrn
  have RF := Lib.hid hr
  replace TA := Lib.hid (TA.out.below hb)
  replace HL := Lib.hid (HL.out.trans (hb.mono HL.out.size))
  clear hr hb
  go_wp2_with (first | (refine wpList_insert_row _ rfl _ _ _ _ (.inl rfl) rfl TA.out ⟨{ data := #[85, 80, 80, 69, 82] }, 1, 1, { data := #[115] }, true, 26⟩ v rfl rfl RF.out (fresh_of (by kernel_rfl)) Tryz.underlying36 Tryz.underlying9 ?_; intro V2 ta hg; replace TA := Lib.hid (show TableAt V2 _ (allRows.take 3) from ta); replace HL := Lib.hid (below_map HL.out (Nat.le_refl _) hg); clear ta hg RF))
  go_wp2_with fail
  refine (text_row 27 _).mono ?_
  rintro e W3 ⟨v, rfl, hrn, hb⟩
  have hr := hrn { data := #[80, 82, 79, 80, 69, 82] }
  clear hrn
  have RF := Lib.hid hr
  replace TA := Lib.hid (TA.out.below hb)
  replace HL := Lib.hid (HL.out.trans (hb.mono HL.out.size))
  clear hr hb
  go_wp2_with (first | (refine wpList_insert_row _ rfl _ _ _ _ (.inl rfl) rfl TA.out ⟨{ data := #[80, 82, 79, 80, 69, 82] }, 1, 1, { data := #[115] }, true, 27⟩ v rfl rfl RF.out (fresh_of (by kernel_rfl)) Tryz.underlying36 Tryz.underlying9 ?_; intro V3 ta hg; replace TA := Lib.hid (show TableAt V3 _ (allRows.take 4) from ta); replace HL := Lib.hid (below_map HL.out (Nat.le_refl _) hg); clear ta hg RF))
  go_wp2_with fail
  refine (text_row 28 _).mono ?_
  rintro e W4 ⟨v, rfl, hrn, hb⟩
  have hr := hrn { data := #[84, 82, 73, 77] }
  clear hrn
  have RF := Lib.hid hr
  replace TA := Lib.hid (TA.out.below hb)
  replace HL := Lib.hid (HL.out.trans (hb.mono HL.out.size))
  clear hr hb
  go_wp2_with (first | (refine wpList_insert_row _ rfl _ _ _ _ (.inl rfl) rfl TA.out ⟨{ data := #[84, 82, 73, 77] }, 1, 1, { data := #[115] }, true, 28⟩ v rfl rfl RF.out (fresh_of (by kernel_rfl)) Tryz.underlying36 Tryz.underlying9 ?_; intro V4 ta hg; replace TA := Lib.hid (show TableAt V4 _ (allRows.take 5) from ta); replace HL := Lib.hid (below_map HL.out (Nat.le_refl _) hg); clear ta hg RF))
  go_wp2_with fail
  refine (text_row 29 _).mono ?_
  rintro e W5 ⟨v, rfl, hrn, hb⟩
  have hr := hrn { data := #[67, 76, 69, 65, 78] }
  clear hrn
  have RF := Lib.hid hr
  replace TA := Lib.hid (TA.out.below hb)
  replace HL := Lib.hid (HL.out.trans (hb.mono HL.out.size))
  clear hr hb
  go_wp2_with (first | (refine wpList_insert_row _ rfl _ _ _ _ (.inl rfl) rfl TA.out ⟨{ data := #[67, 76, 69, 65, 78] }, 1, 1, { data := #[115] }, true, 29⟩ v rfl rfl RF.out (fresh_of (by kernel_rfl)) Tryz.underlying36 Tryz.underlying9 ?_; intro V5 ta hg; replace TA := Lib.hid (show TableAt V5 _ (allRows.take 6) from ta); replace HL := Lib.hid (below_map HL.out (Nat.le_refl _) hg); clear ta hg RF))
  go_wp2_with fail
  refine (entry_lit { data := #[76, 69, 70, 84] } 1 2 { data := #[115] } 30 _).mono ?_
  rintro e W6 ⟨v, rfl, hr, hb⟩
  have RF := Lib.hid hr
  replace TA := Lib.hid (TA.out.below hb)
  replace HL := Lib.hid (HL.out.trans (hb.mono HL.out.size))
  clear hr hb
  go_wp2_with (first | (refine wpList_insert_row _ rfl _ _ _ _ (.inl rfl) rfl TA.out ⟨{ data := #[76, 69, 70, 84] }, 1, 2, { data := #[115] }, false, 30⟩ v rfl rfl RF.out (fresh_of (by kernel_rfl)) Tryz.underlying36 Tryz.underlying9 ?_; intro V6 ta hg; replace TA := Lib.hid (show TableAt V6 _ (allRows.take 7) from ta); replace HL := Lib.hid (below_map HL.out (Nat.le_refl _) hg); clear ta hg RF))
  go_wp2_with fail
  refine (entry_lit { data := #[82, 73, 71, 72, 84] } 1 2 { data := #[115] } 31 _).mono ?_
  rintro e W7 ⟨v, rfl, hr, hb⟩
  have RF := Lib.hid hr
  replace TA := Lib.hid (TA.out.below hb)
  replace HL := Lib.hid (HL.out.trans (hb.mono HL.out.size))
  clear hr hb
  go_wp2_with (first | (refine wpList_insert_row _ rfl _ _ _ _ (.inl rfl) rfl TA.out ⟨{ data := #[82, 73, 71, 72, 84] }, 1, 2, { data := #[115] }, false, 31⟩ v rfl rfl RF.out (fresh_of (by kernel_rfl)) Tryz.underlying36 Tryz.underlying9 ?_; intro V7 ta hg; replace TA := Lib.hid (show TableAt V7 _ (allRows.take 8) from ta); replace HL := Lib.hid (below_map HL.out (Nat.le_refl _) hg); clear ta hg RF))
  go_wp2_with fail
  refine (entry_lit { data := #[77, 73, 68] } 3 3 { data := #[115] } 32 _).mono ?_
  rintro e W8 ⟨v, rfl, hr, hb⟩
  have RF := Lib.hid hr
  replace TA := Lib.hid (TA.out.below hb)
  replace HL := Lib.hid (HL.out.trans (hb.mono HL.out.size))
  clear hr hb
  go_wp2_with (first | (refine wpList_insert_row _ rfl _ _ _ _ (.inl rfl) rfl TA.out ⟨{ data := #[77, 73, 68] }, 3, 3, { data := #[115] }, false, 32⟩ v rfl rfl RF.out (fresh_of (by kernel_rfl)) Tryz.underlying36 Tryz.underlying9 ?_; intro V8 ta hg; replace TA := Lib.hid (show TableAt V8 _ (allRows.take 9) from ta); replace HL := Lib.hid (below_map HL.out (Nat.le_refl _) hg); clear ta hg RF))
  go_wp2_with fail
  refine (entry_lit { data := #[82, 69, 80, 84] } 2 2 { data := #[115] } 33 _).mono ?_
  rintro e W9 ⟨v, rfl, hr, hb⟩
  have RF := Lib.hid hr
  replace TA := Lib.hid (TA.out.below hb)
  replace HL := Lib.hid (HL.out.trans (hb.mono HL.out.size))
  clear hr hb
  go_wp2_with (first | (refine wpList_insert_row _ rfl _ _ _ _ (.inl rfl) rfl TA.out ⟨{ data := #[82, 69, 80, 84] }, 2, 2, { data := #[115] }, false, 33⟩ v rfl rfl RF.out (fresh_of (by kernel_rfl)) Tryz.underlying36 Tryz.underlying9 ?_; intro V9 ta hg; replace TA := Lib.hid (show TableAt V9 _ (allRows.take 10) from ta); replace HL := Lib.hid (below_map HL.out (Nat.le_refl _) hg); clear ta hg RF))
  go_wp2_with fail
  refine (entry_lit { data := #[69, 88, 65, 67, 84] } 2 2 { data := #[115] } 34 _).mono ?_
  rintro e W10 ⟨v, rfl, hr, hb⟩
  have RF := Lib.hid hr
  replace TA := Lib.hid (TA.out.below hb)
  replace HL := Lib.hid (HL.out.trans (hb.mono HL.out.size))
  clear hr hb
  go_wp2_with (first | (refine wpList_insert_row _ rfl _ _ _ _ (.inl rfl) rfl TA.out ⟨{ data := #[69, 88, 65, 67, 84] }, 2, 2, { data := #[115] }, false, 34⟩ v rfl rfl RF.out (fresh_of (by kernel_rfl)) Tryz.underlying36 Tryz.underlying9 ?_; intro V10 ta hg; replace TA := Lib.hid (show TableAt V10 _ (allRows.take 11) from ta); replace HL := Lib.hid (below_map HL.out (Nat.le_refl _) hg); clear ta hg RF))
  go_wp2_with fail
  refine (entry_lit { data := #[70, 73, 78, 68] } 2 3 { data := #[115] } 36 _).mono ?_
  rintro e W11 ⟨v, rfl, hr, hb⟩
  have RF := Lib.hid hr
  replace TA := Lib.hid (TA.out.below hb)
  replace HL := Lib.hid (HL.out.trans (hb.mono HL.out.size))
  clear hr hb
  go_wp2_with (first | (refine wpList_insert_row _ rfl _ _ _ _ (.inl rfl) rfl TA.out ⟨{ data := #[70, 73, 78, 68] }, 2, 3, { data := #[115] }, false, 36⟩ v rfl rfl RF.out (fresh_of (by kernel_rfl)) Tryz.underlying36 Tryz.underlying9 ?_; intro V11 ta hg; replace TA := Lib.hid (show TableAt V11 _ (allRows.take 12) from ta); replace HL := Lib.hid (below_map HL.out (Nat.le_refl _) hg); clear ta hg RF))
  go_wp2_with fail
  refine (entry_lit { data := #[83, 69, 65, 82, 67, 72] } 2 3 { data := #[115] } 39 _).mono ?_
  rintro e W12 ⟨v, rfl, hr, hb⟩
  have RF := Lib.hid hr
  replace TA := Lib.hid (TA.out.below hb)
  replace HL := Lib.hid (HL.out.trans (hb.mono HL.out.size))
  clear hr hb
  go_wp2_with (first | (refine wpList_insert_row _ rfl _ _ _ _ (.inl rfl) rfl TA.out ⟨{ data := #[83, 69, 65, 82, 67, 72] }, 2, 3, { data := #[115] }, false, 39⟩ v rfl rfl RF.out (fresh_of (by kernel_rfl)) Tryz.underlying36 Tryz.underlying9 ?_; intro V12 ta hg; replace TA := Lib.hid (show TableAt V12 _ (allRows.take 13) from ta); replace HL := Lib.hid (below_map HL.out (Nat.le_refl _) hg); clear ta hg RF))
  go_wp2_with fail
  refine (entry_lit { data := #[82, 69, 80, 76, 65, 67, 69] } 4 4 { data := #[115] } 41 _).mono ?_
  rintro e W13 ⟨v, rfl, hr, hb⟩
  have RF := Lib.hid hr
  replace TA := Lib.hid (TA.out.below hb)
  replace HL := Lib.hid (HL.out.trans (hb.mono HL.out.size))
  clear hr hb
  go_wp2_with (first | (refine wpList_insert_row _ rfl _ _ _ _ (.inl rfl) rfl TA.out ⟨{ data := #[82, 69, 80, 76, 65, 67, 69] }, 4, 4, { data := #[115] }, false, 41⟩ v rfl rfl RF.out (fresh_of (by kernel_rfl)) Tryz.underlying36 Tryz.underlying9 ?_; intro V13 ta hg; replace TA := Lib.hid (show TableAt V13 _ (allRows.take 14) from ta); replace HL := Lib.hid (below_map HL.out (Nat.le_refl _) hg); clear ta hg RF))
  go_wp2_with fail
  refine (entry_lit { data := #[83, 85, 66, 83, 84, 73, 84, 85, 84, 69] } 3 4 { data := #[115] } 42 _).mono ?_
  rintro e W14 ⟨v, rfl, hr, hb⟩
  have RF := Lib.hid hr
  replace TA := Lib.hid (TA.out.below hb)
  replace HL := Lib.hid (HL.out.trans (hb.mono HL.out.size))
  clear hr hb
  go_wp2_with (first | (refine wpList_insert_row _ rfl _ _ _ _ (.inl rfl) rfl TA.out ⟨{ data := #[83, 85, 66, 83, 84, 73, 84, 85, 84, 69] }, 3, 4, { data := #[115] }, false, 42⟩ v rfl rfl RF.out (fresh_of (by kernel_rfl)) Tryz.underlying36 Tryz.underlying9 ?_; intro V14 ta hg; replace TA := Lib.hid (show TableAt V14 _ (allRows.take 15) from ta); replace HL := Lib.hid (below_map HL.out (Nat.le_refl _) hg); clear ta hg RF))
  go_wp2_with fail
  refine (code_row _).mono ?_
  rintro e W15 ⟨v, rfl, hrn, hb⟩
  have hr := hrn { data := #[67, 79, 68, 69] }
  clear hrn
  have RF := Lib.hid hr
  replace TA := Lib.hid (TA.out.below hb)
  replace HL := Lib.hid (HL.out.trans (hb.mono HL.out.size))
  clear hr hb
  go_wp2_with (first | (refine wpList_insert_row _ rfl _ _ _ _ (.inl rfl) rfl TA.out ⟨{ data := #[67, 79, 68, 69] }, 1, 1, { data := #[115] }, false, 120⟩ v rfl rfl RF.out (fresh_of (by kernel_rfl)) Tryz.underlying36 Tryz.underlying9 ?_; intro V15 ta hg; replace TA := Lib.hid (show TableAt V15 _ (allRows.take 16) from ta); replace HL := Lib.hid (below_map HL.out (Nat.le_refl _) hg); clear ta hg RF))
  go_wp2_with fail
  refine (code_row _).mono ?_
  rintro e W16 ⟨v, rfl, hrn, hb⟩
  have hr := hrn { data := #[85, 78, 73, 67, 79, 68, 69] }
  clear hrn
  have RF := Lib.hid hr
  replace TA := Lib.hid (TA.out.below hb)
  replace HL := Lib.hid (HL.out.trans (hb.mono HL.out.size))
  clear hr hb
  go_wp2_with (first | (refine wpList_insert_row _ rfl _ _ _ _ (.inl rfl) rfl TA.out ⟨{ data := #[85, 78, 73, 67, 79, 68, 69] }, 1, 1, { data := #[115] }, false, 120⟩ v rfl rfl RF.out (fresh_of (by kernel_rfl)) Tryz.underlying36 Tryz.underlying9 ?_; intro V16 ta hg; replace TA := Lib.hid (show TableAt V16 _ (allRows.take 17) from ta); replace HL := Lib.hid (below_map HL.out (Nat.le_refl _) hg); clear ta hg RF))
  go_wp2_with fail
  refine (char_row _).mono ?_
  rintro e W17 ⟨v, rfl, hrn, hb⟩
  have hr := hrn { data := #[67, 72, 65, 82] }
  clear hrn
  have RF := Lib.hid hr
  replace TA := Lib.hid (TA.out.below hb)
  replace HL := Lib.hid (HL.out.trans (hb.mono HL.out.size))
  clear hr hb
  go_wp2_with (first | (refine wpList_insert_row _ rfl _ _ _ _ (.inl rfl) rfl TA.out ⟨{ data := #[67, 72, 65, 82] }, 1, 1, { data := #[115] }, false, 122⟩ v rfl rfl RF.out (fresh_of (by kernel_rfl)) Tryz.underlying36 Tryz.underlying9 ?_; intro V17 ta hg; replace TA := Lib.hid (show TableAt V17 _ (allRows.take 18) from ta); replace HL := Lib.hid (below_map HL.out (Nat.le_refl _) hg); clear ta hg RF))
  go_wp2_with fail
  refine (char_row _).mono ?_
  rintro e W18 ⟨v, rfl, hrn, hb⟩
  have hr := hrn { data := #[85, 78, 73, 67, 72, 65, 82] }
  clear hrn
  have RF := Lib.hid hr
  replace TA := Lib.hid (TA.out.below hb)
  replace HL := Lib.hid (HL.out.trans (hb.mono HL.out.size))
  clear hr hb
  go_wp2_with (first | (refine wpList_insert_row _ rfl _ _ _ _ (.inl rfl) rfl TA.out ⟨{ data := #[85, 78, 73, 67, 72, 65, 82] }, 1, 1, { data := #[115] }, false, 122⟩ v rfl rfl RF.out (fresh_of (by kernel_rfl)) Tryz.underlying36 Tryz.underlying9 ?_; intro V18 ta hg; replace TA := Lib.hid (show TableAt V18 _ (allRows.take 19) from ta); replace HL := Lib.hid (below_map HL.out (Nat.le_refl _) hg); clear ta hg RF))
  go_wp2_with fail
  refine (entry_lit { data := #[86, 65, 76, 85, 69] } 1 1 { data := #[115] } 45 _).mono ?_
  rintro e W19 ⟨v, rfl, hr, hb⟩
  have RF := Lib.hid hr
  replace TA := Lib.hid (TA.out.below hb)
  replace HL := Lib.hid (HL.out.trans (hb.mono HL.out.size))
  clear hr hb
  go_wp2_with (first | (refine wpList_insert_row _ rfl _ _ _ _ (.inl rfl) rfl TA.out ⟨{ data := #[86, 65, 76, 85, 69] }, 1, 1, { data := #[115] }, false, 45⟩ v rfl rfl RF.out (fresh_of (by kernel_rfl)) Tryz.underlying36 Tryz.underlying9 ?_; intro V19 ta hg; replace TA := Lib.hid (show TableAt V19 _ (allRows.take 20) from ta); replace HL := Lib.hid (below_map HL.out (Nat.le_refl _) hg); clear ta hg RF))
  go_wp2_with fail
  refine (entry_lit { data := #[84] } 1 1 { data := #[115] } 48 _).mono ?_
  rintro e W20 ⟨v, rfl, hr, hb⟩
  have RF := Lib.hid hr
  replace TA := Lib.hid (TA.out.below hb)
  replace HL := Lib.hid (HL.out.trans (hb.mono HL.out.size))
  clear hr hb
  go_wp2_with (first | (refine wpList_insert_row _ rfl _ _ _ _ (.inl rfl) rfl TA.out ⟨{ data := #[84] }, 1, 1, { data := #[115] }, false, 48⟩ v rfl rfl RF.out (fresh_of (by kernel_rfl)) Tryz.underlying36 Tryz.underlying9 ?_; intro V20 ta hg; replace TA := Lib.hid (show TableAt V20 _ (allRows.take 21) from ta); replace HL := Lib.hid (below_map HL.out (Nat.le_refl _) hg); clear ta hg RF))
  go_wp2_with fail
  refine (entry_lit { data := #[70, 73, 88, 69, 68] } 1 3 { data := #[115] } 49 _).mono ?_
  rintro e W21 ⟨v, rfl, hr, hb⟩
  have RF := Lib.hid hr
  replace TA := Lib.hid (TA.out.below hb)
  replace HL := Lib.hid (HL.out.trans (hb.mono HL.out.size))
  clear hr hb
  go_wp2_with (first | (refine wpList_insert_row _ rfl _ _ _ _ (.inl rfl) rfl TA.out ⟨{ data := #[70, 73, 88, 69, 68] }, 1, 3, { data := #[115] }, false, 49⟩ v rfl rfl RF.out (fresh_of (by kernel_rfl)) Tryz.underlying36 Tryz.underlying9 ?_; intro V21 ta hg; replace TA := Lib.hid (show TableAt V21 _ (allRows.take 22) from ta); replace HL := Lib.hid (below_map HL.out (Nat.le_refl _) hg); clear ta hg RF))
  go_wp2_with fail
  refine (entry_lit { data := #[84, 69, 88, 84] } 2 2 { data := #[115] } 50 _).mono ?_
  rintro e W22 ⟨v, rfl, hr, hb⟩
  have RF := Lib.hid hr
  replace TA := Lib.hid (TA.out.below hb)
  replace HL := Lib.hid (HL.out.trans (hb.mono HL.out.size))
  clear hr hb
  go_wp2_with (first | (refine wpList_insert_row _ rfl _ _ _ _ (.inl rfl) rfl TA.out ⟨{ data := #[84, 69, 88, 84] }, 2, 2, { data := #[115] }, false, 50⟩ v rfl rfl RF.out (fresh_of (by kernel_rfl)) Tryz.underlying36 Tryz.underlying9 ?_; intro V22 ta hg; replace TA := Lib.hid (show TableAt V22 _ (allRows.take 23) from ta); replace HL := Lib.hid (below_map HL.out (Nat.le_refl _) hg); clear ta hg RF))
  go_wp2_with fail
  refine (entry_lit { data := #[67, 79, 78, 67, 65, 84] } 1 255 { data := #[97] } 51 _).mono ?_
  rintro e W23 ⟨v, rfl, hr, hb⟩
  have RF := Lib.hid hr
  replace TA := Lib.hid (TA.out.below hb)
  replace HL := Lib.hid (HL.out.trans (hb.mono HL.out.size))
  clear hr hb
  go_wp2_with (first | (refine wpList_insert_row _ rfl _ _ _ _ (.inl rfl) rfl TA.out ⟨{ data := #[67, 79, 78, 67, 65, 84] }, 1, 255, { data := #[97] }, false, 51⟩ v rfl rfl RF.out (fresh_of (by kernel_rfl)) Tryz.underlying36 Tryz.underlying9 ?_; intro V23 ta hg; replace TA := Lib.hid (show TableAt V23 _ (allRows.take 24) from ta); replace HL := Lib.hid (below_map HL.out (Nat.le_refl _) hg); clear ta hg RF))
  go_wp2_with fail
  refine (entry_lit { data := #[67, 79, 78, 67, 65, 84, 69, 78, 65, 84, 69] } 1 255 { data := #[115] } 55 _).mono ?_
  rintro e W24 ⟨v, rfl, hr, hb⟩
  have RF := Lib.hid hr
  replace TA := Lib.hid (TA.out.below hb)
  replace HL := Lib.hid (HL.out.trans (hb.mono HL.out.size))
  clear hr hb
  go_wp2_with (first | (refine wpList_insert_row _ rfl _ _ _ _ (.inl rfl) rfl TA.out ⟨{ data := #[67, 79, 78, 67, 65, 84, 69, 78, 65, 84, 69] }, 1, 255, { data := #[115] }, false, 55⟩ v rfl rfl RF.out (fresh_of (by kernel_rfl)) Tryz.underlying36 Tryz.underlying9 ?_; intro V24 ta hg; replace TA := Lib.hid (show TableAt V24 _ (allRows.take 25) from ta); replace HL := Lib.hid (below_map HL.out (Nat.le_refl _) hg); clear ta hg RF))
  go_wp2_with fail
  refine (entry_lit { data := #[84, 69, 88, 84, 74, 79, 73, 78] } 3 255 { data := #[115, 115, 97] } 56 _).mono ?_
  rintro e W25 ⟨v, rfl, hr, hb⟩
  have RF := Lib.hid hr
  replace TA := Lib.hid (TA.out.below hb)
  replace HL := Lib.hid (HL.out.trans (hb.mono HL.out.size))
  clear hr hb
  go_wp2_with (first | (refine wpList_insert_row _ rfl _ _ _ _ (.inl rfl) rfl TA.out ⟨{ data := #[84, 69, 88, 84, 74, 79, 73, 78] }, 3, 255, { data := #[115, 115, 97] }, false, 56⟩ v rfl rfl RF.out (fresh_of (by kernel_rfl)) Tryz.underlying36 Tryz.underlying9 ?_; intro V25 ta hg; replace TA := Lib.hid (show TableAt V25 _ (allRows.take 26) from ta); replace HL := Lib.hid (below_map HL.out (Nat.le_refl _) hg); clear ta hg RF))
  go_wp2_with fail
  refine (entry_lit { data := #[84, 69, 88, 84, 83, 80, 76, 73, 84] } 2 3 { data := #[115] } 57 _).mono ?_
  rintro e W26 ⟨v, rfl, hr, hb⟩
  have RF := Lib.hid hr
  replace TA := Lib.hid (TA.out.below hb)
  replace HL := Lib.hid (HL.out.trans (hb.mono HL.out.size))
  clear hr hb
  go_wp2_with (first | (refine wpList_insert_row _ rfl _ _ _ _ (.inl rfl) rfl TA.out ⟨{ data := #[84, 69, 88, 84, 83, 80, 76, 73, 84] }, 2, 3, { data := #[115] }, false, 57⟩ v rfl rfl RF.out (fresh_of (by kernel_rfl)) Tryz.underlying36 Tryz.underlying9 ?_; intro V26 ta hg; replace TA := Lib.hid (show TableAt V26 _ (allRows.take 27) from ta); replace HL := Lib.hid (below_map HL.out (Nat.le_refl _) hg); clear ta hg RF))
  go_wp2_with fail
  refine (entry_lit { data := #[84, 69, 88, 84, 66, 69, 70, 79, 82, 69] } 2 3 { data := #[115] } 58 _).mono ?_
  rintro e W27 ⟨v, rfl, hr, hb⟩
  have RF := Lib.hid hr
  replace TA := Lib.hid (TA.out.below hb)
  replace HL := Lib.hid (HL.out.trans (hb.mono HL.out.size))
  clear hr hb
  go_wp2_with (first | (refine wpList_insert_row _ rfl _ _ _ _ (.inl rfl) rfl TA.out ⟨{ data := #[84, 69, 88, 84, 66, 69, 70, 79, 82, 69] }, 2, 3, { data := #[115] }, false, 58⟩ v rfl rfl RF.out (fresh_of (by kernel_rfl)) Tryz.underlying36 Tryz.underlying9 ?_; intro V27 ta hg; replace TA := Lib.hid (show TableAt V27 _ (allRows.take 28) from ta); replace HL := Lib.hid (below_map HL.out (Nat.le_refl _) hg); clear ta hg RF))
  go_wp2_with fail
  refine (entry_lit { data := #[84, 69, 88, 84, 65, 70, 84, 69, 82] } 2 3 { data := #[115] } 60 _).mono ?_
  rintro e W28 ⟨v, rfl, hr, hb⟩
  have RF := Lib.hid hr
  replace TA := Lib.hid (TA.out.below hb)
  replace HL := Lib.hid (HL.out.trans (hb.mono HL.out.size))
  clear hr hb
  go_wp2_with (first | (refine wpList_insert_row _ rfl _ _ _ _ (.inl rfl) rfl TA.out ⟨{ data := #[84, 69, 88, 84, 65, 70, 84, 69, 82] }, 2, 3, { data := #[115] }, false, 60⟩ v rfl rfl RF.out (fresh_of (by kernel_rfl)) Tryz.underlying36 Tryz.underlying9 ?_; intro V28 ta hg; replace TA := Lib.hid (show TableAt V28 _ (allRows.take 29) from ta); replace HL := Lib.hid (below_map HL.out (Nat.le_refl _) hg); clear ta hg RF))
  go_wp2
  go_ret
  exact ⟨_, rfl, TA.out, HL.out⟩

end Go.Proofs.YtnlaecjniellpaaGreatDoor.Num.Fx

/- package value: the closure that Run hands to Lift, at ftext. Conditions: the tables lie as they are laid. -/
namespace Go.Proofs.YtnlaecjniellpaaGreatDoor.Num.Fx
open Go.RowKit Go.Lib Go.MapKept Num

set_option maxHeartbeats 4000000 in
set_option maxRecDepth 100000 in
theorem run1_value (pb f e : Nat) (sl : Value) (k : Int) (n d t : ByteArray) (on : Bool) (c : Int) (A : Option Addr) (L C : Nat) (w : World) (hs : ∃ a l c, sl = .slice a l c) (hc : w.cell? ⟨pb, 3, none⟩ = some (.func (.func 101) #[] #[.pointer (some ⟨e, 0, none⟩)])) (hE : Env w)
    (hF : ∀ W, Below w.heap.size w W → Calls Tryz.prog 101 #[sl, .pointer (some ⟨e, 0, none⟩)] W fun e w' => e = .returned (.agg #[.int .i64 k, .string n, .string d, .string t, .bool on, .int .i64 c, .int .i64 0, .int .i64 0, .slice A L C]) ∧ Below W.heap.size W w') :
    Calls Tryz.prog 17 #[sl, .pointer (some ⟨pb, 0, none⟩)] w fun e w' => e = .returned (.agg #[.int .i64 k, .string n, .string d, .string t, .bool on, .int .i64 c, .int .i64 0, .int .i64 0, .slice A L C]) ∧ Below w.heap.size w w' := by
  obtain ⟨sa, slen, sc, rfl⟩ := hs
  have hmf : ∀ (fn : Fn) (first cap : Array Value) (w : World), (Instr.makeFunc fn first cap).run Tryz.prog w = .ok (.func fn first cap) w := fun _ _ _ _ => rfl
  have hb : Below w.heap.size w (w.alloc (.cells #[.int .i64 0, .string { data := #[] }, .string { data := #[] }, .string { data := #[] }, .bool false, .int .i64 0, .int .i64 0, .int .i64 0, .slice none 0 0] 27)) := (Below.refl _ _).alloc (Nat.le_refl _) _
  have HR := Lib.hid (heap_alloc_new w (.cells #[.int .i64 0, .string { data := #[] }, .string { data := #[] }, .string { data := #[] }, .bool false, .int .i64 0, .int .i64 0, .int .i64 0, .slice none 0 0] 27))
  have HX := Lib.hid (cell_below hc hb)
  have HL := Lib.hid hb
  have HE := Lib.hid (hE.below hb)
  have TF := Lib.hid (hF _ hb)
  clear hb hc hE hF
  obtain x3 := HX.out
  go_enter_defers Tryz.func17, Tryz.ntmps17
  go_wp2_with fail
  refine TF.out.mono ?_
  rintro e w1 ⟨rfl, hb⟩
  replace HR := Lib.hid (keep_block HR.out hb)
  replace HE := Lib.hid (HE.out.below hb)
  replace HL := Lib.hid (HL.out.trans (hb.mono HL.out.size))
  clear hb
  obtain ⟨⟨r0, r1, r2, r3, r4, r5, r6, r7, r8⟩, g0, g1, g2, g3, g4, g5, g6, g7, g8⟩ := nine_at HR.out
  have HR2 := Lib.hid (set9_at HR.out (.int .i64 k) (.string n) (.string d) (.string t) (.bool on) (.int .i64 c) (.int .i64 0) (.int .i64 0) (.slice A L C))
  have HL2 := Lib.hid (nine_end (x0 := (.int .i64 k)) (x1 := (.string n)) (x2 := (.string d)) (x3 := (.string t)) (x4 := (.bool on)) (x5 := (.int .i64 c)) (x6 := (.int .i64 0)) (x7 := (.int .i64 0)) (x8 := (.slice A L C)) HR.out HL.out (Nat.le_refl _)).1
  go_wp2_with fail
  obtain ⟨W2, hW2⟩ : ∃ W2, (((((((((w1.setCell ⟨w.heap.size, 0, none⟩ (.int .i64 k)).setCell ⟨w.heap.size, 1, none⟩ (.string n)).setCell ⟨w.heap.size, 2, none⟩ (.string d)).setCell ⟨w.heap.size, 3, none⟩ (.string t)).setCell ⟨w.heap.size, 4, none⟩ (.bool on)).setCell ⟨w.heap.size, 5, none⟩ (.int .i64 c)).setCell ⟨w.heap.size, 6, none⟩ (.int .i64 0)).setCell ⟨w.heap.size, 7, none⟩ (.int .i64 0)).setCell ⟨w.heap.size, 8, none⟩ (.slice A L C)) = W2 := ⟨_, rfl⟩
  rw [hW2] at HR2 HL2 ⊢
  clear hW2 r0 r1 r2 r3 r4 r5 r6 r7 r8 g0 g1 g2 g3 g4 g5 g6 g7 g8
  obtain ⟨⟨r0, r1, r2, r3, r4, r5, r6, r7, r8⟩, g0, g1, g2, g3, g4, g5, g6, g7, g8⟩ := nine_at HR2.out
  go_quiet (fail)
  have HR3 := Lib.hid (show (W2.drewN nq).heap[w.heap.size]? = _ from HR2.out)
  obtain ⟨nb, e0, e1, e2, e3, e4, e5, e6, e7, e8⟩ := nine_end (x0 := (.int .i64 k)) (x1 := (.string n)) (x2 := (.string d)) (x3 := (.string t)) (x4 := (.bool on)) (x5 := (.int .i64 c)) (x6 := (.int .i64 0)) (x7 := (.int .i64 0)) (x8 := (.slice A L C)) HR3.out (below_drewN HL2.out nq) (Nat.le_refl _)
  go_wp2
  refine leaves_cons (f := 18) (args := #[.pointer (some ⟨w.heap.size, 0, none⟩)]) (by simp) (by simp [go_sem]) ?_
  refine (idle_any _ _).mono ?_
  rintro e u' w3 ⟨rfl, rfl, rfl⟩
  exact ⟨_, (by simp [results, Tryz.results17, go_sem, e0, e1, e2, e3, e4, e5, e6, e7, e8]), rfl, nb⟩
end Go.Proofs.YtnlaecjniellpaaGreatDoor.Num.Fx

/- package value: Run at a row of ftext's table. Conditions: the tables lie as they are laid. -/
namespace Go.Proofs.YtnlaecjniellpaaGreatDoor.Num.Fx
open Go.RowKit Go.Lib Go.MapKept Num

/-- cell e holds the row's function, wrapped or bare -/
def FnAt (W : World) (e : Nat) (r : Row) : Prop :=
  if r.num then ∃ f, W.cell? ⟨e, 0, none⟩ = some (.func (.func 105) #[] #[.pointer (some ⟨f, 0, none⟩)]) ∧ W.cell? ⟨f, 0, none⟩ = some (.func (.func r.fn) #[] #[])
  else W.cell? ⟨e, 0, none⟩ = some (.func (.func r.fn) #[] #[])
theorem rowFn_at {w : World} {v : Value} {r : Row} (h : RowFn w v r) : ∃ e, v = .func (.func 101) #[] #[.pointer (some ⟨e, 0, none⟩)] ∧ FnAt w e r := by
  unfold RowFn at h
  unfold FnAt
  split at h
  · rename_i hn
    obtain ⟨e, f, h1, h2, h3⟩ := h
    exact ⟨e, h1, by rw [if_pos hn]; exact ⟨f, h2, h3⟩⟩
  · rename_i hn
    obtain ⟨e, h1, h2⟩ := h
    exact ⟨e, h1, by rw [if_neg hn]; exact h2⟩
theorem FnAt.below {w w' : World} {e : Nat} {r : Row} (h : FnAt w e r) (hb : Below w.heap.size w w') : FnAt w' e r := by
  unfold FnAt at h ⊢
  split at h
  · rename_i hn
    obtain ⟨f, h1, h2⟩ := h
    rw [if_pos hn]
    exact ⟨f, cell_below h1 hb, cell_below h2 hb⟩
  · rename_i hn
    rw [if_neg hn]
    exact cell_below h hb
attribute [local go_sem] run_store_func

set_option maxHeartbeats 8000000 in
set_option maxRecDepth 100000 in
theorem run_s_val (i : Nat) (r : Row) (hi : i < allRows.length) (hr : allRows[i] = r) (hkd : r.kinds = { data := #[115] }) (hfr : ∀ j (hj : j < i), (allRows[i].name == (allRows[j]'(by omega)).name) = false) (vs : List Val) (b ab ao C : Nat) (q : Val) (w : World) (h0 : 0 < vs.length) (h9 : vs.length ≤ 300) (hc1 : r.least ≤ vs.length) (hc2 : (vs.length : Int) ≤ r.most) (hno : ∀ v ∈ vs, (v.k == 5) = false) (hv : ValsAt w ab ao vs) (hE : Env w) (hT : TableAt w b allRows) (hq : q.A = none ∧ q.L = 0 ∧ q.C = 0 ∧ q.r = 0 ∧ q.s = 0)
    (hO : ∀ W, Env W → Calls Tryz.prog 97 #[q.agg] W fun e w' => e = .returned (.int .i64 0) ∧ Below W.heap.size W w') 
    (hC : ∀ v ∈ vs, ∀ W, Below w.heap.size w W → Calls Tryz.prog 97 #[v.agg] W fun e w' => e = .returned (.int .i64 0) ∧ Below W.heap.size W w')
    (hK : ∀ W e g cap, Below w.heap.size w W → Env W → FnAt W e r → ValsAt W g 0 vs → Calls Tryz.prog 101 #[.slice (some ⟨g, 0, none⟩) vs.length cap, .pointer (some ⟨e, 0, none⟩)] W fun e w' => e = .returned q.agg ∧ Below W.heap.size W w') :
    Calls Tryz.prog 11 #[.map (some b), .string r.name, .slice (some ⟨ab, ao, none⟩) vs.length C] w fun e w' => e = .returned (.tuple #[(q).agg, .int .i64 0]) ∧ Below w.heap.size w w' := by
  have hb : Below w.heap.size w (w.alloc (.cells #[.int .i64 0, .string { data := #[] }, .string { data := #[] }, .string { data := #[] }, .bool false, .int .i64 0, .int .i64 0, .int .i64 0, .slice none 0 0] 27)) := (Below.refl _ _).alloc (Nat.le_refl _) _
  have HR := Lib.hid (heap_alloc_new w (.cells #[.int .i64 0, .string { data := #[] }, .string { data := #[] }, .string { data := #[] }, .bool false, .int .i64 0, .int .i64 0, .int .i64 0, .slice none 0 0] 27))
  obtain ⟨v, hrf, hrun⟩ := (hT.below hb).look i hi hfr Tryz.underlying36 Tryz.underlying9
  rw [hr] at hrf hrun
  obtain ⟨e0, rfl, hfn⟩ := rowFn_at hrf
  obtain ⟨name, least, most, kinds, num, F⟩ := r
  simp only at hkd hc1 hc2
  subst hkd
  simp only at hrun ⊢
  have HV := Lib.hid (hv.below hb)
  have HE := Lib.hid (hE.below hb)
  have HL := Lib.hid hb
  have HFN := Lib.hid hfn
  have d1 : decide ((vs.length : Int) < least) = false := decide_eq_false (by omega)
  have d2 : decide (most < (vs.length : Int)) = false := decide_eq_false (by omega)
  have hmf : ∀ (fn : Fn) (first cap : Array Value) (w : World), (Instr.makeFunc fn first cap).run Tryz.prog w = .ok (.func fn first cap) w := fun _ _ _ _ => rfl
  have hb : Below (w.alloc (.cells #[.int .i64 0, .string { data := #[] }, .string { data := #[] }, .string { data := #[] }, .bool false, .int .i64 0, .int .i64 0, .int .i64 0, .slice none 0 0] 27)).heap.size (w.alloc (.cells #[.int .i64 0, .string { data := #[] }, .string { data := #[] }, .string { data := #[] }, .bool false, .int .i64 0, .int .i64 0, .int .i64 0, .slice none 0 0] 27)) ((w.alloc (.cells #[.int .i64 0, .string { data := #[] }, .string { data := #[] }, .string { data := #[] }, .bool false, .int .i64 0, .int .i64 0, .int .i64 0, .slice none 0 0] 27)).alloc (.cells #[.int .i64 least, .int .i64 most, .string { data := #[115] }, .func (.func 101) #[] #[.pointer (some ⟨e0, 0, none⟩)]] 44)) := (Below.refl _ _).alloc (Nat.le_refl _) _
  have HX := Lib.hid (Lib.cell_of_heap (heap_alloc_new (w.alloc (.cells #[.int .i64 0, .string { data := #[] }, .string { data := #[] }, .string { data := #[] }, .bool false, .int .i64 0, .int .i64 0, .int .i64 0, .slice none 0 0] 27)) (.cells #[.int .i64 least, .int .i64 most, .string { data := #[115] }, .func (.func 101) #[] #[.pointer (some ⟨e0, 0, none⟩)]] 44)) 3)
  replace HR := Lib.hid (keep_block HR.out hb)
  replace HV := Lib.hid (HV.out.below hb)
  replace HE := Lib.hid (HE.out.below hb)
  replace HL := Lib.hid (HL.out.trans (hb.mono HL.out.size))
  replace HFN := Lib.hid (HFN.out.below hb)
  have hpos : (w.alloc (.cells #[.int .i64 0, .string { data := #[] }, .string { data := #[] }, .string { data := #[] }, .bool false, .int .i64 0, .int .i64 0, .int .i64 0, .slice none 0 0] 27)).heap.size = w.heap.size + 1 := by simp
  rw [hpos] at HX
  have TL := Lib.hid (lift_s vs ab ao C (w.heap.size + 1) (q) ((w.alloc (.cells #[.int .i64 0, .string { data := #[] }, .string { data := #[] }, .string { data := #[] }, .bool false, .int .i64 0, .int .i64 0, .int .i64 0, .slice none 0 0] 27)).alloc (.cells #[.int .i64 least, .int .i64 most, .string { data := #[115] }, .func (.func 101) #[] #[.pointer (some ⟨e0, 0, none⟩)]] 44)) h0 h9 hno HV.out HE.out ⟨hq.1, hq.2.1, hq.2.2.1⟩
    (fun v hv W h => hC v hv W (HL.out.trans (h.mono HL.out.size))) (hO)
    (fun W g cap hbw hva => by
      have h := run1_value (w.heap.size + 1) 0 e0 (.slice (some ⟨g, 0, none⟩) vs.length cap) q.k q.n q.d q.t q.on q.c q.A q.L q.C W ⟨_, _, _, rfl⟩ (cell_below HX.out hbw) (HE.out.below hbw) (fun W' hb' => by
        have h2 := hK W' e0 g cap (HL.out.trans ((hbw.trans (hb'.mono hbw.size)).mono HL.out.size)) (HE.out.below (hbw.trans (hb'.mono hbw.size))) (HFN.out.below (hbw.trans (hb'.mono hbw.size))) (hva.below hb')
        unfold Val.agg at h2
        rw [hq.2.2.2.1, hq.2.2.2.2] at h2
        exact h2)
      unfold Val.agg
      rw [hq.2.2.2.1, hq.2.2.2.2]
      exact h))
  obtain ⟨qq, hqq⟩ : ∃ z, (q) = z := ⟨_, rfl⟩
  rw [hqq] at TL ⊢
  clear hqq hb hv hE hT hC hK hrf hfn hpos hfr hr hi h0 h9 hc1 hc2
  go_enter Tryz.func11, Tryz.ntmps11
  unfold Val.agg at TL ⊢
  go_wp2_with fail
  refine TL.out.mono ?_
  rintro e w2 ⟨rfl, hb2⟩
  replace HR := Lib.hid (keep_block HR.out hb2)
  replace HL := Lib.hid (HL.out.trans (hb2.mono HL.out.size))
  clear hb2
  obtain ⟨⟨r0, r1, r2, r3, r4, r5, r6, r7, r8⟩, g0, g1, g2, g3, g4, g5, g6, g7, g8⟩ := nine_at HR.out
  obtain ⟨nb, z0, z1, z2, z3, z4, z5, z6, z7, z8⟩ := nine_end (x0 := (.int .i64 qq.k)) (x1 := (.string qq.n)) (x2 := (.string qq.d)) (x3 := (.string qq.t)) (x4 := (.bool qq.on)) (x5 := (.int .i64 qq.c)) (x6 := (.int .i64 qq.r)) (x7 := (.int .i64 qq.s)) (x8 := (.slice qq.A qq.L qq.C)) HR.out HL.out (Nat.le_refl _)
  go_wp2
  refine bodyPost_ret (v := .tuple #[.agg #[.int .i64 qq.k, .string qq.n, .string qq.d, .string qq.t, .bool qq.on, .int .i64 qq.c, .int .i64 qq.r, .int .i64 qq.s, .slice qq.A qq.L qq.C], .int .i64 0]) (by simp [results, Tryz.results11, go_sem, z0, z1, z2, z3, z4, z5, z6, z7, z8]) rfl ⟨rfl, nb⟩

end Go.Proofs.YtnlaecjniellpaaGreatDoor.Num.Fx

/- package ftext's Call. Conditions: the tables lie as they are laid. -/
namespace Go.Proofs.YtnlaecjniellpaaGreatDoor.Num.Fx
open Go.RowKit Go.Lib Go.MapKept Num

set_option maxHeartbeats 4000000 in
set_option maxRecDepth 100000 in
theorem call_of (name : ByteArray) (sl : Value) (q : Val) (w : World) (hs : ∃ a l c, sl = .slice a l c)
    (hRun : ∀ W b, Below w.heap.size w W → TableAt W b allRows → Calls Tryz.prog 11 #[.map (some b), .string name, sl] W fun e w' => e = .returned (.tuple #[q.agg, .int .i64 0]) ∧ Below W.heap.size W w') :
    Calls Tryz.prog 7 #[.string name, sl] w fun e w' => e = .returned (.tuple #[q.agg, .int .i64 0]) ∧ Below w.heap.size w w' := by
  obtain ⟨sa, slen, sc, rfl⟩ := hs
  have hb : Below w.heap.size w (w.alloc (.cells #[.int .i64 0, .string { data := #[] }, .string { data := #[] }, .string { data := #[] }, .bool false, .int .i64 0, .int .i64 0, .int .i64 0, .slice none 0 0] 27)) := (Below.refl _ _).alloc (Nat.le_refl _) _
  have HR := Lib.hid (heap_alloc_new w (.cells #[.int .i64 0, .string { data := #[] }, .string { data := #[] }, .string { data := #[] }, .bool false, .int .i64 0, .int .i64 0, .int .i64 0, .slice none 0 0] 27))
  have HL := Lib.hid hb
  have TR := Lib.hid hRun
  unfold Val.agg at TR ⊢
  clear hRun hb
  go_enter Tryz.func7, Tryz.ntmps7
  go_wp2_with fail
  refine (table_any _).mono ?_
  rintro e W1 ⟨b, rfl, ht, hb⟩
  have HT := Lib.hid ht
  clear ht
  replace HR := Lib.hid (keep_block HR.out hb)
  replace HL := Lib.hid (HL.out.trans (hb.mono HL.out.size))
  clear hb
  go_wp2_with fail
  refine (TR.out _ _ HL.out HT.out).mono ?_
  rintro e W2 ⟨rfl, hb⟩
  replace HR := Lib.hid (keep_block HR.out hb)
  replace HL := Lib.hid (HL.out.trans (hb.mono HL.out.size))
  clear hb
  obtain ⟨⟨r0, r1, r2, r3, r4, r5, r6, r7, r8⟩, g0, g1, g2, g3, g4, g5, g6, g7, g8⟩ := nine_at HR.out
  obtain ⟨nb, z0, z1, z2, z3, z4, z5, z6, z7, z8⟩ := nine_end (x0 := (.int .i64 q.k)) (x1 := (.string q.n)) (x2 := (.string q.d)) (x3 := (.string q.t)) (x4 := (.bool q.on)) (x5 := (.int .i64 q.c)) (x6 := (.int .i64 q.r)) (x7 := (.int .i64 q.s)) (x8 := (.slice q.A q.L q.C)) HR.out HL.out (Nat.le_refl _)
  go_wp2
  refine bodyPost_ret (v := .tuple #[.agg #[.int .i64 q.k, .string q.n, .string q.d, .string q.t, .bool q.on, .int .i64 q.c, .int .i64 q.r, .int .i64 q.s, .slice q.A q.L q.C], .int .i64 0]) (by simp [results, Tryz.results7, go_sem, z0, z1, z2, z3, z4, z5, z6, z7, z8]) rfl ⟨rfl, nb⟩

end Go.Proofs.YtnlaecjniellpaaGreatDoor.Num.Fx

/- package ftext: LOWER at texts of visible signs. Conditions: the tables lie as they are laid. -/
namespace Go.Proofs.YtnlaecjniellpaaGreatDoor.Num.Fx
open Go.RowKit Go.Lib Go.MapKept Num

theorem cell_kept1 {w w' : World} {f b : Nat} {v : Value} (h : w.cell? ⟨f, 0, none⟩ = some v) (hg : w.grownBy w' (some b)) (hne : f ≠ b) (hlt : f < w.heap.size) : w'.cell? ⟨f, 0, none⟩ = some v := by
  simp only [World.cell?] at h ⊢
  rw [hg.block f hlt (fun e => hne (Option.some.inj e))]
  exact h
attribute [local irreducible] wpOp
set_option maxHeartbeats 4000000 in
set_option maxRecDepth 100000 in
theorem text1_val (b g C f : Nat) (F : FuncId) (s T : ByteArray) (w : World) (hf : w.cell? ⟨f, 0, none⟩ = some (.func (.func F) #[] #[])) (eF : ∀ args w, (callFunc F args).run Tryz.prog w = .ok (.enter F args) w) (ha : ArgsAt w b (some ⟨g, 0, none⟩) 1 C 0) (hne : g ≠ b) (hfb : f ≠ b) (hc0 : TextCells w g (0 + 0 * 9) s) (hs : Plain s) (hT : Plain T) (hF : ∀ W, Calls Tryz.prog F #[.string s] W fun e w' => e = .returned (.string T) ∧ Below W.heap.size W w') (hE : Env w) (hP : Past b) :
    Calls Tryz.prog 105 #[.pointer (some ⟨b, 0, none⟩), .pointer (some ⟨f, 0, none⟩)] w fun e w' => e = .returned (tVal T).agg ∧ w.grownBy w' (some b) := by
  have hb : Below w.heap.size w (w.alloc (.cells #[.int .i64 0, .string { data := #[] }, .string { data := #[] }, .string { data := #[] }, .bool false, .int .i64 0, .int .i64 0, .int .i64 0, .slice none 0 0] 27)) := (Below.refl _ _).alloc (Nat.le_refl _) _
  have HX := Lib.hid (heap_alloc_new w (.cells #[.int .i64 0, .string { data := #[] }, .string { data := #[] }, .string { data := #[] }, .bool false, .int .i64 0, .int .i64 0, .int .i64 0, .slice none 0 0] 27))
  have HA := Lib.hid (show ArgsAt _ b (some ⟨g, 0, none⟩) 1 C 0 from keep_block ha hb)
  have HC := Lib.hid (hc0.below hb)
  have HF := Lib.hid (cell_below hf hb)
  have HE := Lib.hid (hE.below hb)
  have HG := Lib.hid (kept_below (b := b) hb)
  have NE := Lib.hid (show w.heap.size ≠ b from Nat.ne_of_gt (heap_lt ha))
  have HFB := Lib.hid hfb
  have HP := Lib.hid hP
  have HFL : Hid (f < w.heap.size) := Lib.hid (cell_lt hf)
  have TX := Lib.hid (fun W h1 h2 h3 => argText_T b g 0 1 C 0 s hs W h1 (by decide) (by decide) hne h2 h3 hP)
  have TF := Lib.hid hF
  have TV := Lib.hid (fun W h => textV_T T hT W h)
  obtain ⟨W0, hW0⟩ : ∃ Z, (w.alloc (.cells #[.int .i64 0, .string { data := #[] }, .string { data := #[] }, .string { data := #[] }, .bool false, .int .i64 0, .int .i64 0, .int .i64 0, .slice none 0 0] 27)) = Z := ⟨_, rfl⟩
  rw [hW0] at HX HA HC HF HE HG
  have HFS := Lib.hid (show f < W0.heap.size by rw [← hW0]; have := HFL.out; simp; omega)
  have EW0 := Lib.hid hW0
  unfold Val.agg tVal
  clear hb ha hc0 hf hE hfb hP hne hs hT hF hW0 HFL
  go_enter Tryz.func105, Tryz.ntmps105
  go_upto_region 1 with fail
  rw [EW0.out]
  refine wp_region_rest 0 (fun _ a W => a = _ ∧ W = W0.drew) (by kernel_rfl) (by kernel_rfl) (Nat.zero_le _) (by kernel_rfl) ⟨rfl, rfl⟩ (fun _ _ _ _ i hi => absurd hi (Nat.not_lt_zero _)) ?_
  rintro listed a W ⟨rfl, rfl⟩ _
  have hq : Below W0.heap.size W0 W0.drew := (Below.refl _ _).drew
  replace HX := Lib.hid (keep_block HX.out hq)
  replace HA := Lib.hid (show ArgsAt _ b (some ⟨g, 0, none⟩) 1 C 0 from keep_block HA.out hq)
  replace HC := Lib.hid (HC.out.below hq)
  replace HF := Lib.hid (cell_below HF.out hq)
  replace HE := Lib.hid (HE.out.below hq)
  replace HG := Lib.hid (kept_trans HG.out (kept_below hq))
  replace HFS := Lib.hid (Nat.lt_of_lt_of_le HFS.out hq.size)
  obtain ⟨V0, hV0⟩ : ∃ Z, W0.drew = Z := ⟨_, rfl⟩
  rw [hV0] at HX HA HC HF HE HG HFS ⊢
  clear hq hV0 EW0
  show restOps _ _ _ 6 [0, 1, 2, 3, 4, 5] _ _
  refine rest_two 0 1 ⟨some 4, _, _, _, _, _⟩ ⟨some 5, _, _, _, _, _⟩ rfl rfl (by kernel_rfl) rfl rfl (fun K' hK => ?_) (fun K' hK => ?_)
  · have c0 := HF.out
    go_simp
    clear c0
    refine hK.out _ _ ?_
    refine rest_one 1 ⟨some 5, _, _, _, _, _⟩ rfl (by kernel_rfl) rfl (fun K' hK => ?_)
    go_simp
    refine hK.out _ _ ?_
    refine rest_one 2 ⟨some 6, _, _, _, _, _⟩ rfl (by kernel_rfl) rfl (fun K' hK => ?_)
    go_simp
    go_at_call 23
    (with_reducible refine (TX.out _ HA.out HC.out HE.out).mono ?_)
    rintro e V2 ⟨rfl, hx, hq⟩
    replace HF := Lib.hid (cell_kept1 HF.out hq HFB.out HFS.out)
    clear HA HC hx HFS
    replace HX := Lib.hid (kept_block HX.out hq NE.out)
    replace HE := Lib.hid (HE.out.kept hq HP.out)
    replace HG := Lib.hid (kept_trans HG.out hq)
    clear hq
    refine hK.out _ _ ?_
    refine rest_one 3 ⟨some 7, _, _, _, _, _⟩ rfl (by kernel_rfl) rfl (fun K' hK => ?_)
    go_simp
    refine (TF.out _).mono ?_
    rintro e V3 ⟨rfl, hq⟩
    clear HF
    replace HX := Lib.hid (keep_block HX.out hq)
    replace HE := Lib.hid (HE.out.below hq)
    replace HG := Lib.hid (kept_trans HG.out (kept_below hq))
    clear hq
    refine hK.out _ _ ?_
    refine rest_one 4 ⟨some 8, _, _, _, _, _⟩ rfl (by kernel_rfl) rfl (fun K' hK => ?_)
    go_simp
    go_at_call 52
    (with_reducible refine (TV.out _ HE.out).mono ?_)
    rintro e V4 ⟨rfl, hq⟩
    replace HX := Lib.hid (keep_block HX.out hq)
    replace HE := Lib.hid (HE.out.below hq)
    replace HG := Lib.hid (kept_trans HG.out (kept_below hq))
    clear hq
    refine hK.out _ _ ?_
    refine rest_one 5 ⟨none, _, _, _, _, _⟩ rfl (by kernel_rfl) rfl (fun K' hK => ?_)
    obtain ⟨⟨r0, r1, r2, r3, r4, r5, r6, r7, r8⟩, g0, g1, g2, g3, g4, g5, g6, g7, g8⟩ := nine_at HX.out
    have HFI := Lib.hid (set9_at HX.out (.int .i64 2) (.string { data := #[] }) (.string { data := #[] }) (.string T) (.bool false) (.int .i64 0) (.int .i64 0) (.int .i64 0) (.slice none 0 0))
    have HG2 := Lib.hid (kept_set9 HG.out (Nat.le_refl _) (.int .i64 2) (.string { data := #[] }) (.string { data := #[] }) (.string T) (.bool false) (.int .i64 0) (.int .i64 0) (.int .i64 0) (.slice none 0 0))
    go_simp
    refine hK.out _ _ ?_
    refine rest_end ?_
    obtain ⟨⟨z0, z1, z2, z3, z4, z5, z6, z7, z8⟩, _⟩ := nine_at HFI.out
    go_wp2
    refine bodyPost_ret (v := .agg #[.int .i64 2, .string { data := #[] }, .string { data := #[] }, .string T, .bool false, .int .i64 0, .int .i64 0, .int .i64 0, .slice none 0 0]) (by simp [results, Tryz.results105, go_sem, z0, z1, z2, z3, z4, z5, z6, z7, z8]) rfl ⟨rfl, HG2.out⟩
  · go_simp
    refine hK.out _ _ ?_
    refine rest_two 0 2 ⟨some 4, _, _, _, _, _⟩ ⟨some 6, _, _, _, _, _⟩ rfl rfl (by kernel_rfl) rfl rfl (fun K' hK => ?_) (fun K' hK => ?_)
    · have c0 := HF.out
      go_simp
      clear c0
      refine hK.out _ _ ?_
      refine rest_one 2 ⟨some 6, _, _, _, _, _⟩ rfl (by kernel_rfl) rfl (fun K' hK => ?_)
      go_simp
      go_at_call 23
      (with_reducible refine (TX.out _ HA.out HC.out HE.out).mono ?_)
      rintro e V2 ⟨rfl, hx, hq⟩
      replace HF := Lib.hid (cell_kept1 HF.out hq HFB.out HFS.out)
      clear HA HC hx HFS
      replace HX := Lib.hid (kept_block HX.out hq NE.out)
      replace HE := Lib.hid (HE.out.kept hq HP.out)
      replace HG := Lib.hid (kept_trans HG.out hq)
      clear hq
      refine hK.out _ _ ?_
      refine rest_one 3 ⟨some 7, _, _, _, _, _⟩ rfl (by kernel_rfl) rfl (fun K' hK => ?_)
      go_simp
      refine (TF.out _).mono ?_
      rintro e V3 ⟨rfl, hq⟩
      clear HF
      replace HX := Lib.hid (keep_block HX.out hq)
      replace HE := Lib.hid (HE.out.below hq)
      replace HG := Lib.hid (kept_trans HG.out (kept_below hq))
      clear hq
      refine hK.out _ _ ?_
      refine rest_one 4 ⟨some 8, _, _, _, _, _⟩ rfl (by kernel_rfl) rfl (fun K' hK => ?_)
      go_simp
      go_at_call 52
      (with_reducible refine (TV.out _ HE.out).mono ?_)
      rintro e V4 ⟨rfl, hq⟩
      replace HX := Lib.hid (keep_block HX.out hq)
      replace HE := Lib.hid (HE.out.below hq)
      replace HG := Lib.hid (kept_trans HG.out (kept_below hq))
      clear hq
      refine hK.out _ _ ?_
      refine rest_one 5 ⟨none, _, _, _, _, _⟩ rfl (by kernel_rfl) rfl (fun K' hK => ?_)
      obtain ⟨⟨r0, r1, r2, r3, r4, r5, r6, r7, r8⟩, g0, g1, g2, g3, g4, g5, g6, g7, g8⟩ := nine_at HX.out
      have HFI := Lib.hid (set9_at HX.out (.int .i64 2) (.string { data := #[] }) (.string { data := #[] }) (.string T) (.bool false) (.int .i64 0) (.int .i64 0) (.int .i64 0) (.slice none 0 0))
      have HG2 := Lib.hid (kept_set9 HG.out (Nat.le_refl _) (.int .i64 2) (.string { data := #[] }) (.string { data := #[] }) (.string T) (.bool false) (.int .i64 0) (.int .i64 0) (.int .i64 0) (.slice none 0 0))
      go_simp
      refine hK.out _ _ ?_
      refine rest_end ?_
      obtain ⟨⟨z0, z1, z2, z3, z4, z5, z6, z7, z8⟩, _⟩ := nine_at HFI.out
      go_wp2
      refine bodyPost_ret (v := .agg #[.int .i64 2, .string { data := #[] }, .string { data := #[] }, .string T, .bool false, .int .i64 0, .int .i64 0, .int .i64 0, .slice none 0 0]) (by simp [results, Tryz.results105, go_sem, z0, z1, z2, z3, z4, z5, z6, z7, z8]) rfl ⟨rfl, HG2.out⟩
    · go_simp
      go_at_call 23
      (with_reducible refine (TX.out _ HA.out HC.out HE.out).mono ?_)
      rintro e V2 ⟨rfl, hx, hq⟩
      replace HF := Lib.hid (cell_kept1 HF.out hq HFB.out HFS.out)
      clear HA HC hx HFS
      replace HX := Lib.hid (kept_block HX.out hq NE.out)
      replace HE := Lib.hid (HE.out.kept hq HP.out)
      replace HG := Lib.hid (kept_trans HG.out hq)
      clear hq
      refine hK.out _ _ ?_
      refine rest_one 0 ⟨some 4, _, _, _, _, _⟩ rfl (by kernel_rfl) rfl (fun K' hK => ?_)
      have c0 := HF.out
      go_simp
      clear c0
      refine hK.out _ _ ?_
      refine rest_one 3 ⟨some 7, _, _, _, _, _⟩ rfl (by kernel_rfl) rfl (fun K' hK => ?_)
      go_simp
      refine (TF.out _).mono ?_
      rintro e V3 ⟨rfl, hq⟩
      clear HF
      replace HX := Lib.hid (keep_block HX.out hq)
      replace HE := Lib.hid (HE.out.below hq)
      replace HG := Lib.hid (kept_trans HG.out (kept_below hq))
      clear hq
      refine hK.out _ _ ?_
      refine rest_one 4 ⟨some 8, _, _, _, _, _⟩ rfl (by kernel_rfl) rfl (fun K' hK => ?_)
      go_simp
      go_at_call 52
      (with_reducible refine (TV.out _ HE.out).mono ?_)
      rintro e V4 ⟨rfl, hq⟩
      replace HX := Lib.hid (keep_block HX.out hq)
      replace HE := Lib.hid (HE.out.below hq)
      replace HG := Lib.hid (kept_trans HG.out (kept_below hq))
      clear hq
      refine hK.out _ _ ?_
      refine rest_one 5 ⟨none, _, _, _, _, _⟩ rfl (by kernel_rfl) rfl (fun K' hK => ?_)
      obtain ⟨⟨r0, r1, r2, r3, r4, r5, r6, r7, r8⟩, g0, g1, g2, g3, g4, g5, g6, g7, g8⟩ := nine_at HX.out
      have HFI := Lib.hid (set9_at HX.out (.int .i64 2) (.string { data := #[] }) (.string { data := #[] }) (.string T) (.bool false) (.int .i64 0) (.int .i64 0) (.int .i64 0) (.slice none 0 0))
      have HG2 := Lib.hid (kept_set9 HG.out (Nat.le_refl _) (.int .i64 2) (.string { data := #[] }) (.string { data := #[] }) (.string T) (.bool false) (.int .i64 0) (.int .i64 0) (.int .i64 0) (.slice none 0 0))
      go_simp
      refine hK.out _ _ ?_
      refine rest_end ?_
      obtain ⟨⟨z0, z1, z2, z3, z4, z5, z6, z7, z8⟩, _⟩ := nine_at HFI.out
      go_wp2
      refine bodyPost_ret (v := .agg #[.int .i64 2, .string { data := #[] }, .string { data := #[] }, .string T, .bool false, .int .i64 0, .int .i64 0, .int .i64 0, .slice none 0 0]) (by simp [results, Tryz.results105, go_sem, z0, z1, z2, z3, z4, z5, z6, z7, z8]) rfl ⟨rfl, HG2.out⟩

set_option maxHeartbeats 4000000 in
set_option maxRecDepth 100000 in
theorem entryt_val (r : Row) (g cap e : Nat) (vs : List Val) (q : Val) (w : World) (hr : r.num = true) (hfn : FnAt w e r) (hE : Env w) (hv : ValsAt w g 0 vs)
    (hF : ∀ W b f, Env W → Past b → f ≠ b → W.cell? ⟨f, 0, none⟩ = some (.func (.func r.fn) #[] #[]) → ArgsAt W b (some ⟨g, 0, none⟩) vs.length cap 0 → ValsAt W g 0 vs → g ≠ b → Calls Tryz.prog 105 #[.pointer (some ⟨b, 0, none⟩), .pointer (some ⟨f, 0, none⟩)] W fun e w' => e = .returned q.agg ∧ W.grownBy w' (some b)) (hv0 : 0 < vs.length) :
    Calls Tryz.prog 101 #[.slice (some ⟨g, 0, none⟩) vs.length cap, .pointer (some ⟨e, 0, none⟩)] w fun e w' => e = .returned q.agg ∧ Below w.heap.size w w' := by
  unfold FnAt at hfn
  rw [if_pos hr] at hfn
  obtain ⟨f, he, hf⟩ := hfn
  obtain ⟨hR, hB, hb⟩ := two_new w (.cells #[.int .i64 0, .string { data := #[] }, .string { data := #[] }, .string { data := #[] }, .bool false, .int .i64 0, .int .i64 0, .int .i64 0, .slice none 0 0] 27) (.cells #[.slice (some ⟨g, 0, none⟩) vs.length cap, .int .i64 0] 82)
  have HR := Lib.hid hR
  have HL := Lib.hid hb
  have HX := Lib.hid (cell_below he ((Below.refl w.heap.size w).alloc (Nat.le_refl _) (.cells #[.int .i64 0, .string { data := #[] }, .string { data := #[] }, .string { data := #[] }, .bool false, .int .i64 0, .int .i64 0, .int .i64 0, .slice none 0 0] 27)))
  have hgl : g < w.heap.size := cell_lt (hv.at 0 hv0).1
  have hfl : f < w.heap.size := cell_lt hf
  have TN := Lib.hid (hF _ (w.heap.size + 1) f (hE.below hb) (hE.past (Nat.le_succ _)) (by omega) (cell_below hf hb) hB (hv.below hb) (by omega))
  unfold Val.agg at TN ⊢
  clear hR hB hb he hf hfl hF hE hv hgl
  obtain x0 := HX.out
  go_enter Tryz.func101, Tryz.ntmps101
  go_wp2_with fail
  refine TN.out.mono ?_
  rintro e W1 ⟨rfl, hg⟩
  replace HR := Lib.hid (kept_block HR.out hg (by omega))
  have HG := Lib.hid (below_map HL.out (Nat.le_succ _) hg)
  clear hg
  obtain ⟨⟨r0, r1, r2, r3, r4, r5, r6, r7, r8⟩, g0, g1, g2, g3, g4, g5, g6, g7, g8⟩ := nine_at HR.out
  obtain ⟨nb, z0, z1, z2, z3, z4, z5, z6, z7, z8⟩ := nine_end (x0 := (.int .i64 q.k)) (x1 := (.string q.n)) (x2 := (.string q.d)) (x3 := (.string q.t)) (x4 := (.bool q.on)) (x5 := (.int .i64 q.c)) (x6 := (.int .i64 q.r)) (x7 := (.int .i64 q.s)) (x8 := (.slice q.A q.L q.C)) HR.out HG.out (Nat.le_refl _)
  go_wp2
  refine bodyPost_ret (v := .agg #[.int .i64 q.k, .string q.n, .string q.d, .string q.t, .bool q.on, .int .i64 q.c, .int .i64 q.r, .int .i64 q.s, .slice q.A q.L q.C]) (by simp [results, Tryz.results101, go_sem, z0, z1, z2, z3, z4, z5, z6, z7, z8]) rfl ⟨rfl, nb⟩

theorem fr_of (i : Nat) (hi : i < allRows.length) (h : freshB allRows[i].name (allRows.take i) = true) : ∀ j (hj : j < i), (allRows[i].name == (allRows[j]'(by omega)).name) = false := by
  intro j hj
  have := fresh_of h (allRows[j]'(by omega)) (by
    rw [List.mem_take_iff_getElem]
    exact ⟨j, by omega, rfl⟩)
  exact this
/-- ftext's Call at LOWER -/
theorem x_LOWER (s : ByteArray) (ab ao C : Nat) (w : World) (hs : Plain s) (hl : Plain (lowB s)) (hv : ValsAt w ab ao [tVal s]) (hE : Env w) :
    Calls Tryz.prog 7 #[.string { data := #[76, 79, 87, 69, 82] }, .slice (some ⟨ab, ao, none⟩) 1 C] w fun e w' => e = .returned (.tuple #[(tVal (lowB s)).agg, .int .i64 0]) ∧ Below w.heap.size w w' :=
  call_of { data := #[76, 79, 87, 69, 82] } (.slice (some ⟨ab, ao, none⟩) 1 C) (tVal (lowB s)) w ⟨_, _, _, rfl⟩ (fun W b hb hT =>
    run_s_val 1 ⟨{ data := #[76, 79, 87, 69, 82] }, 1, 1, { data := #[115] }, true, 25⟩ (show 1 < allRows.length from by decide) rfl rfl (Num.Fx.fr_of 1 (by decide) (by kernel_rfl)) [tVal s] b ab ao C (tVal (lowB s)) W (show 0 < 1 from by decide) (show 1 ≤ 300 from by decide) (show (1 : Int) ≤ ((1 : Nat) : Int) from by decide) (show ((1 : Nat) : Int) ≤ (1 : Int) from by decide) (by
      intro v hv
      simp only [List.mem_cons, List.not_mem_nil, or_false] at hv
      rcases hv with rfl
      rfl) (hv.below hb) (hE.below hb) hT ⟨rfl, rfl, rfl, rfl, rfl⟩ (fun W _ => check_T _ hl W)
      (by
        intro v hv W' h
        simp only [List.mem_cons, List.not_mem_nil, or_false] at hv
        rcases hv with rfl
        exact check_T s hs W')
      (fun W' e g cap _ hE' hfn hva => entryt_val ⟨{ data := #[76, 79, 87, 69, 82] }, 1, 1, { data := #[115] }, true, 25⟩ g cap e [tVal s] (tVal (lowB s)) W' rfl hfn hE' hva
        (fun W'' b' f hE'' hP hfb hf ha hva' hne => text1_val b' g cap f 25 s (lowB s) W'' hf (enters_of Tryz.func25 (by kernel_rfl) rfl) ha hne hfb (CellsAt.below (hva'.at 0 (show 0 < 1 from by decide)) (Below.refl _ _)) hs hl (fun W3 => lower_any s (by have := hs.1; omega) W3) hE'' hP) (show 0 < 1 from by decide)))
end Go.Proofs.YtnlaecjniellpaaGreatDoor.Num.Fx
