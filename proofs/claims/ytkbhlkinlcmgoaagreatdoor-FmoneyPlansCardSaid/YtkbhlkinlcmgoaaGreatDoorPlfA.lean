/- Numbers as texts of digits, fractions, values and the functions of fmath: contracts of the program's functions, joined from smaller texts. Conditions stand at each theorem. -/
import Derived.Test.YtkbhlkinlcmgoaaGreatDoorNumH
import Derived.Test.YtkbhlkinlcmgoaaGreatDoorPlbB
import Derived.BigQuiet

set_option linter.unusedVariables false
set_option linter.unusedSimpArgs false

/- package flook's table of functions: how it lies as a map. No conditions. -/
namespace Go.Proofs.YtkbhlkinlcmgoaaGreatDoor.Num.Fl
open Go.RowKit Go.Lib Go.MapKept Num

attribute [local go_sem] run_store_func
/-- a function value that wraps the row's function, or is it -/
def RowFn (w : World) (v : Value) (r : Row) : Prop :=
  if r.num then ∃ e, v = .func (.func 274) #[] #[.pointer (some ⟨e, 0, none⟩)] ∧ w.cell? ⟨e, 0, none⟩ = some (.func (.func r.fn) #[] #[])
  else v = .func (.func r.fn) #[] #[]
/-- an entry of the table as it lies in the map -/
def EntryAt (w : World) (x : MapEntry) (r : Row) : Prop := x.key = .string r.name ∧ ∃ v, x.val = .agg #[.int .i64 r.least, .int .i64 r.most, .string r.kinds, v] ∧ RowFn w v r
/-- block b is a map with just these rows -/
def TableAt (w : World) (b : Nat) (l : List Row) : Prop :=
  ∃ es clock, w.heap[b]? = some (.map es clock) ∧ es.size = l.length ∧ ∀ i (h : i < l.length) (h' : i < es.size), EntryAt w es[i] l[i]

theorem RowFn.mono {w w' : World} {v : Value} {r : Row} (h : RowFn w v r) (hc : ∀ (p : Addr) (x : Value), w.cell? p = some x → w'.cell? p = some x) : RowFn w' v r := by
  unfold RowFn at h ⊢
  split
  · rename_i hn
    rw [if_pos hn] at h
    obtain ⟨e, h1, h2⟩ := h
    exact ⟨e, h1, hc _ _ h2⟩
  · rename_i hn
    rw [if_neg hn] at h
    exact h
theorem EntryAt.mono {w w' : World} {x : MapEntry} {r : Row} (h : EntryAt w x r) (hc : ∀ (p : Addr) (x : Value), w.cell? p = some x → w'.cell? p = some x) : EntryAt w' x r :=
  let ⟨hk, v, hv, hr⟩ := h; ⟨hk, v, hv, hr.mono hc⟩
theorem TableAt.below {w w' : World} {b : Nat} {l : List Row} (h : TableAt w b l) (hb : Below w.heap.size w w') : TableAt w' b l := by
  obtain ⟨es, clock, hm, hs, he⟩ := h
  exact ⟨es, clock, keep_block hm hb, hs, fun i hi hi' => (he i hi hi').mono fun p x hp => cell_below hp hb⟩
theorem TableAt.made (w : World) : TableAt (w.alloc (.map #[] 0)) w.heap.size [] := ⟨#[], 0, heap_alloc_new w _, rfl, fun i hi => absurd hi (Nat.not_lt_zero _)⟩
theorem TableAt.store {w : World} {b mt kt et : Nat} {l : List Row} (h : TableAt w b l) (r : Row) (v : Value) (hr : RowFn w v r) (hf : Fresh r.name l) (hm : Tryz.prog.underlying mt = some (.map kt et)) (hk : Tryz.prog.underlying kt = some .string) :
    ∃ w', (Instr.mapUpdate mt (.map (some b)) (.string r.name) (.agg #[.int .i64 r.least, .int .i64 r.most, .string r.kinds, v])).run Tryz.prog w = .ok () w' ∧ TableAt w' b (l ++ [r]) ∧ w.grownBy w' (some b) := by
  obtain ⟨es, clock, hb, hs, he⟩ := h
  have hall : ∀ x ∈ es.toList, ∃ t, x.key = .string t ∧ (r.name == t) = false := by
    intro x hx
    obtain ⟨i, hi, rfl⟩ := List.getElem_of_mem hx
    have hi' : i < es.size := by simpa using hi
    have hil : i < l.length := by omega
    have := (he i hil hi').1
    exact ⟨l[i].name, by simpa using this, hf l[i] (List.getElem_mem hil)⟩
  have hfind := findNow_fresh r.name es.toList 0 hall
  have hc : (Instr.checkKey false 10000 kt (.string r.name)).run Tryz.prog w = .ok () w := MapKept.run_checkKey (k := .string r.name) hk (by simp [IsKey]) false 9999
  refine ⟨putMap w b (.map (es.push { key := .string r.name, val := .agg #[.int .i64 r.least, .int .i64 r.most, .string r.kinds, v], born := clock }) (clock + 1)), ?_, ?_, putMap_grown hb⟩
  · simp [Instr.mapUpdate, run_underlying hm, MapKept.run_getObj_map hb, hc, MapKept.run_findKey hk hfind, MapKept.run_setObj_map _ hb, Result.andThen, putMap]
  · refine ⟨_, _, (heap_set hb).1, by simp [hs], fun i hi hi' => ?_⟩
    by_cases hlt : i < es.size
    · have hil : i < l.length := by omega
      rw [Array.getElem_push_lt hlt, List.getElem_append_left hil]
      exact (he i hil hlt).mono (putMap_cell hb)
    · have : i = es.size := by simp at hi'; omega
      subst this
      rw [Array.getElem_push_eq]
      have hl : (l ++ [r])[es.size] = r := by simp [hs]
      rw [hl]
      exact ⟨rfl, v, rfl, hr.mono (putMap_cell hb)⟩
/-- the row at a name -/
theorem TableAt.look {w : World} {b mt kt et : Nat} {l : List Row} (h : TableAt w b l) (i : Nat) (hi : i < l.length) (hf : ∀ j (hj : j < i), (l[i].name == (l[j]'(by omega)).name) = false) (hm : Tryz.prog.underlying mt = some (.map kt et)) (hk : Tryz.prog.underlying kt = some .string) :
    ∃ v, RowFn w v l[i] ∧ (Instr.lookup mt (.map (some b)) (.string l[i].name) true).run Tryz.prog w = .ok (.tuple #[.agg #[.int .i64 l[i].least, .int .i64 l[i].most, .string l[i].kinds, v], .bool true]) w := by
  obtain ⟨es, clock, hb, hs, he⟩ := h
  have hi' : i < es.size := by omega
  obtain ⟨hkey, v, hv, hr⟩ := he i hi hi'
  refine ⟨v, hr, ?_⟩
  have hat : es.toList[i]? = some es[i] := by simp [hi']
  have hfind := findNow_at l[i].name es.toList i 0 es[i] hat hkey (fun j y hj hy => by
    have hjl : j < l.length := by omega
    have hje : j < es.size := by omega
    have hy' : es[j] = y := by simpa [hje] using hy
    exact ⟨l[j].name, by rw [← hy']; exact (he j hjl hje).1, hf j hj⟩)
  rw [Nat.zero_add, hv] at hfind
  have hc : (Instr.checkKey es.isEmpty 10000 kt (.string l[i].name)).run Tryz.prog w = .ok () w := MapKept.run_checkKey (k := .string l[i].name) hk (by simp [IsKey]) _ 9999
  simp [Instr.lookup, run_underlying hm, MapKept.run_getObj_map hb, hc, MapKept.run_findKey hk hfind, Result.andThen]

section
variable {ops : Array Oper} {rest : List Oper} {o : Oper} {a : Act} {Q : Exit → Act → World → Prop}
theorem wpList_insert_row (w : World) (hg : o.guard = none) (m x u : Operand) (t : TypeId) (hop : o.op = Op.insert t m x u ∨ o.op = Op.mapUpdate t m x u) {b kt et : Nat} {l : List Row} (hm : a.eval m = .map (some b)) (h : TableAt w b l) (r : Row) (v : Value) (hx : a.eval x = .string r.name) (hv : a.eval u = .agg #[.int .i64 r.least, .int .i64 r.most, .string r.kinds, v]) (hr : RowFn w v r) (hf : Fresh r.name l) (ht : Tryz.prog.underlying t = some (.map kt et)) (hk : Tryz.prog.underlying kt = some .string)
    (hK : ∀ w', TableAt w' b (l ++ [r]) → w.grownBy w' (some b) → wpList Tryz.prog ops Q rest (a.put o.dst undef) w') :
    wpList Tryz.prog ops Q (o :: rest) a w := by
  refine wpList_plain hg fun K' hK' => ?_
  obtain ⟨w', hrun, r1, r2⟩ := h.store r v hr hf ht hk
  unfold Oper.wp
  rcases hop with hop | hop
  · simp [execOp, hop, hm, hx, hv, hrun, Result.andThen]
    exact hK' _ _ (hK w' r1 r2)
  · simp [execOp, hop, hm, hx, hv, hrun, Result.andThen]
    exact hK' _ _ (hK w' r1 r2)
end

end Go.Proofs.YtkbhlkinlcmgoaaGreatDoor.Num.Fl

/- package flook's table of functions. No conditions. -/
namespace Go.Proofs.YtkbhlkinlcmgoaaGreatDoor.Num.Fl
open Go.RowKit Go.Lib Go.MapKept Num

/-- what flook.entry and flook.- leave -/
def RowRet (w : World) (r : Row) (e : Ending) (w' : World) : Prop := ∃ v, e = .returned (.agg #[.int .i64 r.least, .int .i64 r.most, .string r.kinds, v]) ∧ RowFn w' v r ∧ Below w.heap.size w w'
attribute [local go_sem] run_store_func
set_option maxHeartbeats 1000000 in
theorem num_any (least most : Int) (kinds : ByteArray) (F : Value) (w : World) (hF : ∃ f c d, F = .func f c d) :
    Calls Tryz.prog 140 #[.int .i64 least, .int .i64 most, .string kinds, F] w fun e w' => e = .returned (.agg #[.int .i64 least, .int .i64 most, .string kinds, .func (.func 274) #[] #[.pointer (some ⟨w.heap.size, 0, none⟩)]]) ∧ w'.cell? ⟨w.heap.size, 0, none⟩ = some F ∧ Below w.heap.size w w' := by
  obtain ⟨f, c, d, rfl⟩ := hF
  have hmf : ∀ (fn : Fn) (first cap : Array Value) (w : World), (Instr.makeFunc fn first cap).run Tryz.prog w = .ok (.func fn first cap) w := fun _ _ _ _ => rfl
  go_enter Tryz.func140, Tryz.ntmps140
  go_wp2
  have hc : (((w.alloc (.cells #[.func f c d] 116)).alloc (.cells #[.int .i64 least, .int .i64 most, .string kinds, .func (.func 274) #[] #[.pointer (some ⟨w.heap.size, 0, none⟩)]] 97))).cell? ⟨w.heap.size, 0, none⟩ = some (.func f c d) :=
    Lib.cell_of_heap ((Below.heap_alloc _ _ _ (by simp)).trans (heap_alloc_new w _)) 0
  exact bodyPost_ret (v := .agg #[.int .i64 least, .int .i64 most, .string kinds, .func (.func 274) #[] #[.pointer (some ⟨w.heap.size, 0, none⟩)]]) (by simp [results, Tryz.results140, go_sem]) rfl ⟨rfl, hc, ((Below.refl _ _).alloc (Nat.le_refl _) _).alloc (by simp) _⟩
theorem num_row (r : Row) (hr : r.num = true) (w : World) : Calls Tryz.prog 140 #[.int .i64 r.least, .int .i64 r.most, .string r.kinds, .func (.func r.fn) #[] #[]] w (RowRet w r) :=
  (num_any r.least r.most r.kinds _ w ⟨_, _, _, rfl⟩).mono fun e w' ⟨he, hc, hb⟩ => ⟨_, he, by unfold RowFn; rw [if_pos hr]; exact ⟨_, rfl, hc⟩, hb⟩

theorem num_lit (name : ByteArray) (least most : Int) (kinds : ByteArray) (F : FuncId) (w : World) : Calls Tryz.prog 140 #[.int .i64 least, .int .i64 most, .string kinds, .func (.func F) #[] #[]] w fun e w' => ∃ v, e = .returned (.agg #[.int .i64 least, .int .i64 most, .string kinds, v]) ∧ RowFn w' v ⟨name, least, most, kinds, true, F⟩ ∧ Below w.heap.size w w' := num_row ⟨name, least, most, kinds, true, F⟩ rfl w

def allRows : List Row := [⟨{ data := #[77, 65, 84, 67, 72] }, 2, 3, { data := #[115, 97, 115] }, true, 141⟩,
  ⟨{ data := #[88, 77, 65, 84, 67, 72] }, 2, 3, { data := #[115, 97, 115] }, true, 142⟩,
  ⟨{ data := #[76, 79, 79, 75, 85, 80] }, 2, 3, { data := #[115, 97] }, true, 143⟩,
  ⟨{ data := #[86, 76, 79, 79, 75, 85, 80] }, 3, 4, { data := #[115, 97, 115, 115] }, true, 144⟩,
  ⟨{ data := #[72, 76, 79, 79, 75, 85, 80] }, 3, 4, { data := #[115, 97, 115, 115] }, true, 146⟩,
  ⟨{ data := #[88, 76, 79, 79, 75, 85, 80] }, 3, 5, { data := #[115, 97, 97, 97, 115] }, true, 147⟩,
  ⟨{ data := #[73, 78, 68, 69, 88] }, 2, 3, { data := #[97, 115, 115] }, true, 148⟩,
  ⟨{ data := #[82, 79, 87, 83] }, 1, 1, { data := #[97] }, true, 149⟩,
  ⟨{ data := #[67, 79, 76, 85, 77, 78, 83] }, 1, 1, { data := #[97] }, true, 152⟩,
  ⟨{ data := #[84, 82, 65, 78, 83, 80, 79, 83, 69] }, 1, 1, { data := #[97] }, true, 153⟩,
  ⟨{ data := #[84, 65, 75, 69] }, 2, 3, { data := #[97, 115, 115] }, true, 156⟩,
  ⟨{ data := #[68, 82, 79, 80] }, 2, 3, { data := #[97, 115, 115] }, true, 158⟩,
  ⟨{ data := #[67, 72, 79, 79, 83, 69, 82, 79, 87, 83] }, 2, 255, { data := #[97, 115] }, true, 159⟩,
  ⟨{ data := #[67, 72, 79, 79, 83, 69, 67, 79, 76, 83] }, 2, 255, { data := #[97, 115] }, true, 161⟩,
  ⟨{ data := #[72, 83, 84, 65, 67, 75] }, 1, 255, { data := #[97] }, true, 162⟩,
  ⟨{ data := #[86, 83, 84, 65, 67, 75] }, 1, 255, { data := #[97] }, true, 164⟩,
  ⟨{ data := #[84, 79, 82, 79, 87] }, 1, 1, { data := #[97] }, true, 165⟩,
  ⟨{ data := #[84, 79, 67, 79, 76] }, 1, 1, { data := #[97] }, true, 166⟩,
  ⟨{ data := #[87, 82, 65, 80, 82, 79, 87, 83] }, 2, 3, { data := #[97, 115, 115] }, true, 167⟩,
  ⟨{ data := #[87, 82, 65, 80, 67, 79, 76, 83] }, 2, 3, { data := #[97, 115, 115] }, true, 169⟩,
  ⟨{ data := #[69, 88, 80, 65, 78, 68] }, 2, 4, { data := #[97, 115, 115, 115] }, true, 170⟩,
  ⟨{ data := #[70, 73, 76, 84, 69, 82] }, 2, 3, { data := #[97, 97, 97] }, true, 171⟩,
  ⟨{ data := #[83, 79, 82, 84] }, 1, 4, { data := #[97, 115, 115, 115] }, true, 172⟩,
  ⟨{ data := #[83, 79, 82, 84, 66, 89] }, 2, 255, { data := #[97] }, true, 173⟩,
  ⟨{ data := #[85, 78, 73, 81, 85, 69] }, 1, 3, { data := #[97, 115, 115] }, true, 174⟩]
set_option maxHeartbeats 8000000 in
set_option maxRecDepth 100000 in
theorem table_any (w : World) : Calls Tryz.prog 49 #[] w fun e w' => ∃ b, e = .returned (.map (some b)) ∧ TableAt w' b allRows ∧ Below w.heap.size w w' := by
  have hmm := @run_makeMap Tryz.prog
  have TA := Lib.hid (show TableAt (w.alloc (.map #[] 0)) w.heap.size (allRows.take 0) from TableAt.made w)
  have HL := Lib.hid (show Below w.heap.size w (w.alloc (.map #[] 0)) from (Below.refl _ _).alloc (Nat.le_refl _) _)
  go_enter Tryz.func49, Tryz.ntmps49
  go_wp2_with fail
  refine (num_lit { data := #[77, 65, 84, 67, 72] } 2 3 { data := #[115, 97, 115] } 141 _).mono ?_
  rintro e W0 ⟨v, rfl, hr, hb⟩
  have RF := Lib.hid hr
  replace TA := Lib.hid (TA.out.below hb)
  replace HL := Lib.hid (HL.out.trans (hb.mono HL.out.size))
  clear hr hb
  go_wp2_with (first | (refine wpList_insert_row _ rfl _ _ _ _ (.inl rfl) rfl TA.out ⟨{ data := #[77, 65, 84, 67, 72] }, 2, 3, { data := #[115, 97, 115] }, true, 141⟩ v rfl rfl RF.out (fresh_of (by kernel_rfl)) Tryz.underlying73 Tryz.underlying9 ?_; intro V0 ta hg; replace TA := Lib.hid (show TableAt V0 _ (allRows.take 1) from ta); replace HL := Lib.hid (below_map HL.out (Nat.le_refl _) hg); clear ta hg RF))
  go_wp2_with fail
  refine (num_lit { data := #[88, 77, 65, 84, 67, 72] } 2 3 { data := #[115, 97, 115] } 142 _).mono ?_
  rintro e W1 ⟨v, rfl, hr, hb⟩
  have RF := Lib.hid hr
  replace TA := Lib.hid (TA.out.below hb)
  replace HL := Lib.hid (HL.out.trans (hb.mono HL.out.size))
  clear hr hb
  go_wp2_with (first | (refine wpList_insert_row _ rfl _ _ _ _ (.inl rfl) rfl TA.out ⟨{ data := #[88, 77, 65, 84, 67, 72] }, 2, 3, { data := #[115, 97, 115] }, true, 142⟩ v rfl rfl RF.out (fresh_of (by kernel_rfl)) Tryz.underlying73 Tryz.underlying9 ?_; intro V1 ta hg; replace TA := Lib.hid (show TableAt V1 _ (allRows.take 2) from ta); replace HL := Lib.hid (below_map HL.out (Nat.le_refl _) hg); clear ta hg RF))
  go_wp2_with fail
  refine (num_lit { data := #[76, 79, 79, 75, 85, 80] } 2 3 { data := #[115, 97] } 143 _).mono ?_
  rintro e W2 ⟨v, rfl, hr, hb⟩
  have RF := Lib.hid hr
  replace TA := Lib.hid (TA.out.below hb)
  replace HL := Lib.hid (HL.out.trans (hb.mono HL.out.size))
  clear hr hb
  go_wp2_with (first | (refine wpList_insert_row _ rfl _ _ _ _ (.inl rfl) rfl TA.out ⟨{ data := #[76, 79, 79, 75, 85, 80] }, 2, 3, { data := #[115, 97] }, true, 143⟩ v rfl rfl RF.out (fresh_of (by kernel_rfl)) Tryz.underlying73 Tryz.underlying9 ?_; intro V2 ta hg; replace TA := Lib.hid (show TableAt V2 _ (allRows.take 3) from ta); replace HL := Lib.hid (below_map HL.out (Nat.le_refl _) hg); clear ta hg RF))
  go_wp2_with fail
  refine (num_lit { data := #[86, 76, 79, 79, 75, 85, 80] } 3 4 { data := #[115, 97, 115, 115] } 144 _).mono ?_
  rintro e W3 ⟨v, rfl, hr, hb⟩
  have RF := Lib.hid hr
  replace TA := Lib.hid (TA.out.below hb)
  replace HL := Lib.hid (HL.out.trans (hb.mono HL.out.size))
  clear hr hb
  go_wp2_with (first | (refine wpList_insert_row _ rfl _ _ _ _ (.inl rfl) rfl TA.out ⟨{ data := #[86, 76, 79, 79, 75, 85, 80] }, 3, 4, { data := #[115, 97, 115, 115] }, true, 144⟩ v rfl rfl RF.out (fresh_of (by kernel_rfl)) Tryz.underlying73 Tryz.underlying9 ?_; intro V3 ta hg; replace TA := Lib.hid (show TableAt V3 _ (allRows.take 4) from ta); replace HL := Lib.hid (below_map HL.out (Nat.le_refl _) hg); clear ta hg RF))
  go_wp2_with fail
  refine (num_lit { data := #[72, 76, 79, 79, 75, 85, 80] } 3 4 { data := #[115, 97, 115, 115] } 146 _).mono ?_
  rintro e W4 ⟨v, rfl, hr, hb⟩
  have RF := Lib.hid hr
  replace TA := Lib.hid (TA.out.below hb)
  replace HL := Lib.hid (HL.out.trans (hb.mono HL.out.size))
  clear hr hb
  go_wp2_with (first | (refine wpList_insert_row _ rfl _ _ _ _ (.inl rfl) rfl TA.out ⟨{ data := #[72, 76, 79, 79, 75, 85, 80] }, 3, 4, { data := #[115, 97, 115, 115] }, true, 146⟩ v rfl rfl RF.out (fresh_of (by kernel_rfl)) Tryz.underlying73 Tryz.underlying9 ?_; intro V4 ta hg; replace TA := Lib.hid (show TableAt V4 _ (allRows.take 5) from ta); replace HL := Lib.hid (below_map HL.out (Nat.le_refl _) hg); clear ta hg RF))
  go_wp2_with fail
  refine (num_lit { data := #[88, 76, 79, 79, 75, 85, 80] } 3 5 { data := #[115, 97, 97, 97, 115] } 147 _).mono ?_
  rintro e W5 ⟨v, rfl, hr, hb⟩
  have RF := Lib.hid hr
  replace TA := Lib.hid (TA.out.below hb)
  replace HL := Lib.hid (HL.out.trans (hb.mono HL.out.size))
  clear hr hb
  go_wp2_with (first | (refine wpList_insert_row _ rfl _ _ _ _ (.inl rfl) rfl TA.out ⟨{ data := #[88, 76, 79, 79, 75, 85, 80] }, 3, 5, { data := #[115, 97, 97, 97, 115] }, true, 147⟩ v rfl rfl RF.out (fresh_of (by kernel_rfl)) Tryz.underlying73 Tryz.underlying9 ?_; intro V5 ta hg; replace TA := Lib.hid (show TableAt V5 _ (allRows.take 6) from ta); replace HL := Lib.hid (below_map HL.out (Nat.le_refl _) hg); clear ta hg RF))
  go_wp2_with fail
  refine (num_lit { data := #[73, 78, 68, 69, 88] } 2 3 { data := #[97, 115, 115] } 148 _).mono ?_
  rintro e W6 ⟨v, rfl, hr, hb⟩
  have RF := Lib.hid hr
  replace TA := Lib.hid (TA.out.below hb)
  replace HL := Lib.hid (HL.out.trans (hb.mono HL.out.size))
  clear hr hb
  go_wp2_with (first | (refine wpList_insert_row _ rfl _ _ _ _ (.inl rfl) rfl TA.out ⟨{ data := #[73, 78, 68, 69, 88] }, 2, 3, { data := #[97, 115, 115] }, true, 148⟩ v rfl rfl RF.out (fresh_of (by kernel_rfl)) Tryz.underlying73 Tryz.underlying9 ?_; intro V6 ta hg; replace TA := Lib.hid (show TableAt V6 _ (allRows.take 7) from ta); replace HL := Lib.hid (below_map HL.out (Nat.le_refl _) hg); clear ta hg RF))
  go_wp2_with fail
  refine (num_lit { data := #[82, 79, 87, 83] } 1 1 { data := #[97] } 149 _).mono ?_
  rintro e W7 ⟨v, rfl, hr, hb⟩
  have RF := Lib.hid hr
  replace TA := Lib.hid (TA.out.below hb)
  replace HL := Lib.hid (HL.out.trans (hb.mono HL.out.size))
  clear hr hb
  go_wp2_with (first | (refine wpList_insert_row _ rfl _ _ _ _ (.inl rfl) rfl TA.out ⟨{ data := #[82, 79, 87, 83] }, 1, 1, { data := #[97] }, true, 149⟩ v rfl rfl RF.out (fresh_of (by kernel_rfl)) Tryz.underlying73 Tryz.underlying9 ?_; intro V7 ta hg; replace TA := Lib.hid (show TableAt V7 _ (allRows.take 8) from ta); replace HL := Lib.hid (below_map HL.out (Nat.le_refl _) hg); clear ta hg RF))
  go_wp2_with fail
  refine (num_lit { data := #[67, 79, 76, 85, 77, 78, 83] } 1 1 { data := #[97] } 152 _).mono ?_
  rintro e W8 ⟨v, rfl, hr, hb⟩
  have RF := Lib.hid hr
  replace TA := Lib.hid (TA.out.below hb)
  replace HL := Lib.hid (HL.out.trans (hb.mono HL.out.size))
  clear hr hb
  go_wp2_with (first | (refine wpList_insert_row _ rfl _ _ _ _ (.inl rfl) rfl TA.out ⟨{ data := #[67, 79, 76, 85, 77, 78, 83] }, 1, 1, { data := #[97] }, true, 152⟩ v rfl rfl RF.out (fresh_of (by kernel_rfl)) Tryz.underlying73 Tryz.underlying9 ?_; intro V8 ta hg; replace TA := Lib.hid (show TableAt V8 _ (allRows.take 9) from ta); replace HL := Lib.hid (below_map HL.out (Nat.le_refl _) hg); clear ta hg RF))
  go_wp2_with fail
  refine (num_lit { data := #[84, 82, 65, 78, 83, 80, 79, 83, 69] } 1 1 { data := #[97] } 153 _).mono ?_
  rintro e W9 ⟨v, rfl, hr, hb⟩
  have RF := Lib.hid hr
  replace TA := Lib.hid (TA.out.below hb)
  replace HL := Lib.hid (HL.out.trans (hb.mono HL.out.size))
  clear hr hb
  go_wp2_with (first | (refine wpList_insert_row _ rfl _ _ _ _ (.inl rfl) rfl TA.out ⟨{ data := #[84, 82, 65, 78, 83, 80, 79, 83, 69] }, 1, 1, { data := #[97] }, true, 153⟩ v rfl rfl RF.out (fresh_of (by kernel_rfl)) Tryz.underlying73 Tryz.underlying9 ?_; intro V9 ta hg; replace TA := Lib.hid (show TableAt V9 _ (allRows.take 10) from ta); replace HL := Lib.hid (below_map HL.out (Nat.le_refl _) hg); clear ta hg RF))
  go_wp2_with fail
  refine (num_lit { data := #[84, 65, 75, 69] } 2 3 { data := #[97, 115, 115] } 156 _).mono ?_
  rintro e W10 ⟨v, rfl, hr, hb⟩
  have RF := Lib.hid hr
  replace TA := Lib.hid (TA.out.below hb)
  replace HL := Lib.hid (HL.out.trans (hb.mono HL.out.size))
  clear hr hb
  go_wp2_with (first | (refine wpList_insert_row _ rfl _ _ _ _ (.inl rfl) rfl TA.out ⟨{ data := #[84, 65, 75, 69] }, 2, 3, { data := #[97, 115, 115] }, true, 156⟩ v rfl rfl RF.out (fresh_of (by kernel_rfl)) Tryz.underlying73 Tryz.underlying9 ?_; intro V10 ta hg; replace TA := Lib.hid (show TableAt V10 _ (allRows.take 11) from ta); replace HL := Lib.hid (below_map HL.out (Nat.le_refl _) hg); clear ta hg RF))
  go_wp2_with fail
  refine (num_lit { data := #[68, 82, 79, 80] } 2 3 { data := #[97, 115, 115] } 158 _).mono ?_
  rintro e W11 ⟨v, rfl, hr, hb⟩
  have RF := Lib.hid hr
  replace TA := Lib.hid (TA.out.below hb)
  replace HL := Lib.hid (HL.out.trans (hb.mono HL.out.size))
  clear hr hb
  go_wp2_with (first | (refine wpList_insert_row _ rfl _ _ _ _ (.inl rfl) rfl TA.out ⟨{ data := #[68, 82, 79, 80] }, 2, 3, { data := #[97, 115, 115] }, true, 158⟩ v rfl rfl RF.out (fresh_of (by kernel_rfl)) Tryz.underlying73 Tryz.underlying9 ?_; intro V11 ta hg; replace TA := Lib.hid (show TableAt V11 _ (allRows.take 12) from ta); replace HL := Lib.hid (below_map HL.out (Nat.le_refl _) hg); clear ta hg RF))
  go_wp2_with fail
  refine (num_lit { data := #[67, 72, 79, 79, 83, 69, 82, 79, 87, 83] } 2 255 { data := #[97, 115] } 159 _).mono ?_
  rintro e W12 ⟨v, rfl, hr, hb⟩
  have RF := Lib.hid hr
  replace TA := Lib.hid (TA.out.below hb)
  replace HL := Lib.hid (HL.out.trans (hb.mono HL.out.size))
  clear hr hb
  go_wp2_with (first | (refine wpList_insert_row _ rfl _ _ _ _ (.inl rfl) rfl TA.out ⟨{ data := #[67, 72, 79, 79, 83, 69, 82, 79, 87, 83] }, 2, 255, { data := #[97, 115] }, true, 159⟩ v rfl rfl RF.out (fresh_of (by kernel_rfl)) Tryz.underlying73 Tryz.underlying9 ?_; intro V12 ta hg; replace TA := Lib.hid (show TableAt V12 _ (allRows.take 13) from ta); replace HL := Lib.hid (below_map HL.out (Nat.le_refl _) hg); clear ta hg RF))
  go_wp2_with fail
  refine (num_lit { data := #[67, 72, 79, 79, 83, 69, 67, 79, 76, 83] } 2 255 { data := #[97, 115] } 161 _).mono ?_
  rintro e W13 ⟨v, rfl, hr, hb⟩
  have RF := Lib.hid hr
  replace TA := Lib.hid (TA.out.below hb)
  replace HL := Lib.hid (HL.out.trans (hb.mono HL.out.size))
  clear hr hb
  go_wp2_with (first | (refine wpList_insert_row _ rfl _ _ _ _ (.inl rfl) rfl TA.out ⟨{ data := #[67, 72, 79, 79, 83, 69, 67, 79, 76, 83] }, 2, 255, { data := #[97, 115] }, true, 161⟩ v rfl rfl RF.out (fresh_of (by kernel_rfl)) Tryz.underlying73 Tryz.underlying9 ?_; intro V13 ta hg; replace TA := Lib.hid (show TableAt V13 _ (allRows.take 14) from ta); replace HL := Lib.hid (below_map HL.out (Nat.le_refl _) hg); clear ta hg RF))
  go_wp2_with fail
  refine (num_lit { data := #[72, 83, 84, 65, 67, 75] } 1 255 { data := #[97] } 162 _).mono ?_
  rintro e W14 ⟨v, rfl, hr, hb⟩
  have RF := Lib.hid hr
  replace TA := Lib.hid (TA.out.below hb)
  replace HL := Lib.hid (HL.out.trans (hb.mono HL.out.size))
  clear hr hb
  go_wp2_with (first | (refine wpList_insert_row _ rfl _ _ _ _ (.inl rfl) rfl TA.out ⟨{ data := #[72, 83, 84, 65, 67, 75] }, 1, 255, { data := #[97] }, true, 162⟩ v rfl rfl RF.out (fresh_of (by kernel_rfl)) Tryz.underlying73 Tryz.underlying9 ?_; intro V14 ta hg; replace TA := Lib.hid (show TableAt V14 _ (allRows.take 15) from ta); replace HL := Lib.hid (below_map HL.out (Nat.le_refl _) hg); clear ta hg RF))
  go_wp2_with fail
  refine (num_lit { data := #[86, 83, 84, 65, 67, 75] } 1 255 { data := #[97] } 164 _).mono ?_
  rintro e W15 ⟨v, rfl, hr, hb⟩
  have RF := Lib.hid hr
  replace TA := Lib.hid (TA.out.below hb)
  replace HL := Lib.hid (HL.out.trans (hb.mono HL.out.size))
  clear hr hb
  go_wp2_with (first | (refine wpList_insert_row _ rfl _ _ _ _ (.inl rfl) rfl TA.out ⟨{ data := #[86, 83, 84, 65, 67, 75] }, 1, 255, { data := #[97] }, true, 164⟩ v rfl rfl RF.out (fresh_of (by kernel_rfl)) Tryz.underlying73 Tryz.underlying9 ?_; intro V15 ta hg; replace TA := Lib.hid (show TableAt V15 _ (allRows.take 16) from ta); replace HL := Lib.hid (below_map HL.out (Nat.le_refl _) hg); clear ta hg RF))
  go_wp2_with fail
  refine (num_lit { data := #[84, 79, 82, 79, 87] } 1 1 { data := #[97] } 165 _).mono ?_
  rintro e W16 ⟨v, rfl, hr, hb⟩
  have RF := Lib.hid hr
  replace TA := Lib.hid (TA.out.below hb)
  replace HL := Lib.hid (HL.out.trans (hb.mono HL.out.size))
  clear hr hb
  go_wp2_with (first | (refine wpList_insert_row _ rfl _ _ _ _ (.inl rfl) rfl TA.out ⟨{ data := #[84, 79, 82, 79, 87] }, 1, 1, { data := #[97] }, true, 165⟩ v rfl rfl RF.out (fresh_of (by kernel_rfl)) Tryz.underlying73 Tryz.underlying9 ?_; intro V16 ta hg; replace TA := Lib.hid (show TableAt V16 _ (allRows.take 17) from ta); replace HL := Lib.hid (below_map HL.out (Nat.le_refl _) hg); clear ta hg RF))
  go_wp2_with fail
  refine (num_lit { data := #[84, 79, 67, 79, 76] } 1 1 { data := #[97] } 166 _).mono ?_
  rintro e W17 ⟨v, rfl, hr, hb⟩
  have RF := Lib.hid hr
  replace TA := Lib.hid (TA.out.below hb)
  replace HL := Lib.hid (HL.out.trans (hb.mono HL.out.size))
  clear hr hb
  go_wp2_with (first | (refine wpList_insert_row _ rfl _ _ _ _ (.inl rfl) rfl TA.out ⟨{ data := #[84, 79, 67, 79, 76] }, 1, 1, { data := #[97] }, true, 166⟩ v rfl rfl RF.out (fresh_of (by kernel_rfl)) Tryz.underlying73 Tryz.underlying9 ?_; intro V17 ta hg; replace TA := Lib.hid (show TableAt V17 _ (allRows.take 18) from ta); replace HL := Lib.hid (below_map HL.out (Nat.le_refl _) hg); clear ta hg RF))
  go_wp2_with fail
  refine (num_lit { data := #[87, 82, 65, 80, 82, 79, 87, 83] } 2 3 { data := #[97, 115, 115] } 167 _).mono ?_
  rintro e W18 ⟨v, rfl, hr, hb⟩
  have RF := Lib.hid hr
  replace TA := Lib.hid (TA.out.below hb)
  replace HL := Lib.hid (HL.out.trans (hb.mono HL.out.size))
  clear hr hb
  go_wp2_with (first | (refine wpList_insert_row _ rfl _ _ _ _ (.inl rfl) rfl TA.out ⟨{ data := #[87, 82, 65, 80, 82, 79, 87, 83] }, 2, 3, { data := #[97, 115, 115] }, true, 167⟩ v rfl rfl RF.out (fresh_of (by kernel_rfl)) Tryz.underlying73 Tryz.underlying9 ?_; intro V18 ta hg; replace TA := Lib.hid (show TableAt V18 _ (allRows.take 19) from ta); replace HL := Lib.hid (below_map HL.out (Nat.le_refl _) hg); clear ta hg RF))
  go_wp2_with fail
  refine (num_lit { data := #[87, 82, 65, 80, 67, 79, 76, 83] } 2 3 { data := #[97, 115, 115] } 169 _).mono ?_
  rintro e W19 ⟨v, rfl, hr, hb⟩
  have RF := Lib.hid hr
  replace TA := Lib.hid (TA.out.below hb)
  replace HL := Lib.hid (HL.out.trans (hb.mono HL.out.size))
  clear hr hb
  go_wp2_with (first | (refine wpList_insert_row _ rfl _ _ _ _ (.inl rfl) rfl TA.out ⟨{ data := #[87, 82, 65, 80, 67, 79, 76, 83] }, 2, 3, { data := #[97, 115, 115] }, true, 169⟩ v rfl rfl RF.out (fresh_of (by kernel_rfl)) Tryz.underlying73 Tryz.underlying9 ?_; intro V19 ta hg; replace TA := Lib.hid (show TableAt V19 _ (allRows.take 20) from ta); replace HL := Lib.hid (below_map HL.out (Nat.le_refl _) hg); clear ta hg RF))
  go_wp2_with fail
  refine (num_lit { data := #[69, 88, 80, 65, 78, 68] } 2 4 { data := #[97, 115, 115, 115] } 170 _).mono ?_
  rintro e W20 ⟨v, rfl, hr, hb⟩
  have RF := Lib.hid hr
  replace TA := Lib.hid (TA.out.below hb)
  replace HL := Lib.hid (HL.out.trans (hb.mono HL.out.size))
  clear hr hb
  go_wp2_with (first | (refine wpList_insert_row _ rfl _ _ _ _ (.inl rfl) rfl TA.out ⟨{ data := #[69, 88, 80, 65, 78, 68] }, 2, 4, { data := #[97, 115, 115, 115] }, true, 170⟩ v rfl rfl RF.out (fresh_of (by kernel_rfl)) Tryz.underlying73 Tryz.underlying9 ?_; intro V20 ta hg; replace TA := Lib.hid (show TableAt V20 _ (allRows.take 21) from ta); replace HL := Lib.hid (below_map HL.out (Nat.le_refl _) hg); clear ta hg RF))
  go_wp2_with fail
  refine (num_lit { data := #[70, 73, 76, 84, 69, 82] } 2 3 { data := #[97, 97, 97] } 171 _).mono ?_
  rintro e W21 ⟨v, rfl, hr, hb⟩
  have RF := Lib.hid hr
  replace TA := Lib.hid (TA.out.below hb)
  replace HL := Lib.hid (HL.out.trans (hb.mono HL.out.size))
  clear hr hb
  go_wp2_with (first | (refine wpList_insert_row _ rfl _ _ _ _ (.inl rfl) rfl TA.out ⟨{ data := #[70, 73, 76, 84, 69, 82] }, 2, 3, { data := #[97, 97, 97] }, true, 171⟩ v rfl rfl RF.out (fresh_of (by kernel_rfl)) Tryz.underlying73 Tryz.underlying9 ?_; intro V21 ta hg; replace TA := Lib.hid (show TableAt V21 _ (allRows.take 22) from ta); replace HL := Lib.hid (below_map HL.out (Nat.le_refl _) hg); clear ta hg RF))
  go_wp2_with fail
  refine (num_lit { data := #[83, 79, 82, 84] } 1 4 { data := #[97, 115, 115, 115] } 172 _).mono ?_
  rintro e W22 ⟨v, rfl, hr, hb⟩
  have RF := Lib.hid hr
  replace TA := Lib.hid (TA.out.below hb)
  replace HL := Lib.hid (HL.out.trans (hb.mono HL.out.size))
  clear hr hb
  go_wp2_with (first | (refine wpList_insert_row _ rfl _ _ _ _ (.inl rfl) rfl TA.out ⟨{ data := #[83, 79, 82, 84] }, 1, 4, { data := #[97, 115, 115, 115] }, true, 172⟩ v rfl rfl RF.out (fresh_of (by kernel_rfl)) Tryz.underlying73 Tryz.underlying9 ?_; intro V22 ta hg; replace TA := Lib.hid (show TableAt V22 _ (allRows.take 23) from ta); replace HL := Lib.hid (below_map HL.out (Nat.le_refl _) hg); clear ta hg RF))
  go_wp2_with fail
  refine (num_lit { data := #[83, 79, 82, 84, 66, 89] } 2 255 { data := #[97] } 173 _).mono ?_
  rintro e W23 ⟨v, rfl, hr, hb⟩
  have RF := Lib.hid hr
  replace TA := Lib.hid (TA.out.below hb)
  replace HL := Lib.hid (HL.out.trans (hb.mono HL.out.size))
  clear hr hb
  go_wp2_with (first | (refine wpList_insert_row _ rfl _ _ _ _ (.inl rfl) rfl TA.out ⟨{ data := #[83, 79, 82, 84, 66, 89] }, 2, 255, { data := #[97] }, true, 173⟩ v rfl rfl RF.out (fresh_of (by kernel_rfl)) Tryz.underlying73 Tryz.underlying9 ?_; intro V23 ta hg; replace TA := Lib.hid (show TableAt V23 _ (allRows.take 24) from ta); replace HL := Lib.hid (below_map HL.out (Nat.le_refl _) hg); clear ta hg RF))
  go_wp2_with fail
  refine (num_lit { data := #[85, 78, 73, 81, 85, 69] } 1 3 { data := #[97, 115, 115] } 174 _).mono ?_
  rintro e W24 ⟨v, rfl, hr, hb⟩
  have RF := Lib.hid hr
  replace TA := Lib.hid (TA.out.below hb)
  replace HL := Lib.hid (HL.out.trans (hb.mono HL.out.size))
  clear hr hb
  go_wp2_with (first | (refine wpList_insert_row _ rfl _ _ _ _ (.inl rfl) rfl TA.out ⟨{ data := #[85, 78, 73, 81, 85, 69] }, 1, 3, { data := #[97, 115, 115] }, true, 174⟩ v rfl rfl RF.out (fresh_of (by kernel_rfl)) Tryz.underlying73 Tryz.underlying9 ?_; intro V24 ta hg; replace TA := Lib.hid (show TableAt V24 _ (allRows.take 25) from ta); replace HL := Lib.hid (below_map HL.out (Nat.le_refl _) hg); clear ta hg RF))
  go_wp2
  go_ret
  exact ⟨_, rfl, TA.out, HL.out⟩

end Go.Proofs.YtkbhlkinlcmgoaaGreatDoor.Num.Fl

/- package value: the closure that Run hands to Lift, at flook. Conditions: the tables lie as they are laid. -/
namespace Go.Proofs.YtkbhlkinlcmgoaaGreatDoor.Num.Fl
open Go.RowKit Go.Lib Go.MapKept Num

set_option maxHeartbeats 4000000 in
set_option maxRecDepth 100000 in
theorem run1_value (pb f e : Nat) (sl : Value) (k : Int) (n d t : ByteArray) (on : Bool) (c : Int) (A : Option Addr) (L C : Nat) (w : World) (hs : ∃ a l c, sl = .slice a l c) (hc : w.cell? ⟨pb, 3, none⟩ = some (.func (.func 274) #[] #[.pointer (some ⟨e, 0, none⟩)])) (hE : Env w)
    (hF : ∀ W, Below w.heap.size w W → Calls Tryz.prog 274 #[sl, .pointer (some ⟨e, 0, none⟩)] W fun e w' => e = .returned (.agg #[.int .i64 k, .string n, .string d, .string t, .bool on, .int .i64 c, .int .i64 0, .int .i64 0, .slice A L C]) ∧ Below W.heap.size W w') :
    Calls Tryz.prog 65 #[sl, .pointer (some ⟨pb, 0, none⟩)] w fun e w' => e = .returned (.agg #[.int .i64 k, .string n, .string d, .string t, .bool on, .int .i64 c, .int .i64 0, .int .i64 0, .slice A L C]) ∧ Below w.heap.size w w' := by
  obtain ⟨sa, slen, sc, rfl⟩ := hs
  have hmf : ∀ (fn : Fn) (first cap : Array Value) (w : World), (Instr.makeFunc fn first cap).run Tryz.prog w = .ok (.func fn first cap) w := fun _ _ _ _ => rfl
  have hb : Below w.heap.size w (w.alloc (.cells #[.int .i64 0, .string { data := #[] }, .string { data := #[] }, .string { data := #[] }, .bool false, .int .i64 0, .int .i64 0, .int .i64 0, .slice none 0 0] 30)) := (Below.refl _ _).alloc (Nat.le_refl _) _
  have HR := Lib.hid (heap_alloc_new w (.cells #[.int .i64 0, .string { data := #[] }, .string { data := #[] }, .string { data := #[] }, .bool false, .int .i64 0, .int .i64 0, .int .i64 0, .slice none 0 0] 30))
  have HX := Lib.hid (cell_below hc hb)
  have HL := Lib.hid hb
  have HE := Lib.hid (hE.below hb)
  have TF := Lib.hid (hF _ hb)
  clear hb hc hE hF
  obtain x3 := HX.out
  go_enter_defers Tryz.func65, Tryz.ntmps65
  go_wp2_with fail
  refine TF.out.mono ?_
  rintro e w1 ⟨rfl, hb⟩
  replace HR := Lib.hid (keep_block HR.out hb)
  replace HE := Lib.hid (HE.out.below hb)
  replace HL := Lib.hid (HL.out.trans (hb.mono HL.out.size))
  clear hb
  obtain ⟨⟨r0, r1, r2, r3, r4, r5, r6, r7, r8⟩, g0, g1, g2, g3, g4, g5, g6, g7, g8⟩ := nine_at HR.out
  have HR2 := Lib.hid (set9_at HR.out (.int .i64 k) (.string n) (.string d) (.string t) (.bool on) (.int .i64 c) (.int .i64 0) (.int .i64 0) (.slice A L C))
  have HL2 := Lib.hid (nine_end (x0 := (.int .i64 k)) (x1 := (.string n)) (x2 := (.string d)) (x3 := (.string t)) (x4 := (.bool on)) (x5 := (.int .i64 c)) (x6 := (.int .i64 0)) (x7 := (.int .i64 0)) (x8 := (.slice A L C)) HR.out HL.out (Nat.le_refl _)).1
  go_wp2_with fail
  obtain ⟨W2, hW2⟩ : ∃ W2, (((((((((w1.setCell ⟨w.heap.size, 0, none⟩ (.int .i64 k)).setCell ⟨w.heap.size, 1, none⟩ (.string n)).setCell ⟨w.heap.size, 2, none⟩ (.string d)).setCell ⟨w.heap.size, 3, none⟩ (.string t)).setCell ⟨w.heap.size, 4, none⟩ (.bool on)).setCell ⟨w.heap.size, 5, none⟩ (.int .i64 c)).setCell ⟨w.heap.size, 6, none⟩ (.int .i64 0)).setCell ⟨w.heap.size, 7, none⟩ (.int .i64 0)).setCell ⟨w.heap.size, 8, none⟩ (.slice A L C)) = W2 := ⟨_, rfl⟩
  rw [hW2] at HR2 HL2 ⊢
  clear hW2 r0 r1 r2 r3 r4 r5 r6 r7 r8 g0 g1 g2 g3 g4 g5 g6 g7 g8
  obtain ⟨⟨r0, r1, r2, r3, r4, r5, r6, r7, r8⟩, g0, g1, g2, g3, g4, g5, g6, g7, g8⟩ := nine_at HR2.out
  go_quiet (fail)
  have HR3 := Lib.hid (show (W2.drewN nq).heap[w.heap.size]? = _ from HR2.out)
  obtain ⟨nb, e0, e1, e2, e3, e4, e5, e6, e7, e8⟩ := nine_end (x0 := (.int .i64 k)) (x1 := (.string n)) (x2 := (.string d)) (x3 := (.string t)) (x4 := (.bool on)) (x5 := (.int .i64 c)) (x6 := (.int .i64 0)) (x7 := (.int .i64 0)) (x8 := (.slice A L C)) HR3.out (below_drewN HL2.out nq) (Nat.le_refl _)
  go_wp2
  refine leaves_cons (f := 66) (args := #[.pointer (some ⟨w.heap.size, 0, none⟩)]) (by simp) (by simp [go_sem]) ?_
  refine (idle_any _ _).mono ?_
  rintro e u' w3 ⟨rfl, rfl, rfl⟩
  exact ⟨_, (by simp [results, Tryz.results65, go_sem, e0, e1, e2, e3, e4, e5, e6, e7, e8]), rfl, nb⟩

end Go.Proofs.YtkbhlkinlcmgoaaGreatDoor.Num.Fl

/- package value: Run at a row of flook's table. Conditions: the tables lie as they are laid. -/
namespace Go.Proofs.YtkbhlkinlcmgoaaGreatDoor.Num.Fl
open Go.RowKit Go.Lib Go.MapKept Num

/-- cell e holds the row's function -/
def FnAt (W : World) (e : Nat) (r : Row) : Prop := W.cell? ⟨e, 0, none⟩ = some (.func (.func r.fn) #[] #[])
theorem rowFn_at {w : World} {v : Value} {r : Row} (h : RowFn w v r) (hn : r.num = true) : ∃ e, v = .func (.func 274) #[] #[.pointer (some ⟨e, 0, none⟩)] ∧ FnAt w e r := by
  unfold RowFn at h
  rw [if_pos hn] at h
  exact h
theorem FnAt.below {w w' : World} {e : Nat} {r : Row} (h : FnAt w e r) (hb : Below w.heap.size w w') : FnAt w' e r := cell_below h hb
attribute [local go_sem] run_store_func

end Go.Proofs.YtkbhlkinlcmgoaaGreatDoor.Num.Fl

/- package flook's Call, the law's own call, the closures that wrap a function of the table. Conditions: the tables lie as they are laid. -/
namespace Go.Proofs.YtkbhlkinlcmgoaaGreatDoor.Num.Fl
open Go.RowKit Go.Lib Go.MapKept Num

set_option maxHeartbeats 4000000 in
set_option maxRecDepth 100000 in
theorem call_of (name : ByteArray) (sl : Value) (q : Val) (w : World) (hs : ∃ a l c, sl = .slice a l c)
    (hRun : ∀ W b, Below w.heap.size w W → TableAt W b allRows → Calls Tryz.prog 41 #[.map (some b), .string name, sl] W fun e w' => e = .returned (.tuple #[q.agg, .int .i64 0]) ∧ Below W.heap.size W w') :
    Calls Tryz.prog 31 #[.string name, sl] w fun e w' => e = .returned (.tuple #[q.agg, .int .i64 0]) ∧ Below w.heap.size w w' := by
  obtain ⟨sa, slen, sc, rfl⟩ := hs
  have hb : Below w.heap.size w (w.alloc (.cells #[.int .i64 0, .string { data := #[] }, .string { data := #[] }, .string { data := #[] }, .bool false, .int .i64 0, .int .i64 0, .int .i64 0, .slice none 0 0] 30)) := (Below.refl _ _).alloc (Nat.le_refl _) _
  have HR := Lib.hid (heap_alloc_new w (.cells #[.int .i64 0, .string { data := #[] }, .string { data := #[] }, .string { data := #[] }, .bool false, .int .i64 0, .int .i64 0, .int .i64 0, .slice none 0 0] 30))
  have HL := Lib.hid hb
  have TR := Lib.hid hRun
  unfold Val.agg at TR ⊢
  clear hRun hb
  go_enter Tryz.func31, Tryz.ntmps31
  go_wp2_with fail
  refine (table_any _).mono ?_
  rintro e W1 ⟨b, rfl, ht, hb⟩
  have HT := Lib.hid ht
  clear ht
  replace HR := Lib.hid (keep_block HR.out hb)
  replace HL := Lib.hid (HL.out.trans (hb.mono HL.out.size))
  clear hb
  go_wp2_with fail
  refine (TR.out _ _ HL.out HT.out).mono ?_
  rintro e W2 ⟨rfl, hb⟩
  replace HR := Lib.hid (keep_block HR.out hb)
  replace HL := Lib.hid (HL.out.trans (hb.mono HL.out.size))
  clear hb
  obtain ⟨⟨r0, r1, r2, r3, r4, r5, r6, r7, r8⟩, g0, g1, g2, g3, g4, g5, g6, g7, g8⟩ := nine_at HR.out
  obtain ⟨nb, z0, z1, z2, z3, z4, z5, z6, z7, z8⟩ := nine_end (x0 := (.int .i64 q.k)) (x1 := (.string q.n)) (x2 := (.string q.d)) (x3 := (.string q.t)) (x4 := (.bool q.on)) (x5 := (.int .i64 q.c)) (x6 := (.int .i64 q.r)) (x7 := (.int .i64 q.s)) (x8 := (.slice q.A q.L q.C)) HR.out HL.out (Nat.le_refl _)
  go_wp2
  refine bodyPost_ret (v := .tuple #[.agg #[.int .i64 q.k, .string q.n, .string q.d, .string q.t, .bool q.on, .int .i64 q.c, .int .i64 q.r, .int .i64 q.s, .slice q.A q.L q.C], .int .i64 0]) (by simp [results, Tryz.results31, go_sem, z0, z1, z2, z3, z4, z5, z6, z7, z8]) rfl ⟨rfl, nb⟩

set_option maxHeartbeats 4000000 in
set_option maxRecDepth 100000 in
theorem math_of (name : ByteArray) (sl : Value) (q : Val) (w : World) (hs : ∃ a l c, sl = .slice a l c)
    (hRun : ∀ W b, Below w.heap.size w W → TableAt W b allRows → Calls Tryz.prog 41 #[.map (some b), .string name, sl] W fun e w' => e = .returned (.tuple #[q.agg, .int .i64 0]) ∧ Below W.heap.size W w') :
    Calls Tryz.prog 15 #[.string name, sl] w fun e w' => e = .returned q.agg ∧ Below w.heap.size w w' := by
  have hb : Below w.heap.size w (w.alloc (.cells #[.int .i64 0, .string { data := #[] }, .string { data := #[] }, .string { data := #[] }, .bool false, .int .i64 0, .int .i64 0, .int .i64 0, .slice none 0 0] 30)) := (Below.refl _ _).alloc (Nat.le_refl _) _
  have HR := Lib.hid (heap_alloc_new w (.cells #[.int .i64 0, .string { data := #[] }, .string { data := #[] }, .string { data := #[] }, .bool false, .int .i64 0, .int .i64 0, .int .i64 0, .slice none 0 0] 30))
  have HL := Lib.hid hb
  have TC := Lib.hid (call_of name sl q (w.alloc (.cells #[.int .i64 0, .string { data := #[] }, .string { data := #[] }, .string { data := #[] }, .bool false, .int .i64 0, .int .i64 0, .int .i64 0, .slice none 0 0] 30)) hs (fun W b h => hRun W b (hb.trans (h.mono hb.size))))
  obtain ⟨sa, slen, sc, rfl⟩ := hs
  unfold Val.agg at TC ⊢
  clear hRun hb
  go_enter Tryz.func15, Tryz.ntmps15
  go_wp2_with fail
  refine TC.out.mono ?_
  rintro e W1 ⟨rfl, hb⟩
  replace HR := Lib.hid (keep_block HR.out hb)
  replace HL := Lib.hid (HL.out.trans (hb.mono HL.out.size))
  clear hb
  have hlt := heap_lt HR.out
  obtain ⟨⟨r0, r1, r2, r3, r4, r5, r6, r7, r8⟩, g0, g1, g2, g3, g4, g5, g6, g7, g8⟩ := nine_at HR.out
  have HF1 := Lib.hid (set9_at HR.out (.int .i64 q.k) (.string q.n) (.string q.d) (.string q.t) (.bool q.on) (.int .i64 q.c) (.int .i64 q.r) (.int .i64 q.s) (.slice q.A q.L q.C))
  have HF2 := Lib.hid ((Below.heap_alloc _ (.cells #[.int .i64 q.k, .string q.n, .string q.d, .string q.t, .bool q.on, .int .i64 q.c, .int .i64 q.r, .int .i64 q.s, .slice q.A q.L q.C] 30) _ (heap_lt HF1.out)).trans HF1.out)
  have HB2 := Lib.hid (nine_end (x0 := (.int .i64 q.k)) (x1 := (.string q.n)) (x2 := (.string q.d)) (x3 := (.string q.t)) (x4 := (.bool q.on)) (x5 := (.int .i64 q.c)) (x6 := (.int .i64 q.r)) (x7 := (.int .i64 q.s)) (x8 := (.slice q.A q.L q.C)) HR.out HL.out (Nat.le_refl _)).1
  have HZ2 := Lib.hid (HB2.out.alloc HB2.out.size (.cells #[.int .i64 q.k, .string q.n, .string q.d, .string q.t, .bool q.on, .int .i64 q.c, .int .i64 q.r, .int .i64 q.s, .slice q.A q.L q.C] 30))
  have HA := Lib.hid ((Below.heap_alloc W1 (.cells #[.int .i64 q.k, .string q.n, .string q.d, .string q.t, .bool q.on, .int .i64 q.c, .int .i64 q.r, .int .i64 q.s, .slice q.A q.L q.C] 30) _ hlt).trans HR.out)
  obtain ⟨⟨a0, a1, a2, a3, a4, a5, a6, a7, a8⟩, b0, b1, b2, b3, b4, b5, b6, b7, b8⟩ := nine_at HA.out
  obtain ⟨⟨z0, z1, z2, z3, z4, z5, z6, z7, z8⟩, _⟩ := nine_at HF2.out
  go_wp2
  refine bodyPost_ret (v := .agg #[.int .i64 q.k, .string q.n, .string q.d, .string q.t, .bool q.on, .int .i64 q.c, .int .i64 q.r, .int .i64 q.s, .slice q.A q.L q.C]) (by simp [results, Tryz.results15, go_sem, z0, z1, z2, z3, z4, z5, z6, z7, z8]) rfl ⟨rfl, HZ2.out⟩

end Go.Proofs.YtkbhlkinlcmgoaaGreatDoor.Num.Fl

/- package flook: an array as a struct: Size, stop, grid, row, value. Conditions: sizes from 1 on. -/
namespace Go.Proofs.YtkbhlkinlcmgoaaGreatDoor.Num.Fl
open Go.RowKit Go.Lib Num

theorem stop_no (c : Int) (w : World) : Calls Tryz.prog 279 #[.bool false, .int .i64 c] w fun e w' => e = .returned (.tuple #[]) ∧ w' = w := by
  go_enter Tryz.func279, Tryz.ntmps279
  go_wp2
  go_end0
  exact ⟨rfl, rfl⟩
/-- an array of r rows and s columns as a value's cells -/
def arrC (r s : Int) (A : Option Addr) (L C : Nat) : Value := .agg #[.int .i64 5, .string { data := #[] }, .string { data := #[] }, .string { data := #[] }, .bool false, .int .i64 0, .int .i64 r, .int .i64 s, .slice A L C]
set_option maxHeartbeats 4000000 in
set_option maxRecDepth 100000 in
theorem size_arr (r s : Int) (A : Option Addr) (L C : Nat) (w : World) : Calls Tryz.prog 282 #[arrC r s A L C] w fun e w' => e = .returned (.tuple #[.int .i64 r, .int .i64 s]) ∧ Below w.heap.size w w' := by
  unfold arrC
  have hb : Below w.heap.size w (w.alloc (.cells #[.int .i64 5, .string { data := #[] }, .string { data := #[] }, .string { data := #[] }, .bool false, .int .i64 0, .int .i64 r, .int .i64 s, .slice A L C] 30)) := (Below.refl _ _).alloc (Nat.le_refl _) _
  have HX := Lib.hid (heap_alloc_new w (.cells #[.int .i64 5, .string { data := #[] }, .string { data := #[] }, .string { data := #[] }, .bool false, .int .i64 0, .int .i64 r, .int .i64 s, .slice A L C] 30))
  have HL := Lib.hid hb
  clear hb
  obtain ⟨W0, hW⟩ : ∃ Z, w.alloc (.cells #[.int .i64 5, .string { data := #[] }, .string { data := #[] }, .string { data := #[] }, .bool false, .int .i64 0, .int .i64 r, .int .i64 s, .slice A L C] 30) = Z := ⟨_, rfl⟩
  rw [hW] at HX HL
  obtain ⟨B, hB⟩ : ∃ B, w.heap.size = B := ⟨_, rfl⟩
  rw [hB] at HX HL ⊢
  have EW := Lib.hid hW
  have EB := Lib.hid hB
  clear hW hB
  obtain ⟨⟨x0, x1, x2, x3, x4, x5, x6, x7, x8⟩, _⟩ := nine_at HX.out
  go_enter Tryz.func282, Tryz.ntmps282
  go_upto_region 1 with fail
  rw [EW.out, EB.out]
  go_wp2_with fail
  go_quiet (fail)
  have HL2 := Lib.hid (below_drewN HL.out nq)
  go_wp2
  go_ret2
  exact ⟨rfl, HL2.out⟩
/-- the struct of an array -/
def gridC (r s : Int) (A : Option Addr) (L C : Nat) : Value := .agg #[.int .i64 r, .int .i64 s, .slice A L C]
set_option maxHeartbeats 4000000 in
set_option maxRecDepth 100000 in
theorem grid_arr (r s : Int) (g L C : Nat) (w : World) : Calls Tryz.prog 150 #[arrC r s (some ⟨g, 0, none⟩) L C] w fun e w' => e = .returned (gridC r s (some ⟨g, 0, none⟩) L C) ∧ Below w.heap.size w w' := by
  have TS := Lib.hid (fun W => size_arr r s (some ⟨g, 0, none⟩) L C W)
  unfold arrC at TS ⊢
  unfold gridC
  obtain ⟨hx, hr, hb⟩ := two_new w (.cells #[.int .i64 5, .string { data := #[] }, .string { data := #[] }, .string { data := #[] }, .bool false, .int .i64 0, .int .i64 r, .int .i64 s, .slice (some ⟨g, 0, none⟩) L C] 30) (.cells #[.int .i64 0, .int .i64 0, .slice none 0 0] 128)
  have HX := Lib.hid hx
  have HR := Lib.hid hr
  have HL := Lib.hid hb
  clear hx hr hb
  obtain ⟨⟨x0, x1, x2, x3, x4, x5, x6, x7, x8⟩, _⟩ := nine_at HX.out
  go_enter Tryz.func150, Tryz.ntmps150
  go_wp2_with fail
  refine (TS.out _).mono ?_
  rintro e w1 ⟨rfl, hq⟩
  replace HX := Lib.hid (keep_block HX.out hq)
  replace HR := Lib.hid (keep_block HR.out hq)
  replace HL := Lib.hid (HL.out.trans (hq.mono HL.out.size))
  clear hq x0 x1 x2 x3 x4 x5 x6 x7 x8
  obtain ⟨⟨x0, x1, x2, x3, x4, x5, x6, x7, x8⟩, _⟩ := nine_at HX.out
  go_wp2_with fail
  refine (list_arr r s g L C _).mono ?_
  rintro e w2 ⟨rfl, hq⟩
  replace HR := Lib.hid (keep_block HR.out hq)
  replace HL := Lib.hid (HL.out.trans (hq.mono HL.out.size))
  clear hq x0 x1 x2 x3 x4 x5 x6 x7 x8
  have r0 := Lib.cell_of_heap HR.out 0
  have r1 := Lib.cell_of_heap HR.out 1
  have r2 := Lib.cell_of_heap HR.out 2
  have g0 := Lib.frozen_of_heap HR.out 0
  have g1 := Lib.frozen_of_heap HR.out 1
  have g2 := Lib.frozen_of_heap HR.out 2
  have hf := heap_setCell_at (heap_setCell_at (heap_setCell_at HR.out 0 (.int .i64 r)) 1 (.int .i64 s)) 2 (.slice (some ⟨g, 0, none⟩) L C)
  have HF := Lib.hid hf
  have HG := Lib.hid (((HL.out.setCell (p := ⟨w.heap.size + 1, 0, none⟩) (Nat.le_succ _) (.int .i64 r)).setCell (p := ⟨w.heap.size + 1, 1, none⟩) (Nat.le_succ _) (.int .i64 s)).setCell (p := ⟨w.heap.size + 1, 2, none⟩) (Nat.le_succ _) (.slice (some ⟨g, 0, none⟩) L C))
  have z0 := Lib.cell_of_heap HF.out 0
  have z1 := Lib.cell_of_heap HF.out 1
  have z2 := Lib.cell_of_heap HF.out 2
  clear hf
  go_wp2
  refine bodyPost_ret (v := .agg #[.int .i64 r, .int .i64 s, .slice (some ⟨g, 0, none⟩) L C]) (by simp [results, Tryz.results150, go_sem, z0, z1, z2]) rfl ⟨rfl, HG.out⟩
set_option maxHeartbeats 4000000 in
set_option maxRecDepth 100000 in
theorem row_arr (r s i g L C : Nat) (w : World) (hi : i < r) (hs : 1 ≤ s) (hL : r * s = L) (hLC : L ≤ C) (h9 : L ≤ 1000) : Calls Tryz.prog 281 #[gridC (r : Int) (s : Int) (some ⟨g, 0, none⟩) L C, .int .i64 (i : Int)] w fun e w' => e = .returned (.slice (some ⟨g, i * s * 9, none⟩) s (C - i * s)) ∧ Below w.heap.size w w' := by
  unfold gridC
  have hb : Below w.heap.size w (w.alloc (.cells #[.int .i64 (r : Int), .int .i64 (s : Int), .slice (some ⟨g, 0, none⟩) L C] 128)) := (Below.refl _ _).alloc (Nat.le_refl _) _
  have HX := Lib.hid (heap_alloc_new w (.cells #[.int .i64 (r : Int), .int .i64 (s : Int), .slice (some ⟨g, 0, none⟩) L C] 128))
  have HL := Lib.hid hb
  obtain ⟨a, ha⟩ : ∃ a, i * s = a := ⟨_, rfl⟩
  obtain ⟨b, hbb⟩ : ∃ b, (i + 1) * s = b := ⟨_, rfl⟩
  have hab : a + s = b := by rw [← ha, ← hbb, Nat.add_mul, Nat.one_mul]
  have hbL : b ≤ L := by rw [← hbb, ← hL]; exact Nat.mul_le_mul hi (Nat.le_refl _)
  have e1 : (i : Int) * (s : Int) = (a : Int) := by rw [← ha, Int.natCast_mul]
  have e2 : ((i : Int) + 1) * (s : Int) = (b : Int) := by rw [← hbb, Int.natCast_mul]; rfl
  have hw1 : IntKind.i64.wrap (a : Int) = (a : Int) := IntWalk.i64_in _ (by omega)
  have hw2 : IntKind.i64.wrap (b : Int) = (b : Int) := IntWalk.i64_in _ (by omega)
  have hri : i ≤ 1000 := by
    have : r ≤ r * s := Nat.le_mul_of_pos_right r hs
    omega
  have hw3 : IntKind.i64.wrap ((i : Int) + 1) = (i : Int) + 1 := IntWalk.i64_in _ (by omega)
  rw [ha]
  have x0 := Lib.cell_of_heap HX.out 0
  have x1 := Lib.cell_of_heap HX.out 1
  have x2 := Lib.cell_of_heap HX.out 2
  clear hb ha hbb hi
  go_enter Tryz.func281, Tryz.ntmps281
  go_wp2
  rw [show b - a = s by omega]
  go_ret
  exact ⟨rfl, (Below.refl _ _).alloc (Nat.le_refl _) _⟩
set_option maxHeartbeats 4000000 in
set_option maxRecDepth 100000 in
theorem value_arr (r s : Nat) (A : Option Addr) (L C : Nat) (w : World) (h0 : 1 ≤ r) (h1 : r ≤ 1000) (h2 : 1 ≤ s) (h3 : s ≤ 100) : Calls Tryz.prog 155 #[gridC (r : Int) (s : Int) A L C] w fun e w' => e = .returned (arrC (r : Int) (s : Int) A L C) ∧ Below w.heap.size w w' := by
  have TT := Lib.hid (fun W => vtab_any r s A L C W h0 h1 h2 h3)
  unfold gridC arrC
  obtain ⟨hx, hr, hb⟩ := two_new w (.cells #[.int .i64 (r : Int), .int .i64 (s : Int), .slice A L C] 128) (.cells #[.int .i64 0, .string { data := #[] }, .string { data := #[] }, .string { data := #[] }, .bool false, .int .i64 0, .int .i64 0, .int .i64 0, .slice none 0 0] 30)
  have HX := Lib.hid hx
  have HR := Lib.hid hr
  have HL := Lib.hid hb
  have d0 : decide ((r : Int) < 1) = false := decide_eq_false (by omega)
  have d1 : decide ((s : Int) < 1) = false := decide_eq_false (by omega)
  have e0 : decide (r < 1) = false := decide_eq_false (by omega)
  have e1 : decide (s < 1) = false := decide_eq_false (by omega)
  have e2 : decide (r = 0) = false := decide_eq_false (by omega)
  have e3 : decide (s = 0) = false := decide_eq_false (by omega)
  have e4 : (r = 0) = False := eq_false (by omega)
  have e5 : (s = 0) = False := eq_false (by omega)
  have x0 := Lib.cell_of_heap HX.out 0
  have x1 := Lib.cell_of_heap HX.out 1
  clear hx hr hb h0 h1 h2 h3
  go_enter Tryz.func155, Tryz.ntmps155
  go_wp2_with fail
  refine (stop_no 6 _).mono ?_
  rintro e w1 ⟨rfl, hw⟩
  replace hw := hw.symm
  subst hw
  have x2 := Lib.cell_of_heap HX.out 2
  go_wp2_with fail
  refine (TT.out _).mono ?_
  rintro e w1 ⟨rfl, hq⟩
  replace HR := Lib.hid (keep_block HR.out hq)
  replace HL := Lib.hid (HL.out.trans (hq.mono HL.out.size))
  clear hq x0 x1 x2
  obtain ⟨⟨r0, r1, r2, r3, r4, r5, r6, r7, r8⟩, g0, g1, g2, g3, g4, g5, g6, g7, g8⟩ := nine_at HR.out
  obtain ⟨nb, z0, z1, z2, z3, z4, z5, z6, z7, z8⟩ := nine_end (x0 := (.int .i64 5)) (x1 := (.string { data := #[] })) (x2 := (.string { data := #[] })) (x3 := (.string { data := #[] })) (x4 := (.bool false)) (x5 := (.int .i64 0)) (x6 := (.int .i64 (r : Int))) (x7 := (.int .i64 (s : Int))) (x8 := (.slice A L C)) HR.out HL.out (Nat.le_succ _)
  have NB := Lib.hid nb
  clear nb
  go_wp2
  refine bodyPost_ret (v := .agg #[.int .i64 5, .string { data := #[] }, .string { data := #[] }, .string { data := #[] }, .bool false, .int .i64 0, .int .i64 (r : Int), .int .i64 (s : Int), .slice A L C]) (by simp [results, Tryz.results155, go_sem, z0, z1, z2, z3, z4, z5, z6, z7, z8]) rfl ⟨rfl, NB.out⟩
end Go.Proofs.YtkbhlkinlcmgoaaGreatDoor.Num.Fl
