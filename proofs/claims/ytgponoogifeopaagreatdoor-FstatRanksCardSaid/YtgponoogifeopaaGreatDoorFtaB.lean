/- Numbers as texts of digits, fractions, values and the functions of fmath: contracts of the program's functions, joined from smaller texts. Conditions stand at each theorem. -/
import Derived.Test.YtgponoogifeopaaGreatDoorFtaA
import Derived.Test.YtgponoogifeopaaGreatDoorNumH

/- package fstat: functions of a row of fractions. Conditions: what the small functions give. -/
namespace Go.Proofs.YtgponoogifeopaaGreatDoor.Num.Ft
open Go.RowKit Go.Lib Num

/-- what stays while the row is gone through -/
structure SumI (W : World) (B3 B4 : Nat) (m s : Rat) (wx : World) : Prop where
  h2 : wx.heap[W.heap.size]? = some (.cells #[.string { data := #[] }, .string { data := #[] }] 24 (0, 0))
  h3 : wx.heap[B3]? = some (.cells #[.string (numS m), .string (denS m)] 24 (0, 0))
  h4 : wx.heap[B4]? = some (.cells #[.string (numS s), .string (denS s)] 24 (0, 0))
  low : Below W.heap.size W wx
attribute [local irreducible] wpOp
end Go.Proofs.YtgponoogifeopaaGreatDoor.Num.Ft

/- package fstat: compare, sign, stop, some. Conditions: what the small functions give. -/
namespace Go.Proofs.YtgponoogifeopaaGreatDoor.Num.Ft
open Go.RowKit Go.Lib Num
attribute [local irreducible] wpOp
set_option linter.unusedSimpArgs false in
set_option linter.unusedVariables false in
set_option maxHeartbeats 4000000 in
set_option maxRecDepth 100000 in
theorem compare_walk (p q : Rat) (c : Int) (W : World) (c0 : Fun2 30 (.agg #[.string (numS p), .string (denS p)]) (.agg #[.string (numS q), .string (denS q)]) (.tuple #[.int .i64 c, .int .i64 0])) (hE : EnvY W) :
    Calls Tryz.prog 184 #[.agg #[.string (numS p), .string (denS p)], .agg #[.string (numS q), .string (denS q)]] W fun e w' => e = .returned (.int .i64 c) ∧ Below W.heap.size W w' := by
  have Qc0 := Lib.hid c0
  unfold Fun2 at Qc0
  have HE0 := Lib.hid hE
  have HG := Lib.hid (show Below W.heap.size W ((W.alloc (.cells #[.string (numS p), .string (denS p)] 24)).alloc (.cells #[.string (numS q), .string (denS q)] 24)) from (((Below.refl _ _).alloc (Nat.le_refl _) _).alloc (by simp only [World.size_alloc]; omega) _))
  have H2 : Hid (((W.alloc (.cells #[.string (numS p), .string (denS p)] 24)).alloc (.cells #[.string (numS q), .string (denS q)] 24)).heap[W.heap.size]? = some (.cells #[.string (numS p), .string (denS p)] 24 (0, 0))) := Lib.hid (by
    have h := heap_alloc_new W (.cells #[.string (numS p), .string (denS p)] 24)
    exact new_keep (h))
  have H3 : Hid (((W.alloc (.cells #[.string (numS p), .string (denS p)] 24)).alloc (.cells #[.string (numS q), .string (denS q)] 24)).heap[W.heap.size + 1]? = some (.cells #[.string (numS q), .string (denS q)] 24 (0, 0))) := Lib.hid (by
    have h := heap_alloc_new (W.alloc (.cells #[.string (numS p), .string (denS p)] 24)) (.cells #[.string (numS q), .string (denS q)] 24)
    simp only [World.size_alloc] at h
    exact h)
  obtain ⟨W0, hW0⟩ : ∃ Z, ((W.alloc (.cells #[.string (numS p), .string (denS p)] 24)).alloc (.cells #[.string (numS q), .string (denS q)] 24)) = Z := ⟨_, rfl⟩
  rw [hW0] at HG H2 H3
  have EW0 := Lib.hid hW0
  have HE := Lib.hid (HE0.out.below HG.out)
  clear hW0 hE  c0
  go_enter Tryz.func184, Tryz.ntmps184
  go_upto_region 1 with fail
  rw [EW0.out]
  obtain ⟨⟨x2_0, x2_1⟩, x2_f0, x2_f1⟩ := two_at H2.out
  obtain ⟨⟨x3_0, x3_1⟩, x3_f0, x3_f1⟩ := two_at H3.out
  go_wp2_with fail
  refine (Qc0.out _ HE.out).mono ?_
  clear x2_0 x2_1 x2_f0 x2_f1
  clear x3_0 x3_1 x3_f0 x3_f1
  rintro e w1 ⟨rfl, hb⟩
  replace H2 := Lib.hid (keep_block H2.out hb)
  replace H3 := Lib.hid (keep_block H3.out hb)
  replace HE := Lib.hid (HE.out.below hb)
  replace HG := Lib.hid (HG.out.trans (hb.mono HG.out.size))
  clear hb
  go_wp2
  go_ret
  exact ⟨rfl, HG.out⟩

set_option linter.unusedVariables false in
/-- what the operations of region 1 yield -/
def sign_walkKs1 (p z : Rat) (c : Int) : List RK :=
  [.pure (.agg #[.string (numS p), .string (denS p)]),
   .pure (.agg #[.string (numS z), .string (denS z)]),
   .pure (.int .i64 c),
   .pure (.int .i64 c)]
set_option linter.unusedSimpArgs false in
set_option linter.unusedVariables false in
set_option maxHeartbeats 4000000 in
set_option maxRecDepth 100000 in
theorem sign_walk (p z : Rat) (c : Int) (W : World) (c0 : Fun1 13 (.int .i64 0) (.agg #[.string (numS z), .string (denS z)]))
    (c1 : Fun2 184 (.agg #[.string (numS p), .string (denS p)]) (.agg #[.string (numS z), .string (denS z)]) (.int .i64 c)) (hE : EnvY W) :
    Calls Tryz.prog 196 #[.agg #[.string (numS p), .string (denS p)]] W fun e w' => e = .returned (.int .i64 c) ∧ Below W.heap.size W w' := by
  have Qc0 := Lib.hid c0
  have Qc1 := Lib.hid c1
  unfold Fun1 at Qc0
  unfold Fun2 at Qc1
  have HE0 := Lib.hid hE
  have HG := Lib.hid (show Below W.heap.size W (W.alloc (.cells #[.string (numS p), .string (denS p)] 24)) from ((Below.refl _ _).alloc (Nat.le_refl _) _))
  have H1 : Hid ((W.alloc (.cells #[.string (numS p), .string (denS p)] 24)).heap[W.heap.size]? = some (.cells #[.string (numS p), .string (denS p)] 24 (0, 0))) := Lib.hid (by
    have h := heap_alloc_new W (.cells #[.string (numS p), .string (denS p)] 24)
    exact h)
  obtain ⟨W0, hW0⟩ : ∃ Z, (W.alloc (.cells #[.string (numS p), .string (denS p)] 24)) = Z := ⟨_, rfl⟩
  rw [hW0] at HG H1
  have EW0 := Lib.hid hW0
  have HE := Lib.hid (HE0.out.below HG.out)
  clear hW0 hE  c0 c1
  go_enter Tryz.func196, Tryz.ntmps196
  have lt_1 := Lib.hid (heap_lt H1.out)
  have geW := Lib.hid HG.out.size
  go_wp2_with fail
  rw [EW0.out]
  have hok : okB 4 (sign_walkKs1 p z c) = true := by kernel_rfl
  have hna := noAny_of (ks := (sign_walkKs1 p z c)) (by kernel_rfl)
  have hla := lasts_of hna
  refine wp_region_facts (row := none) (w := W0) 4 (sign_walkKs1 p z c) [some 3, some 4, some 5, some 2] (by kernel_rfl) (by kernel_rfl) rfl [undef, undef, undef, (.int .i64 0)] ?h00 (Fs.start rfl rfl) ?hs ?hd
  case h00 => simp only [putO, layL]
  case hs =>
    rintro listed vs Wr hF i hi hun hpre
    obtain ⟨s0, s1, s2, s3, hvs⟩ := exl_of 4 vs (fun l => vs = l) hF.len rfl
    subst hvs
    have hge := Nat.zero_le i
    simp only [putO, layL]
    rcases Nat.lt_or_ge i 2 with hlt | hgt
    · replace hi := hlt
      clear hlt
      rcases Nat.lt_or_ge i 1 with hlt | hgt
      · replace hi := hlt
        clear hlt
        obtain rfl := eqi hi hge
        have hcc := (two_at (keep_block H1.out (below_none hF.low))).1
        have cH10 := hcc.1
        have cH11 := hcc.2
        clear hcc
        refine step_of ⟨some 3, _, _, _, _, _⟩ rfl (fun K' hK => ?_)
        go_simp
        refine hK.out _ _ ⟨_, hF.pure hok hla hpre rfl (Below.refl _ _), ?fr⟩
        case fr => simp only [putO, layL]
      · replace hge : 1 ≤ i := hgt
        clear hgt
        obtain rfl := eqi hi hge
        refine step_of ⟨some 4, _, _, _, _, _⟩ rfl (fun K' hK => ?_)
        go_simp
        go_at_call 13
        (with_reducible refine (Qc0.out _ (HE.out.below (below_none hF.low))).mono ?_)
        rintro e Wq ⟨rfl, hq⟩
        refine hK.out _ _ ⟨_, hF.pure hok hla hpre rfl hq, ?fr⟩
        case fr => simp only [putO, layL]
    · replace hge : 2 ≤ i := hgt
      clear hgt
      rcases Nat.lt_or_ge i 3 with hlt | hgt
      · replace hi := hlt
        clear hlt
        obtain rfl := eqi hi hge
        have p0 := hpre 0 (by kernel_rfl)
        have e0 : s0 = .agg #[.string (numS p), .string (denS p)] := hF.get 0 _ rfl (.inr p0)
        subst e0
        have p1 := hpre 1 (by kernel_rfl)
        have e1 : s1 = .agg #[.string (numS z), .string (denS z)] := hF.get 1 _ rfl (.inr p1)
        subst e1
        refine step_of ⟨some 5, _, _, _, _, _⟩ rfl (fun K' hK => ?_)
        go_simp
        go_at_call 184
        (with_reducible refine (Qc1.out _ (HE.out.below (below_none hF.low))).mono ?_)
        rintro e Wq ⟨rfl, hq⟩
        refine hK.out _ _ ⟨_, hF.pure hok hla hpre rfl hq, ?fr⟩
        case fr => simp only [putO, layL]
      · replace hge : 3 ≤ i := hgt
        clear hgt
        obtain rfl := eqi hi hge
        have p2 := hpre 2 (by kernel_rfl)
        have e2 : s2 = .int .i64 c := hF.get 2 _ rfl (.inr p2)
        subst e2
        refine step_of ⟨some 2, _, _, _, _, _⟩ rfl (fun K' hK => ?_)
        go_simp
        refine hK.out _ _ ⟨_, hF.pure hok hla hpre rfl (Below.refl _ _), ?fr⟩
        case fr => simp only [putO, layL]
  case hd =>
    rintro listed vs WA hF hall
    obtain ⟨s0, s1, s2, s3, hvs⟩ := exl_of 4 vs (fun l => vs = l) hF.len rfl
    subst hvs
    have e3 : s3 = .int .i64 c := hF.get 3 _ rfl (.inr (hall 3 (by decide)))
    subst e3
    have hq := below_none hF.low
    replace H1 := Lib.hid (keep_block H1.out hq)
    replace HE := Lib.hid (HE.out.below hq)
    replace HG := Lib.hid (HG.out.trans (hq.mono HG.out.size))
    clear hq
    clear hF hall hok hna hla
    simp only [putO, layL]
    clear geW lt_1
    go_wp2
    go_ret
    exact ⟨rfl, HG.out⟩

theorem c_sign {q : Rat} (hq : fits q = true) : Fun1 196 (fracV q) (.int .i64 (cmpR q 0)) := fun W g =>
  sign_walk q 0 (cmpR q 0) W (c_of (n := 0) (by decide)) (fun W g => compare_walk q 0 (cmpR q 0) W (fun W _ => compare_q q 0 W hq f0) g) g
theorem c_compare {p q : Rat} (hp : fits p = true) (hq : fits q = true) : Fun2 184 (fracV p) (fracV q) (.int .i64 (cmpR p q)) := fun W g =>
  compare_walk p q (cmpR p q) W (fun W _ => compare_q p q W hp hq) g
/-- stop where nothing is wrong -/
theorem stop_no (c : Int) (w : World) : Calls Tryz.prog 191 #[.bool false, .int .i64 c] w fun e w' => e = .returned (.tuple #[]) ∧ w' = w := by
  go_enter Tryz.func191, Tryz.ntmps191
  go_wp2
  go_end0
  exact ⟨rfl, rfl⟩
theorem some_any (a : Option Addr) (L C : Nat) (w : World) (h : 0 < L) : Calls Tryz.prog 186 #[.slice a L C] w fun e w' => e = .returned (.slice a L C) ∧ w' = w := by
  have h1 : ((L : Int) == 0) = false := by simp; omega
  have h2 : (L == 0) = false := by simp; omega
  go_enter Tryz.func186, Tryz.ntmps186
  go_wp2_with fail
  refine (stop_no 5 _).mono ?_
  rintro e w1 ⟨rfl, hw⟩
  replace hw := hw.symm
  subst hw
  go_wp2
  go_ret
  exact ⟨rfl, rfl⟩
end Go.Proofs.YtgponoogifeopaaGreatDoor.Num.Ft

/- package fstat's table of functions: how it lies as a map. No conditions. -/
namespace Go.Proofs.YtgponoogifeopaaGreatDoor.Num.Ft
open Go.RowKit Go.Lib Go.MapKept Num

attribute [local go_sem] run_store_func
/-- FREQUENCY's function stands bare -/
def isRaw (f : FuncId) : Bool := f == 105
/-- a function value that wraps the row's function, or is it -/
def RowFn (w : World) (v : Value) (r : Row) : Prop :=
  if isRaw r.fn = true then v = .func (.func r.fn) #[] #[]
  else if r.num then ∃ e f, v = .func (.func 180) #[] #[.pointer (some ⟨e, 0, none⟩)] ∧ w.cell? ⟨e, 0, none⟩ = some (.func (.func 185) #[] #[.pointer (some ⟨f, 0, none⟩)]) ∧ w.cell? ⟨f, 0, none⟩ = some (.func (.func r.fn) #[] #[])
  else ∃ e, v = .func (.func 180) #[] #[.pointer (some ⟨e, 0, none⟩)] ∧ w.cell? ⟨e, 0, none⟩ = some (.func (.func r.fn) #[] #[])
/-- an entry of the table as it lies in the map -/
def EntryAt (w : World) (x : MapEntry) (r : Row) : Prop := x.key = .string r.name ∧ ∃ v, x.val = .agg #[.int .i64 r.least, .int .i64 r.most, .string r.kinds, v] ∧ RowFn w v r
/-- block b is a map with just these rows -/
def TableAt (w : World) (b : Nat) (l : List Row) : Prop :=
  ∃ es clock, w.heap[b]? = some (.map es clock) ∧ es.size = l.length ∧ ∀ i (h : i < l.length) (h' : i < es.size), EntryAt w es[i] l[i]

theorem RowFn.mono {w w' : World} {v : Value} {r : Row} (h : RowFn w v r) (hc : ∀ (p : Addr) (x : Value), w.cell? p = some x → w'.cell? p = some x) : RowFn w' v r := by
  unfold RowFn at h ⊢
  split
  · rename_i hr
    rw [if_pos hr] at h
    exact h
  · rename_i hr
    rw [if_neg hr] at h
    split
    · rename_i hn
      rw [if_pos hn] at h
      obtain ⟨e, f, h1, h2, h3⟩ := h
      exact ⟨e, f, h1, hc _ _ h2, hc _ _ h3⟩
    · rename_i hn
      rw [if_neg hn] at h
      obtain ⟨e, h1, h2⟩ := h
      exact ⟨e, h1, hc _ _ h2⟩
theorem EntryAt.mono {w w' : World} {x : MapEntry} {r : Row} (h : EntryAt w x r) (hc : ∀ (p : Addr) (x : Value), w.cell? p = some x → w'.cell? p = some x) : EntryAt w' x r :=
  let ⟨hk, v, hv, hr⟩ := h; ⟨hk, v, hv, hr.mono hc⟩
theorem TableAt.below {w w' : World} {b : Nat} {l : List Row} (h : TableAt w b l) (hb : Below w.heap.size w w') : TableAt w' b l := by
  obtain ⟨es, clock, hm, hs, he⟩ := h
  exact ⟨es, clock, keep_block hm hb, hs, fun i hi hi' => (he i hi hi').mono fun p x hp => cell_below hp hb⟩
theorem TableAt.made (w : World) : TableAt (w.alloc (.map #[] 0)) w.heap.size [] := ⟨#[], 0, heap_alloc_new w _, rfl, fun _ hi => absurd hi (Nat.not_lt_zero _)⟩
theorem TableAt.store {w : World} {b mt kt et : Nat} {l : List Row} (h : TableAt w b l) (r : Row) (v : Value) (hr : RowFn w v r) (hf : Fresh r.name l) (hm : Tryz.prog.underlying mt = some (.map kt et)) (hk : Tryz.prog.underlying kt = some .string) :
    ∃ w', (Instr.mapUpdate mt (.map (some b)) (.string r.name) (.agg #[.int .i64 r.least, .int .i64 r.most, .string r.kinds, v])).run Tryz.prog w = .ok () w' ∧ TableAt w' b (l ++ [r]) ∧ w.grownBy w' (some b) := by
  obtain ⟨es, clock, hb, hs, he⟩ := h
  have hall : ∀ x ∈ es.toList, ∃ t, x.key = .string t ∧ (r.name == t) = false := by
    intro x hx
    obtain ⟨i, hi, rfl⟩ := List.getElem_of_mem hx
    have hi' : i < es.size := by simpa using hi
    have hil : i < l.length := by omega
    have := (he i hil hi').1
    exact ⟨l[i].name, by simpa using this, hf l[i] (List.getElem_mem hil)⟩
  have hfind := findNow_fresh r.name es.toList 0 hall
  have hc : (Instr.checkKey false 10000 kt (.string r.name)).run Tryz.prog w = .ok () w := MapKept.run_checkKey (k := .string r.name) hk (by simp [IsKey]) false 9999
  refine ⟨putMap w b (.map (es.push { key := .string r.name, val := .agg #[.int .i64 r.least, .int .i64 r.most, .string r.kinds, v], born := clock }) (clock + 1)), ?_, ?_, putMap_grown hb⟩
  · simp [Instr.mapUpdate, run_underlying hm, MapKept.run_getObj_map hb, hc, MapKept.run_findKey hk hfind, MapKept.run_setObj_map _ hb, Result.andThen, putMap]
  · refine ⟨_, _, (heap_set hb).1, by simp [hs], fun i hi hi' => ?_⟩
    by_cases hlt : i < es.size
    · have hil : i < l.length := by omega
      rw [Array.getElem_push_lt hlt, List.getElem_append_left hil]
      exact (he i hil hlt).mono (putMap_cell hb)
    · have : i = es.size := by simp at hi'; omega
      subst this
      rw [Array.getElem_push_eq]
      have hl : (l ++ [r])[es.size] = r := by simp [hs]
      rw [hl]
      exact ⟨rfl, v, rfl, hr.mono (putMap_cell hb)⟩
/-- the row at a name -/
theorem TableAt.look {w : World} {b mt kt et : Nat} {l : List Row} (h : TableAt w b l) (i : Nat) (hi : i < l.length) (hf : ∀ j (hj : j < i), (l[i].name == (l[j]'(by omega)).name) = false) (hm : Tryz.prog.underlying mt = some (.map kt et)) (hk : Tryz.prog.underlying kt = some .string) :
    ∃ v, RowFn w v l[i] ∧ (Instr.lookup mt (.map (some b)) (.string l[i].name) true).run Tryz.prog w = .ok (.tuple #[.agg #[.int .i64 l[i].least, .int .i64 l[i].most, .string l[i].kinds, v], .bool true]) w := by
  obtain ⟨es, clock, hb, hs, he⟩ := h
  have hi' : i < es.size := by omega
  obtain ⟨hkey, v, hv, hr⟩ := he i hi hi'
  refine ⟨v, hr, ?_⟩
  have hat : es.toList[i]? = some es[i] := by simp [hi']
  have hfind := findNow_at l[i].name es.toList i 0 es[i] hat hkey (fun j y hj hy => by
    have hjl : j < l.length := by omega
    have hje : j < es.size := by omega
    have hy' : es[j] = y := by simpa [hje] using hy
    exact ⟨l[j].name, by rw [← hy']; exact (he j hjl hje).1, hf j hj⟩)
  rw [Nat.zero_add, hv] at hfind
  have hc : (Instr.checkKey es.isEmpty 10000 kt (.string l[i].name)).run Tryz.prog w = .ok () w := MapKept.run_checkKey (k := .string l[i].name) hk (by simp [IsKey]) _ 9999
  simp [Instr.lookup, run_underlying hm, MapKept.run_getObj_map hb, hc, MapKept.run_findKey hk hfind, Result.andThen]

section
variable {ops : Array Oper} {rest : List Oper} {o : Oper} {a : Act} {Q : Exit → Act → World → Prop}
theorem wpList_insert_row (w : World) (hg : o.guard = none) (m x u : Operand) (t : TypeId) (hop : o.op = Op.insert t m x u ∨ o.op = Op.mapUpdate t m x u) {b kt et : Nat} {l : List Row} (hm : a.eval m = .map (some b)) (h : TableAt w b l) (r : Row) (v : Value) (hx : a.eval x = .string r.name) (hv : a.eval u = .agg #[.int .i64 r.least, .int .i64 r.most, .string r.kinds, v]) (hr : RowFn w v r) (hf : Fresh r.name l) (ht : Tryz.prog.underlying t = some (.map kt et)) (hk : Tryz.prog.underlying kt = some .string)
    (hK : ∀ w', TableAt w' b (l ++ [r]) → w.grownBy w' (some b) → wpList Tryz.prog ops Q rest (a.put o.dst undef) w') :
    wpList Tryz.prog ops Q (o :: rest) a w := by
  refine wpList_plain hg fun K' hK' => ?_
  obtain ⟨w', hrun, r1, r2⟩ := h.store r v hr hf ht hk
  unfold Oper.wp
  rcases hop with hop | hop
  · simp [execOp, hop, hm, hx, hv, hrun, Result.andThen]
    exact hK' _ _ (hK w' r1 r2)
  · simp [execOp, hop, hm, hx, hv, hrun, Result.andThen]
    exact hK' _ _ (hK w' r1 r2)
end

end Go.Proofs.YtgponoogifeopaaGreatDoor.Num.Ft

/- package value: the closure that Run hands to Lift, at fstat. Conditions: the tables lie as they are laid. -/
namespace Go.Proofs.YtgponoogifeopaaGreatDoor.Num.Ft
open Go.RowKit Go.Lib Go.MapKept Num

set_option maxHeartbeats 4000000 in
set_option maxRecDepth 100000 in
theorem run1_value (pb _f e : Nat) (sl : Value) (k : Int) (n d t : ByteArray) (on : Bool) (c : Int) (A : Option Addr) (L C : Nat) (w : World) (hs : ∃ a l c, sl = .slice a l c) (hc : w.cell? ⟨pb, 3, none⟩ = some (.func (.func 180) #[] #[.pointer (some ⟨e, 0, none⟩)])) (hE : Env w)
    (hF : ∀ W, Below w.heap.size w W → Calls Tryz.prog 180 #[sl, .pointer (some ⟨e, 0, none⟩)] W fun e w' => e = .returned (.agg #[.int .i64 k, .string n, .string d, .string t, .bool on, .int .i64 c, .int .i64 0, .int .i64 0, .slice A L C]) ∧ Below W.heap.size W w') :
    Calls Tryz.prog 36 #[sl, .pointer (some ⟨pb, 0, none⟩)] w fun e w' => e = .returned (.agg #[.int .i64 k, .string n, .string d, .string t, .bool on, .int .i64 c, .int .i64 0, .int .i64 0, .slice A L C]) ∧ Below w.heap.size w w' := by
  obtain ⟨sa, slen, sc, rfl⟩ := hs
  have hmf : ∀ (fn : Fn) (first cap : Array Value) (w : World), (Instr.makeFunc fn first cap).run Tryz.prog w = .ok (.func fn first cap) w := fun _ _ _ _ => rfl
  have hb : Below w.heap.size w (w.alloc (.cells #[.int .i64 0, .string { data := #[] }, .string { data := #[] }, .string { data := #[] }, .bool false, .int .i64 0, .int .i64 0, .int .i64 0, .slice none 0 0] 27)) := (Below.refl _ _).alloc (Nat.le_refl _) _
  have HR := Lib.hid (heap_alloc_new w (.cells #[.int .i64 0, .string { data := #[] }, .string { data := #[] }, .string { data := #[] }, .bool false, .int .i64 0, .int .i64 0, .int .i64 0, .slice none 0 0] 27))
  have HX := Lib.hid (cell_below hc hb)
  have HL := Lib.hid hb
  have HE := Lib.hid (hE.below hb)
  have TF := Lib.hid (hF _ hb)
  clear hb hc hE hF
  obtain x3 := HX.out
  go_enter_defers Tryz.func36, Tryz.ntmps36
  go_wp2_with fail
  refine TF.out.mono ?_
  rintro e w1 ⟨rfl, hb⟩
  replace HR := Lib.hid (keep_block HR.out hb)
  replace HE := Lib.hid (HE.out.below hb)
  replace HL := Lib.hid (HL.out.trans (hb.mono HL.out.size))
  clear hb
  obtain ⟨⟨r0, r1, r2, r3, r4, r5, r6, r7, r8⟩, g0, g1, g2, g3, g4, g5, g6, g7, g8⟩ := nine_at HR.out
  have HR2 := Lib.hid (set9_at HR.out (.int .i64 k) (.string n) (.string d) (.string t) (.bool on) (.int .i64 c) (.int .i64 0) (.int .i64 0) (.slice A L C))
  have HL2 := Lib.hid (nine_end (x0 := (.int .i64 k)) (x1 := (.string n)) (x2 := (.string d)) (x3 := (.string t)) (x4 := (.bool on)) (x5 := (.int .i64 c)) (x6 := (.int .i64 0)) (x7 := (.int .i64 0)) (x8 := (.slice A L C)) HR.out HL.out (Nat.le_refl _)).1
  go_wp2_with fail
  obtain ⟨W2, hW2⟩ : ∃ W2, (((((((((w1.setCell ⟨w.heap.size, 0, none⟩ (.int .i64 k)).setCell ⟨w.heap.size, 1, none⟩ (.string n)).setCell ⟨w.heap.size, 2, none⟩ (.string d)).setCell ⟨w.heap.size, 3, none⟩ (.string t)).setCell ⟨w.heap.size, 4, none⟩ (.bool on)).setCell ⟨w.heap.size, 5, none⟩ (.int .i64 c)).setCell ⟨w.heap.size, 6, none⟩ (.int .i64 0)).setCell ⟨w.heap.size, 7, none⟩ (.int .i64 0)).setCell ⟨w.heap.size, 8, none⟩ (.slice A L C)) = W2 := ⟨_, rfl⟩
  rw [hW2] at HR2 HL2 ⊢
  clear hW2 r0 r1 r2 r3 r4 r5 r6 r7 r8 g0 g1 g2 g3 g4 g5 g6 g7 g8
  obtain ⟨⟨r0, r1, r2, r3, r4, r5, r6, r7, r8⟩, g0, g1, g2, g3, g4, g5, g6, g7, g8⟩ := nine_at HR2.out
  go_quiet (fail)
  have HR3 := Lib.hid (show (W2.drewN nq).heap[w.heap.size]? = _ from HR2.out)
  obtain ⟨nb, e0, e1, e2, e3, e4, e5, e6, e7, e8⟩ := nine_end (x0 := (.int .i64 k)) (x1 := (.string n)) (x2 := (.string d)) (x3 := (.string t)) (x4 := (.bool on)) (x5 := (.int .i64 c)) (x6 := (.int .i64 0)) (x7 := (.int .i64 0)) (x8 := (.slice A L C)) HR3.out (below_drewN HL2.out nq) (Nat.le_refl _)
  go_wp2
  refine leaves_cons (f := 37) (args := #[.pointer (some ⟨w.heap.size, 0, none⟩)]) (by simp) (by simp [go_sem]) ?_
  refine (idle_any _ _).mono ?_
  rintro e u' w3 ⟨rfl, rfl, rfl⟩
  exact ⟨_, (by simp [results, Tryz.results36, go_sem, e0, e1, e2, e3, e4, e5, e6, e7, e8]), rfl, nb⟩

end Go.Proofs.YtgponoogifeopaaGreatDoor.Num.Ft
