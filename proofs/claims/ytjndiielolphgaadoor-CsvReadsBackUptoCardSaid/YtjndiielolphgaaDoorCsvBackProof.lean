/- CsvReadsBack returns true and leaves its arguments as they were; its card, second form. Conditions: the arguments hold at most 1048576 values and letters together. -/
import Derived.Test.YtjndiielolphgaaDoorCards
import Derived.Test.YtjndiielolphgaaDoorTie
import Derived.Test.YtjndiielolphgaaDoorCsvBackLaw
import Derived.Test.YtjndiielolphgaaDoorLaid
import Derived.OpenShut
import Derived.ShutString
namespace Go.Proofs.YtjndiielolphgaaDoor.csvReadsBack
open Go.ChangeShapes Go.WideShapes Go.ChangeAt Go.RowKit
open Go.ChangeMaps (open_string shut_string)
set_option linter.unusedVariables false

theorem own : ownKnob Tryd.prog.godebug = none := by kernel_rfl

theorem fieldOut_le (c : UInt8) (n : Nat) (f : Csv.Bytes) : (Csv.fieldOut c n f).length ≤ 2 * f.length + 2 := by
  have := esc_len f
  unfold Csv.fieldOut; split <;> simp <;> omega
theorem cellsOut_le (c : UInt8) (n : Nat) : ∀ (row : List Csv.Bytes) (i : Nat), (Csv.cellsOut c n i row).length ≤ 3 * bulkS row
  | [], _ => by simp [Csv.cellsOut]
  | f :: r, i => by
    have h1 := cellsOut_le c n r (i + 1)
    have h2 := fieldOut_le c n f
    have h3 : (if i = 0 then ([] : Csv.Bytes) else [c]).length ≤ 1 := by split <;> simp
    have h4 : bulkS (f :: r) = f.length + 1 + bulkS r := by simp [bulkS]
    simp only [Csv.cellsOut, List.length_append]
    omega
theorem printOut_le (c : UInt8) : ∀ rows : List (List Csv.Bytes), (Csv.printOut c rows).length ≤ 3 * bulkR rows
  | [] => by simp [Csv.printOut]
  | r :: rows => by
    have h1 := printOut_le c rows
    have h2 := cellsOut_le c r.length r 0
    have h3 : Csv.printOut c (r :: rows) = Csv.cellsOut c r.length 0 r ++ 10 :: Csv.printOut c rows := by simp [Csv.printOut, Csv.rowOut]
    have h4 : bulkR (r :: rows) = bulkS r + 1 + bulkR rows := by simp [bulkR]
    rw [h3, h4]
    simp only [List.length_append, List.length_cons]
    omega
theorem len_bulkS : ∀ r : List Csv.Bytes, r.length ≤ bulkS r
  | [] => by simp
  | f :: r => by
    have := len_bulkS r
    have h4 : bulkS (f :: r) = f.length + 1 + bulkS r := by simp [bulkS]
    rw [h4]; simp only [List.length_cons]; omega
theorem len_bulkR : ∀ rows : List (List Csv.Bytes), rows.length ≤ bulkR rows ∧ ∀ r ∈ rows, r.length ≤ bulkR rows
  | [] => by simp
  | x :: rows => by
    obtain ⟨h1, h2⟩ := len_bulkR rows
    have h3 := len_bulkS x
    have h4 : bulkR (x :: rows) = bulkS x + 1 + bulkR rows := by simp [bulkR]
    rw [h4]
    refine ⟨by simp only [List.length_cons]; omega, fun r hr => ?_⟩
    rcases List.mem_cons.1 hr with rfl | hr
    · omega
    · have := h2 r hr; omega

theorem bulkR_full : ∀ rows : List (List Csv.Bytes), bulkR (full rows) ≤ bulkR rows
  | [] => by simp [full]
  | r :: rows => by
    have h := bulkR_full rows
    have h4 : bulkR (r :: rows) = bulkS r + 1 + bulkR rows := by simp [bulkR]
    rw [h4]
    cases hr : r.isEmpty with
    | true =>
      have : full (r :: rows) = full rows := by simp [full, hr]
      rw [this]; omega
    | false =>
      have : full (r :: rows) = r :: full rows := by simp [full, hr]
      have h5 : bulkR (r :: full rows) = bulkS r + 1 + bulkR (full rows) := by simp [bulkR]
      rw [this, h5]; omega

theorem law_any (v : Value) (rows : List (List Csv.Bytes)) (k : Int) (W : World) (hrows : RowsAt W v rows) (hbulk : bulkR rows ≤ 1048576)
    (hm : ∃ m, W.cell? ⟨2, 0, none⟩ = some (.int .i64 m)) :
    Calls Tryd.prog 5 #[v, .int .i64 k] W fun e w' => e = .returned (.bool true) ∧ Below W.heap.size W w' := by
  obtain ⟨hl1, hl2⟩ := len_bulkR rows
  have hf := bulkR_full rows
  exact back_any v rows k W hrows (by omega) (fun r hr => by have := hl2 r hr; omega) (fun c => by have := printOut_le c (full rows); omega) hm

theorem cellsT : Tryd.prog.cellsOf 35 = 1 := by kernel_rfl
theorem cellsS : Tryd.prog.cellsOf 9 = 1 := by kernel_rfl
theorem laidOut : laidOutB Tryd.prog = true := by kernel_rfl

set_option maxRecDepth 100000 in
/-- what the walks give, for both forms -/
theorem contract (H : Type) (enc : TypeId × Value → H) (W : World) (base : Nat) (args : Array Value) (ds gs : List (DataW H)) (before : List MemPlace)
    (hval0 : ∀ (j : Nat) t v, Tryd.f5.params[j]? = some t → args[j]? = some v → Value.okWide Tryd.prog W .any base t v)
    (hW : DataW.Whole enc Tryd.prog Tryd.f5.params.toList Rows.csvReadsBackSpec.vars false W args.toList ds gs before) (hcond : Rows.uptoSmall H (ds ++ gs) = true) (hsh : W.ShapedOpen Tryd.prog) :
    Calls Tryd.prog 5 args W fun e W' => ∃ v, e = .returned v ∧ Rows.csvReadsBackSpec.post enc Tryd.prog Tryd.f5 false true false false W args v W' := by
  have hval : ∀ (j : Nat) t v, Tryd.f5.params[j]? = some t → args[j]? = some v → Value.okWide Tryd.prog W .any base t v := hval0
  have hW' := hW
  obtain ⟨p, q, hA0, hV, rfl, hfz, hnd⟩ := hW
  have hA : DataW.TrodAll enc Tryd.prog W 0 (fun _ => true) true Tryd.f5.params.toList args.toList ds p := hA0
  rw [Tryd.params5] at hA hval
  obtain ⟨v0, vs0, d0, ds0, p0, q0, hargs, rfl, rfl, h0, r0⟩ := trodAll_cons hA
  obtain ⟨v1, vs1, d1, ds1, p1, q1, rfl, rfl, rfl, h1, r1⟩ := trodAll_cons r0
  obtain ⟨rfl, rfl, rfl⟩ := trodAll_nil r1
  obtain rfl : args = #[v0, v1] := by cases args; simp_all
  obtain ⟨rfl, rfl⟩ := trodVars_none hV
  obtain ⟨fuel, hf⟩ := h0
  obtain ⟨a0, len, cap, rfl⟩ := okWide_slice Tryd.underlying31 (hval 0 31 v0 rfl rfl)
  obtain ⟨rows, hrows, hbk⟩ := open_rowsAt Tryd.underlying31 Tryd.underlying35 Tryd.underlying9 cellsT cellsS hf
  obtain ⟨a1, rfl, rfl, rfl, w1⟩ := open_int Tryd.underlying3 (hval 1 3 v1 rfl rfl) h1
  clear hA0 hval0
  simp only [List.append_nil] at hW'
  have hlt : ∀ x ∈ p0, x.block < W.heap.size := fun x hx => by simpa using hW'.lt x (by simpa using hx)
  have hbulk : bulkR rows ≤ 1048576 := by
    have hbk2 : bulkR rows + 1 ≤ Rows.uptoBulk d0 := hbk
    have := of_decide_eq_true hcond
    simp only [List.append_nil, Rows.uptoBulkAll] at this
    omega
  refine (law_any _ rows a1 W hrows hbulk (Tryd.laysM155.s1_3 W hsh)).mono fun e W' ⟨he, hg⟩ => ?_
  subst he
  exact ⟨_, rfl, _, _, _, [], _, [], hW', trodAll_cons_mk (shut_bool Tryd.underlying4 _) trodAll_mk0, trodAll_cons_mk (Below.trod laidOut (by kernel_rfl) (of_decide_eq_true (by kernel_rfl)) ⟨fuel, hf⟩ hg hlt) (trodAll_cons_mk (shut_int Tryd.underlying3 w1) trodAll_mk0), rfl, hg.frame _, fun h => by cases h⟩

theorem reads (os : Os) {H : Type} (enc : TypeId × Value → H) : ∃ places, DataW.whole enc Tryd.prog ((laidWorld os).forCall (fun _ _ => 0) ⟨#[], #[.slice none 0 0, .int .i64 0], []⟩).memory Tryd.f5.params.toList Rows.csvReadsBackSpec.vars false #[Value.slice none 0 0, .int .i64 0].toList 8 = some ([.nil, .lit (.int .i64 0)], [], places) :=
  ⟨[], by kernel_rfl⟩

set_option maxRecDepth 100000 in
theorem lifted (os : Os) (started : os.Started) (H : Type) (enc : TypeId × Value → H) (F : Stop.Interp) :
    ReturnsInHanded {} Tryd.checked os 5 .any ((Rows.OpenSpec.upto Rows.csvReadsBackSpec).preRow enc Tryd.prog Tryd.f5 Rows.csvReadsBackUptoRow.domain false Rows.csvReadsBackUptoRow.laid) (((Rows.OpenSpec.upto Rows.csvReadsBackSpec).at F).post enc Tryd.prog Tryd.f5 false true false false) := by
  obtain ⟨places, hx⟩ := reads os enc
  refine returnsInHanded_of_row (C := Tryd.checked) (s := Rows.OpenSpec.upto Rows.csvReadsBackSpec) own started (by kernel_rfl) Tryd.func5
    (witness_row_at (enc := enc) (C := Tryd.checked) false (laidWorld os) #[.slice none 0 0, .int .i64 0] rfl (by kernel_rfl) (by kernel_rfl) (by kernel_rfl)
      (OpenSpec.preRow_of_cond 8 hx (by kernel_rfl) (fun k hk => by cases hk; kernel_rfl) (by kernel_rfl) (laid_met os _))) ?_
  intro W base args ds gs before hval hW _ hcond _ _ hsh _
  exact contract H enc W base args ds gs before hval hW (hcond _ rfl) hsh

theorem said : Rows.CsvReadsBackUptoSaid :=
  OpenClaim.holds_of_cond 5 Tryd.f5 rfl rfl rfl rfl rfl rfl rfl ⟨rfl, rfl, rfl, rfl, rfl⟩ rfl rfl rfl rfl rfl (by kernel_rfl) Tryd.func5 (by kernel_rfl)
    (of_decide_eq_true (by kernel_rfl)) (by unfold Func.isWrapper; first | (rw [if_pos (by decide +kernel)]; kernel_rfl) | (rw [if_neg (by decide +kernel)]; exact ⟨rfl, rfl⟩))
    (fun os started H enc _ F => by rw [OpenClaim.pre_eq_preRow]; exact lifted os started H enc F)

theorem plain (f : FuncId) (fn : Func) (hf : Tryd.pinned.checked.prog.funcNamed "chancery/chancerykeep2.CsvReadsBack" = some f) (hfn : Tryd.pinned.checked.prog.funcs[f]? = some fn) :
    false = Tryd.pinned.checked.prog.looks [] ∧ ∀ (j : Nat) t, fn.params[j]? = some t → Tryd.pinned.checked.prog.wantsStandIn t = false := by
  obtain rfl : f = 5 := Option.some.inj ((show Tryd.prog.funcNamed "chancery/chancerykeep2.CsvReadsBack" = some 5 by kernel_rfl).symm.trans hf) |>.symm
  obtain rfl : fn = Tryd.f5 := (Option.some.inj (Tryd.func5.symm.trans hfn)).symm
  refine ⟨by kernel_rfl, fun j t ht => ?_⟩
  rw [Tryd.params5] at ht
  have hm := Array.mem_of_getElem? ht
  simp only [List.mem_toArray, List.mem_cons, List.not_mem_nil, or_false] at hm
  rcases hm with rfl | rfl
  · exact (show Tryd.prog.wantsStandIn 31 = false by kernel_rfl)
  · exact (show Tryd.prog.wantsStandIn 3 = false by kernel_rfl)

/-- the card: the given statement -/
theorem proved : Rows.CsvReadsBackUptoCardSaid :=
  Claim7.holds_tied_plain_at .later [] _ _ _ _ said (fun _ h => by cases h) (by kernel_rfl) (fun _ h => by cases h) csvReadsBackUpto_row_tie rfl ⟨rfl, rfl⟩ (by kernel_rfl) rfl plain (by kernel_rfl)
end Go.Proofs.YtjndiielolphgaaDoor.csvReadsBack
