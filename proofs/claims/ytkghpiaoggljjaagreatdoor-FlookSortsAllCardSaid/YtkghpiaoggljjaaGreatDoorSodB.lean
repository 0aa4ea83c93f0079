/- Numbers as texts of digits, fractions, values and the functions of fmath: contracts of the program's functions, joined from smaller texts. Conditions stand at each theorem. -/
import Derived.Test.YtkghpiaoggljjaaGreatDoorSodA
import Derived.Laws.AppendOwn
import Derived.Test.YtkghpiaoggljjaaGreatDoorNumG
import Derived.Below
import Derived.Lib.MinMax
import Derived.Deep.RegionLaw
set_option linter.unusedVariables false
set_option linter.unusedSimpArgs false

/- the law's math at arguments that are numbers or arrays of numbers: SUM, SUMSQ. Conditions: all numbers fit; the tables lie as they are laid. -/
namespace Go.Proofs.YtkghpiaoggljjaaGreatDoor.Num
open Go.RowKit Go.Lib

/-- an argument that is a number or an array of numbers -/
def AArg (W : World) (v : Val) (qs : List Rat) : Prop :=
 (∃ q, v = numVal' q ∧ qs = [q]) ∨ ∃ r s g C, v = arrVal' r s g qs.length C ∧ 1 ≤ r ∧ r ≤ 1000 ∧ 1 ≤ s ∧ s ≤ 1000 ∧ r * s = (qs.length : Int) ∧ 0 < qs.length ∧ qs.length ≤ 1000 ∧ ValsAt W g 0 (numVals qs)
theorem AArg.below {W W' : World} {v : Val} {qs : List Rat} (h : AArg W v qs) (hb : Below W.heap.size W W') : AArg W' v qs := by
 rcases h with h | ⟨r, s, g, C, h1, h2, h3, h4, h5, h6, h7, h8, h9⟩
 ·exact .inl h
 ·exact .inr ⟨r, s, g, C, h1, h2, h3, h4, h5, h6, h7, h8, h9.below hb⟩
theorem items_lt {W : World} {g : Nat} {qs : List Rat} (h : ValsAt W g 0 (numVals qs)) (h0 : 0 < qs.length) : g < W.heap.size :=
 cell_lt (h.at 0 (by rw [numVals_len]; exact h0)).1
theorem items_ne {W : World} {g b L C n : Nat} {A : Option Addr} {qs : List Rat} (h : ValsAt W g 0 (numVals qs)) (h0 : 0 < qs.length) (ha : ArgsAt W b A L C n) : g ≠ b := by
 rintro rfl
 have h1 := (item_at h 0 h0 _ rfl).1
 rw [Nat.zero_mul] at h1
 have h2 := Lib.cell_of_heap ha 0
 rw [h1] at h2
 simp at h2
theorem AArg.narg {W : World} {v : Val} {qs : List Rat} {b L C n : Nat} {A : Option Addr} (h : AArg W v qs) (ha : ArgsAt W b A L C n) : NArg W b W.heap.size v qs := by
 rcases h with h | ⟨r, s, g, C, h1, h2, h3, h4, h5, h6, h7, h8, h9⟩
 ·exact .inl h
 ·exact .inr ⟨r, s, g, C, h1, h7, h8, items_lt h9 h7, items_ne h9 h7 ha, h9⟩
theorem AArg.check {W : World} {v : Val} {qs : List Rat} (h : AArg W v qs) (hq : ∀ q ∈ qs, fits q = true) (hE : Env W) : Calls Tryz.prog 24 #[v.agg] W fun e w' => e = .returned (.int .i64 0) ∧ Below W.heap.size W w' := by
 rcases h with ⟨q, rfl, rfl⟩ | ⟨r, s, g, C, rfl, h2, h3, h4, h5, h6, h7, h8, h9⟩
 ·exact check_num q W (hq q (by simp)) hE
 ·exact check_arr qs r s g C W h2 h3 h4 h5 h6 hq h8 h9 hE

/-- arguments in a row, each a number or an array -/
def Args2 (W : World) (vs : List Val) (qss : List (List Rat)) : Prop := qss.length = vs.length ∧ ∀ j (h : j < vs.length) (h' : j < qss.length), AArg W vs[j] qss[j]
theorem Args2.below {W W' : World} {vs : List Val} {qss : List (List Rat)} (h : Args2 W vs qss) (hb : Below W.heap.size W W') : Args2 W' vs qss := ⟨h.1, fun j hj hj' => (h.2 j hj hj').below hb⟩
theorem Args2.short {W : World} {vs : List Val} {qss : List (List Rat)} (h : Args2 W vs qss) : ∀ qs ∈ qss, qs.length ≤ 1000 := by
 intro qs hq
 obtain ⟨j, hj, rfl⟩ := List.mem_iff_getElem.1 hq
 rcases h.2 j (by rw [← h.1]; exact hj) hj with ⟨q, _, e⟩ | ⟨r, s, g, C, h1, h2, h3, h4, h5, h6, h7, h8, h9⟩
 ·rw [e]; simp
 ·exact h8

set_option maxHeartbeats 4000000 in
set_option maxRecDepth 100000 in
theorem fn_sum_mix (vs : List Val) (qss : List (List Rat)) (b g C : Nat) (w : World) (h9 : vs.length ≤ 300) (hA : Args2 w vs qss) (hq : ∀ qs ∈ qss, ∀ q ∈ qs, fits q = true) (h0 : 0 < qss.flatten.length) (h99 : qss.flatten.length ≤ 300000) (hf : ∀ k, k ≤ qss.flatten.length → fits (sumL (qss.flatten.take k)) = true) (ha : ArgsAt w b (some ⟨g, 0, none⟩) vs.length C 0) (hv : ValsAt w g 0 vs) (hgb : g ≠ b) (hg0 : g < w.heap.size) (hE : Env w) (hP : Past b) :
  Calls Tryz.prog 174 #[.pointer (some ⟨b, 0, none⟩)] w fun e w' => e = .returned (fracV (sumL qss.flatten)) ∧ w.grownBy w' (some b) := by
 have hb : Below w.heap.size w (w.alloc (.cells #[.string { data := #[] }, .string { data := #[] }] 24)) := (Below.refl _ _).alloc (Nat.le_refl _) _
 have HR := Lib.hid (heap_alloc_new w (.cells #[.string { data := #[] }, .string { data := #[] }] 24))
 have HL := Lib.hid hb
 have TN := Lib.hid (numbers_mix vs qss b g C (w.alloc (.cells #[.string { data := #[] }, .string { data := #[] }] 24)) h9 hA.1 hA.short hq (keep_block ha hb) (hv.below hb) (fun j hj hj' => ((hA.below hb).2 j hj hj').narg (show ArgsAt (w.alloc (.cells #[.string { data := #[] }, .string { data := #[] }] 24)) b (some ⟨g, 0, none⟩) vs.length C 0 from keep_block ha hb)) hgb (by simp; omega) (hE.below hb) hP)
 have NRB := Lib.hid (show w.heap.size ≠ b from Nat.ne_of_gt (heap_lt ha))
 have HQ := Lib.hid (show ∀ q ∈ qss.flatten, fits q = true from fun q hqm => by obtain ⟨qs, h1, h2⟩ := List.mem_flatten.1 hqm; exact hq qs h1 q h2)
 have HF := Lib.hid hf
 obtain ⟨qs, hqs⟩ : ∃ qs, qss.flatten = qs := ⟨_, rfl⟩
 rw [hqs] at TN HQ HF h0 h99 ⊢
 obtain ⟨L, hL⟩ : ∃ L, qs.length = L := ⟨_, rfl⟩
 have HLL := Lib.hid hL
 rw [hL] at h0 h99
 clear hb ha hv hgb hg0 hE hq hf hP hL hA hqs
 rw [fracV_is (sumL qs)]
 go_enter Tryz.func174, Tryz.ntmps174
 go_wp2_with fail
 refine TN.out.mono ?_
 rintro e w1 ⟨v, rfl, hown, henv, hg⟩
 obtain ⟨gg, cap, rfl, _, _, hfr⟩ := hown.at (by rw [HLL.out]; exact h0)
 have TT := Lib.hid (total_any qs gg cap w1 (by rw [HLL.out]; exact h0) (by rw [HLL.out]; omega) hfr HQ.out HF.out henv)
 rw [fracV_is (sumL qs)] at TT
 replace HR := Lib.hid (kept_block HR.out hg NRB.out)
 have HG := Lib.hid (kept_trans (kept_below (b := b) HL.out) hg)
 clear hown henv hg hfr
 go_wp2_with fail
 refine TT.out.mono ?_
 rintro e w2 ⟨rfl, hb⟩
 replace HR := Lib.hid (keep_block HR.out hb)
 replace HG := Lib.hid (kept_trans HG.out (kept_below hb))
 clear hb
 obtain ⟨⟨r0, r1⟩, rf0, rf1⟩ := two_at HR.out
 have hF := set2_at HR.out (.string (numS (sumL qs))) (.string (denS (sumL qs)))
 obtain ⟨⟨e0, e1⟩, _⟩ := two_at hF
 have HG2 := Lib.hid (kept2 HG.out (Nat.le_refl _) (.string (numS (sumL qs))) (.string (denS (sumL qs))))
 clear hF
 go_wp2
 refine bodyPost_ret (v := .agg #[.string (numS (sumL qs)), .string (denS (sumL qs))]) (by simp [results, Tryz.results174, go_sem, e0, e1]) rfl ⟨rfl, HG2.out⟩
end Go.Proofs.YtkghpiaoggljjaaGreatDoor.Num

/- package fmath: SUMSQ at numbers and arrays of numbers. Conditions: all numbers fit; the tables lie as they are laid. -/
namespace Go.Proofs.YtkghpiaoggljjaaGreatDoor.Num
open Go.RowKit Go.Lib

/-- a row of fractions in a block that may be written -/
def RowB (W : World) (g : Nat) (xs : List Rat) : Prop := ∃ cur, W.heap[g]? = some (.cells cur 24 (0, 0)) ∧ ∀ i (h : i < xs.length), cur[i * 2]? = some (.string (numS xs[i])) ∧ cur[i * 2 + 1]? = some (.string (denS xs[i]))
/-- what stays while the numbers are squared: the row, in part squared; the result's block -/
structure SqI (w1 : World) (gg R : Nat) (qs : List Rat) (k : Nat) (W : World) : Prop where
 row : ∃ xs : List Rat, xs.length = qs.length ∧ (∀ j (h : j < xs.length) (h' : j < qs.length), xs[j] = if j < k then qs[j] * qs[j] else qs[j]) ∧ RowB W gg xs
 res : W.heap[R]? = some (.cells #[.string { data := #[] }, .string { data := #[] }] 24 (0, 0))
 env : Env W
 low : w1.grownBy W (some gg)
end Go.Proofs.YtkghpiaoggljjaaGreatDoor.Num

/- package value and fmath: Size, List, Inside, faults at arguments that are numbers or arrays. Conditions: all numbers fit; the tables lie as they are laid. -/
namespace Go.Proofs.YtkghpiaoggljjaaGreatDoor.Num
open Go.RowKit Go.Lib

/-- a number, or an array of r rows and s columns -/
def PArg (W : World) (v : Val) (r s : Int) (qs : List Rat) : Prop :=
 (∃ q, v = numVal' q ∧ qs = [q] ∧ r = 1 ∧ s = 1) ∨ ∃ g C, v = arrVal' r s g qs.length C ∧ 1 ≤ r ∧ r ≤ 1000 ∧ 1 ≤ s ∧ s ≤ 1000 ∧ r * s = (qs.length : Int) ∧ 0 < qs.length ∧ qs.length ≤ 1000 ∧ ValsAt W g 0 (numVals qs)
/-- arguments in a row, each with its shape -/
def PArgs (W : World) (vs : List Val) : Prop := ∀ j (h : j < vs.length), ∃ r s qs, PArg W vs[j] r s qs
structure FauI (w : World) (g : Nat) (vs : List Val) (W : World) : Prop where
 vals : ValsAt W g 0 vs
 parts : PArgs W vs
 env : Env W
 low : Below w.heap.size w W
end Go.Proofs.YtkghpiaoggljjaaGreatDoor.Num

/- Two arguments, one argument: numbers or arrays of numbers. No conditions. -/
namespace Go.Proofs.YtkghpiaoggljjaaGreatDoor.Num
open Go.RowKit Go.Lib

end Go.Proofs.YtkghpiaoggljjaaGreatDoor.Num

/- A row of the call's own lies behind what stood. No conditions. -/
namespace Go.Proofs.YtkghpiaoggljjaaGreatDoor.Num
open Go

theorem owned_lt {B n z : Nat} {S : TypeId} {xs : List Value} {W : World} {v : Value} (h : W.ownsRow B S z v n xs) : ∀ r, v.ownBlock = some r → B ≤ r := by
 intro r hr
 rcases h.2 with ⟨rfl, _⟩ | ⟨g, cap, cur, rfl, hb, _⟩
 ·simp [Value.ownBlock] at hr
 ·simp [Value.ownBlock] at hr; omega
end Go.Proofs.YtkghpiaoggljjaaGreatDoor.Num

/- the laws' own array: at most 12 numbers as one value. Conditions: the tables lie as they are laid. -/
namespace Go.Proofs.YtkghpiaoggljjaaGreatDoor.Num
open Go.RowKit Go.Lib

/-- append to a row of the call's own, as one step of a region that draws -/
theorem step_append_own {P : Program} {ops : Array Oper} {o : Oper} {a : Act} {w : World} {K : Act → World → Prop} {Q : Exit → Act → World → Prop} {E : Prop} (hgd : o.guard = none) (s x : Operand) (t : TypeId)
  (ho : o.op = .call { callee := .builtin .append, args := #[s, x], argTypes := #[t, t] })
  (base : Nat) (e : TypeId) (i : TypeInfo) (z : Value) (size bytes : Nat) (ht : P.underlying t = some (.slice e)) (hi : P.info? e = some i) (hz : i.zero = some z)
  (hsize : i.size = size) (hby : i.bytes = bytes) (hzs : z.cells.size = size) (hsz : 0 < size)
  (v : Value) (n : Nat) (xs : List Value) (hs : a.eval s = v) (hown : w.ownsRow base e size v n xs)
  (ad : Addr) (m c : Nat) (news : List Value) (hx : a.eval x = .slice (some ad) m c) (hl : news.length = m * size) (hnews : ∀ j u, news[j]? = some u → w.cell? (ad.add j) = some u) (h1 : ∀ u ∈ news, u.oneCell' = true)
  (h63 : n + m ≤ maxLen) (hbytes : (n + m) * bytes ≤ 140737488355328) (hbase : base ≤ w.heap.size)
  (hK : ∀ v' w', w'.ownsRow base e size v' (n + m) (xs ++ news) → w.grownBy w' v.ownBlock → K (a.put o.dst v') w') :
  if Region.wanted o (yielded ops a.tmps) = true then Oper.wp P o a w K Q else E := by
 have hw : Region.wanted o (yielded ops a.tmps) = true := by simp [Region.wanted, hgd]
 rw [if_pos hw]
 exact wp_append_own w s x t ho base e i z size bytes ht hi hz hsize hby hzs hsz v n xs hs hown ad m c news hx hl hnews h1 h63 hbytes hbase fun v' w' h2 h3 _ => hK v' w' h2 h3

/-- whole numbers that came in -/
def CameInts (W : World) (A : Addr) (ns : List Int) : Prop := ∀ i (h : i < ns.length), W.cell? (A.add i) = some (.int .i64 ns[i])
theorem numVals_snoc (qs : List Rat) (q : Rat) : flat (numVals (qs ++ [q])) = flat (numVals qs) ++ (numVal' q).cells := by simp [numVals, flat]

/-- what stays while the values are collected: the result's block, the value's block, the row -/
structure ArrI (w : World) (c : Nat) (bv v : Value) (done : List Rat) (W : World) : Prop where
 res : W.heap[w.heap.size]? = some (.cells #[.int .i64 0, .string { data := #[] }, .string { data := #[] }, .string { data := #[] }, .bool false, .int .i64 0, .int .i64 0, .int .i64 0, .slice none 0 0] 27 (0, 0))
 box : W.heap[w.heap.size + 1]? = some (.cells #[.int .i64 5, .string { data := #[] }, .string { data := #[] }, .string { data := #[] }, .bool false, .int .i64 0, .int .i64 1, .int .i64 (c : Int), bv] 27 (0, 0))
 low : Below w.heap.size w W
 own : W.ownsRow (w.heap.size + 2) 27 9 v done.length (flat (numVals done))
end Go.Proofs.YtkghpiaoggljjaaGreatDoor.Num
