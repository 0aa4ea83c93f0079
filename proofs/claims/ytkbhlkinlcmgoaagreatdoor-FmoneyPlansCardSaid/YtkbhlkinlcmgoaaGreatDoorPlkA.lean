/- Numbers as texts of digits, fractions, values and the functions of fmath: contracts of the program's functions, joined from smaller texts. Conditions stand at each theorem. -/
import Derived.Test.YtkbhlkinlcmgoaaGreatDoorPlbA
import Derived.Deep.RegionWith
import Derived.Deep.DeepCutAuto
import Derived.Test.YtkbhlkinlcmgoaaGreatDoorNumH

/- package fmath: SUMPRODUCT at numbers and arrays of one shape. Conditions: all numbers fit; the tables lie as they are laid. -/
namespace Go.Proofs.YtkbhlkinlcmgoaaGreatDoor.Num
open Go.RowKit Go.Lib

structure PrI (w : World) (b g C R : Nat) (vs : List Val) (qss : List (List Rat)) (r s : Int) (W : World) : Prop where
  args : ArgsAt W b (some ⟨g, 0, none⟩) vs.length C 0
  vals : ValsAt W g 0 vs
  parts : ∀ j (h : j < vs.length) (h' : j < qss.length), PArg W vs[j] r s qss[j]
  tiny : ∀ j (h : j < vs.length) gi, vs[j].A = some ⟨gi, 0, none⟩ → gi < w.heap.size
  res : W.heap[R]? = some (.cells #[.string { data := #[] }, .string { data := #[] }] 24 (0, 0))
  env : Env W
  low : Below w.heap.size w W
theorem PrI.step {w W W' : World} {b g C R : Nat} {vs : List Val} {qss : List (List Rat)} {r s : Int} (h : PrI w b g C R vs qss r s W) (hb : Below W.heap.size W W') : PrI w b g C R vs qss r s W' :=
  ⟨keep_block h.args hb, h.vals.below hb, fun j hj hj' => (h.parts j hj hj').below hb, h.tiny, keep_block h.res hb, h.env.below hb, h.low.trans (hb.mono h.low.size)⟩
structure SumI (w : World) (b g C R : Nat) (vs : List Val) (qss : List (List Rat)) (r s : Int) (P : Nat) (sv : Rat) (W : World) : Prop where
  base : PrI w b g C R vs qss r s W
  sum : W.heap[P]? = some (.cells #[.string (numS sv), .string (denS sv)] 24 (0, 0))
theorem SumI.step {w W W' : World} {b g C R P : Nat} {vs : List Val} {qss : List (List Rat)} {r s : Int} {sv : Rat} (h : SumI w b g C R vs qss r s P sv W) (hb : Below W.heap.size W W') : SumI w b g C R vs qss r s P sv W' := ⟨h.base.step hb, keep_block h.sum hb⟩
structure ProdI (w : World) (b g C R : Nat) (vs : List Val) (qss : List (List Rat)) (r s : Int) (P : Nat) (sv : Rat) (Q : Nat) (pv : Rat) (W : World) : Prop where
  base : SumI w b g C R vs qss r s P sv W
  prod : W.heap[Q]? = some (.cells #[.string (numS pv), .string (denS pv)] 24 (0, 0))
theorem ProdI.step {w W W' : World} {b g C R P Q : Nat} {vs : List Val} {qss : List (List Rat)} {r s : Int} {sv pv : Rat} (h : ProdI w b g C R vs qss r s P sv Q pv W) (hb : Below W.heap.size W W') : ProdI w b g C R vs qss r s P sv Q pv W' := ⟨h.base.step hb, keep_block h.prod hb⟩

end Go.Proofs.YtkbhlkinlcmgoaaGreatDoor.Num

/- package fmath: SUMXMY2 at two arguments of as many numbers. Conditions: all numbers fit; the tables lie as they are laid. -/
namespace Go.Proofs.YtkbhlkinlcmgoaaGreatDoor.Num
open Go.RowKit Go.Lib

/-- what stays while the pairs are summed: two rows of numbers, the sum (block P), the result's block R, all behind the base -/
structure PaI (wb : World) (ga gb P R : Nat) (qa qb : List Rat) (sv : Rat) (W : World) : Prop where
  rowa : ValsAt W ga 0 (numVals qa)
  rowb : ValsAt W gb 0 (numVals qb)
  sum : W.heap[P]? = some (.cells #[.string (numS sv), .string (denS sv)] 24 (0, 0))
  res : W.heap[R]? = some (.cells #[.string { data := #[] }, .string { data := #[] }] 24 (0, 0))
  env : Env W
  low : Below wb.heap.size wb W
theorem PaI.step {wb W W' : World} {ga gb P R : Nat} {qa qb : List Rat} {sv : Rat} (h : PaI wb ga gb P R qa qb sv W) (hb : Below W.heap.size W W') : PaI wb ga gb P R qa qb sv W' :=
  ⟨h.rowa.below hb, h.rowb.below hb, keep_block h.sum hb, keep_block h.res hb, h.env.below hb, h.low.trans (hb.mono h.low.size)⟩
end Go.Proofs.YtkbhlkinlcmgoaaGreatDoor.Num

/- the law's math at SUM, SUMSQ, SUMPRODUCT, SUMXMY2 of numbers and arrays. Conditions: all numbers fit; the tables lie as they are laid. -/
namespace Go.Proofs.YtkbhlkinlcmgoaaGreatDoor.Num
open Go.RowKit Go.Lib

/-- what else is known of the arguments is carried as Cc -/
theorem math_c_val (i : Nat) (r : Row) (hi : i < allRows.length) (hr : allRows[i] = r) (hkd : r.kinds = { data := #[97] }) (hfr : ∀ j (hj : j < i), (allRows[i].name == (allRows[j]'(by omega)).name) = false) (hnum : r.num = true) (eF : ∀ args w, (callFunc r.fn args).run Tryz.prog w = .ok (.enter r.fn args) w) (vs : List Val) (qss : List (List Rat)) (ab ao C : Nat) (q : Rat) (w : World) (h0 : 0 < vs.length) (h9 : vs.length ≤ 300) (hc1 : r.least ≤ vs.length) (hc2 : (vs.length : Int) ≤ r.most) (hv : ValsAt w ab ao vs) (hA : Args2 w vs qss) (hE : Env w) (hqs : ∀ qs ∈ qss, ∀ q ∈ qs, fits q = true) (hq : fits q = true)
    (Cc : World → Prop) (hC : Cc w) (hCb : ∀ W W', Cc W → Below W.heap.size W W' → Cc W')
    (hF : ∀ W b g cap, Env W → Past b → b < W.heap.size → g < W.heap.size → ArgsAt W b (some ⟨g, 0, none⟩) vs.length cap 0 → ValsAt W g 0 vs → Cc W → g ≠ b → Calls Tryz.prog r.fn #[.pointer (some ⟨b, 0, none⟩)] W fun e w' => e = .returned (fracV q) ∧ W.grownBy w' (some b)) :
    Calls Tryz.prog 10 #[.string r.name, .slice (some ⟨ab, ao, none⟩) vs.length C] w fun e w' => e = .returned (numVal q) ∧ Below w.heap.size w w' :=
  math_of r.name (.slice (some ⟨ab, ao, none⟩) vs.length C) (numVal' q) w ⟨_, _, _, rfl⟩ (fun W b hb hT =>
    run_a_val i r hi hr hkd hfr vs b ab ao C (numVal' q) W h0 h9 hc1 hc2 (hv.below hb) (hE.below hb) hT ⟨rfl, rfl, rfl, rfl, rfl⟩ (fun W g => check_num q W hq g)
      (fun v hv' W' h => by
        obtain ⟨j, hj, rfl⟩ := List.mem_iff_getElem.1 hv'
        have hj' : j < qss.length := by rw [hA.1]; exact hj
        exact ((hA.below (hb.trans (h.mono hb.size))).2 j hj hj').check (hqs _ (List.getElem_mem hj')) ((hE.below hb).below h))
      (fun W' e g cap hb' hE' hfn hva => entry1_val r g cap e vs q W' hnum hfn eF hE' hva hq (fun W'' b' hb'' hE'' hP hlt ha hva' hne => hF W'' b' g cap hE'' hP hlt (cell_lt (hva'.at 0 h0).1) ha hva' (hCb _ _ (hCb _ _ (hCb _ _ hC hb) hb') hb'') hne) h0))

theorem take_all {xs : List Rat} {f : List Rat → Rat} (h : ∀ k, k ≤ xs.length → fits (f (xs.take k)) = true) : fits (f xs) = true := by
  have := h xs.length (Nat.le_refl _)
  rwa [List.take_length] at this

theorem m_SUM2 (vs : List Val) (qss : List (List Rat)) (ab ao C : Nat) (w : World) (h0 : 0 < vs.length) (h9 : vs.length ≤ 255) (hA : Args2 w vs qss) (hq : ∀ qs ∈ qss, ∀ q ∈ qs, fits q = true) (h00 : 0 < qss.flatten.length) (h99 : qss.flatten.length ≤ 300000) (hf : ∀ k, k ≤ qss.flatten.length → fits (sumL (qss.flatten.take k)) = true) (hv : ValsAt w ab ao vs) (hE : Env w) :
    Calls Tryz.prog 10 #[.string { data := #[83, 85, 77] }, .slice (some ⟨ab, ao, none⟩) vs.length C] w fun e w' => e = .returned (numVal (sumL qss.flatten)) ∧ Below w.heap.size w w' :=
  math_c_val 17 ⟨{ data := #[83, 85, 77] }, 1, 255, { data := #[97] }, true, 224⟩ (by decide) rfl rfl (fr_of 17 (by decide) (by kernel_rfl)) rfl (enters_of Tryz.func224 (by kernel_rfl) rfl) vs qss ab ao C (sumL qss.flatten) w h0 (by omega) (by show (1 : Int) ≤ _; omega) (by show _ ≤ (255 : Int); omega) hv hA hE hq (take_all (f := sumL) hf)
    (fun W => Args2 W vs qss) (hA) (fun W W' h hb => h.below hb)
    (fun W b g cap hE' hP hlt hgl ha hn hcc hne => fn_sum_mix vs qss b g cap W (by omega) hcc hq h00 h99 hf ha hn hne hgl hE' hP)

end Go.Proofs.YtkbhlkinlcmgoaaGreatDoor.Num
