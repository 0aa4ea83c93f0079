/- Numbers as texts of digits, fractions, values and the functions of fmath: contracts of the program's functions, joined from smaller texts. Conditions stand at each theorem. -/
import Derived.Test.YtemdjmaakajhjaaGreatDoorFtcA
import Derived.Test.YtemdjmaakajhjaaGreatDoorFtbA

/- package fstat: COVAR over its arguments. Conditions: what read gives; the tables lie as they are laid. -/
namespace Go.Proofs.YtemdjmaakajhjaaGreatDoor.Num.Ft
open Go.RowKit Go.Lib Num

attribute [local irreducible] wpOp
end Go.Proofs.YtemdjmaakajhjaaGreatDoor.Num.Ft

/- package fstat: the law's stat at a row over its arguments, where these are numbers and arrays. Conditions: all numbers fit; the tables lie as they are laid. -/
namespace Go.Proofs.YtemdjmaakajhjaaGreatDoor.Num.Ft
open Go.RowKit Go.Lib Go.MapKept Num

/-- the law's stat at a row over its arguments: all that lay below the call's world stays -/
theorem stat_v (i : Nat) (r : Row) (hi : i < allRows.length) (hr : allRows[i] = r) (hraw : isRaw r.fn = false) (hkd : r.kinds = { data := #[97] }) (hfr : ∀ j (hj : j < i), (allRows[i].name == (allRows[j]'(by omega)).name) = false) (hnum : r.num = false) (eF : ∀ args w, (callFunc r.fn args).run Tryz.prog w = .ok (.enter r.fn args) w) (vs : List Val) (qss : List (List Rat)) (ab ao C : Nat) (q : Rat) (w : World) (h0 : 0 < vs.length) (h9 : vs.length ≤ 300) (hc1 : r.least ≤ vs.length) (hc2 : (vs.length : Int) ≤ r.most) (hv : ValsAt w ab ao vs) (hA : Args2 w vs qss) (hE : Env w) (hqs : ∀ qs ∈ qss, ∀ q ∈ qs, fits q = true) (hq : fits q = true)
    (hF : ∀ W b g cap, Below w.heap.size w W → w.heap.size ≤ b → Env W → Past b → ArgsAt W b (some ⟨g, 0, none⟩) vs.length cap 0 → ValsAt W g 0 vs → g ≠ b → Calls Tryz.prog r.fn #[.pointer (some ⟨b, 0, none⟩)] W fun e w' => e = .returned (fracV q) ∧ W.grownBy w' (some b)) :
    Calls Tryz.prog 9 #[.string r.name, .slice (some ⟨ab, ao, none⟩) vs.length C] w fun e w' => e = .returned (numVal q) ∧ Below w.heap.size w w' :=
  math_of r.name (.slice (some ⟨ab, ao, none⟩) vs.length C) (numVal' q) w ⟨_, _, _, rfl⟩ (fun W b hb hT =>
    run_a_val i r hi hr hraw hkd hfr vs b ab ao C (numVal' q) W h0 h9 hc1 hc2 (hv.below hb) (hE.below hb) hT ⟨rfl, rfl, rfl, rfl, rfl⟩ (fun W g => check_num q W hq g)
      (fun v hv' W' h => by
        obtain ⟨j, hj, rfl⟩ := List.mem_iff_getElem.1 hv'
        have hj' : j < qss.length := by rw [hA.1]; exact hj
        exact ((hA.below (hb.trans (h.mono hb.size))).2 j hj hj').check (hqs _ (List.getElem_mem hj')) ((hE.below hb).below h))
      (fun W' e g cap hb' hE' hfn hva => entryn2_val r g cap e vs q W' hnum hfn eF hE' hva hq (fun W'' b' hb'' hE'' hP hbl _ ha hva' hne =>
        hF W'' b' g cap (hb.trans ((hb'.trans (hb''.mono hb'.size)).mono hb.size)) (Nat.le_trans hb.size (Nat.le_trans hb'.size hbl)) hE'' hP ha hva' hne) h0))

end Go.Proofs.YtemdjmaakajhjaaGreatDoor.Num.Ft
