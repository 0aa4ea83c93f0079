/- Contracts of the program's functions, joined from smaller texts. Conditions stand at each theorem. -/
import Derived.Test.YtjcdeeahjkfmoaaGreatDoorRows
import Derived.ProofKit
import Derived.SevenTiedAt
set_option linter.unusedVariables false
set_option linter.unusedSimpArgs false
namespace Go.Proofs.YtjcdeeahjkfmoaaGreatDoor
open Go
theorem goes_none {P : Program} (h : P.funcs.any Func.goes = false) (f : FuncId) : P.goes f = false := by
 unfold Program.goes
 rw [h, Bool.and_false, Bool.or_false]
 cases hc : ((P.closure f).any fun g => (P.funcs[g]?).any Func.goes) with
 | false => rfl
 | true =>
  exfalso
  rw [List.any_eq_true] at hc
  obtain ⟨g, _, hg⟩ := hc
  cases hf : P.funcs[g]? with
  | none => rw [hf] at hg; simp at hg
  | some fn =>
   rw [hf, Option.any_some] at hg
   have h2 : P.funcs.any Func.goes = true := by
    rw [Array.any_eq_true]
    obtain ⟨hl, e⟩ := Array.getElem?_eq_some_iff.1 hf
    exact ⟨g, hl, by rw [e]; exact hg⟩
   rw [h] at h2
   cases h2
theorem goesBy_none {P : Program} {c : OpenClaim} (h : P.funcs.any Func.goes = false) (hs : c.start = .entering) : false = c.goesBy P := by
 unfold OpenClaim.goesBy Program.goesAt
 rw [hs]
 unfold Program.goesFrom
 cases P.funcNamed c.func with
 | none => rfl
 | some f => simp only [Option.any_some]; rw [goes_none h f]; rfl
theorem none_goes : Tryz.pinned.checked.prog.funcs.any Func.goes = false := by kernel_rfl
end Go.Proofs.YtjcdeeahjkfmoaaGreatDoor
