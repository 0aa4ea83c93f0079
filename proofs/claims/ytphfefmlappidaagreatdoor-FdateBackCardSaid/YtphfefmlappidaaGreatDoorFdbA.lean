/- Numbers as texts of digits, fractions, values and the functions of fmath: contracts of the program's functions, joined from smaller texts. Conditions stand at each theorem. -/
import Derived.Test.YtphfefmlappidaaGreatDoorFdcA
import Derived.Test.YtphfefmlappidaaGreatDoorNumG

/- The first byte of a whole number's text is no minus sign, if the number is none below 0. Conditions: none. -/
namespace Go.Proofs.YtphfefmlappidaaGreatDoor.Num
open Go.RowKit Go.Lib

theorem num_first (n : Int) (h : 0 ≤ n) : ∃ c : Int, (c == 45) = false ∧ ∀ W : World, (Instr.index 9 (.string (numS (n : Rat))) (.int .i64 0)).run Tryz.prog W = .ok (.int .u8 c) W := by
  have e : numS (n : Rat) = ⟨(Lib.decDigits n.natAbs).toArray⟩ := by
    rw [numS_int]
    unfold Lib.itoa
    rw [if_neg (by omega), show n.toNat = n.natAbs by omega]
  have hl : 0 < (Lib.decDigits n.natAbs).length := List.length_pos_iff.2 (decDigits_ne n.natAbs)
  have hs : 0 < (⟨(Lib.decDigits n.natAbs).toArray⟩ : ByteArray).size := by
    show 0 < (Lib.decDigits n.natAbs).toArray.size
    rw [List.size_toArray]
    exact hl
  refine ⟨(((⟨(Lib.decDigits n.natAbs).toArray⟩ : ByteArray)[0]'hs).toNat : Int), ?_, fun W => ?_⟩
  · have ht := decDigits_all n.natAbs ((Lib.decDigits n.natAbs)[0]'hl) (List.getElem_mem hl)
    have e2 : ((⟨(Lib.decDigits n.natAbs).toArray⟩ : ByteArray)[0]'hs) = (Lib.decDigits n.natAbs)[0]'hl := rfl
    rw [e2]
    rw [beq_eq_false_iff_ne]
    omega
  · rw [e, run_index_string W _ _ _ _ (by kernel_rfl), dif_pos ⟨by omega, by omega⟩]
    rfl
end Go.Proofs.YtphfefmlappidaaGreatDoor.Num
