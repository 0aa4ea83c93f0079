/- Contracts of the program's functions, joined from smaller texts. Conditions stand at each theorem. -/
import Derived.Test.YtjcdeeahjkfmoaaGreatDoorRows
import Derived.Test.YtjcdeeahjkfmoaaGreatDoorNumG
import Derived.Lib.LaidU8
import Derived.OpenShut
set_option maxRecDepth 100000
namespace Go.Proofs.YtjcdeeahjkfmoaaGreatDoor.Num
open Go.RowKit Go.Lib
theorem tab_data : (Rows.laid_internal_strconv_uint64pow10 : DataW Unit) = Lib.tabData .u64 Lib.pow10Tab := by kernel_rfl
theorem tab_of_reads {W : World} (h : Lib.VarReads Tryz.prog W "internal/strconv.uint64pow10" Rows.laid_internal_strconv_uint64pow10) : Tab W := by
  rw [tab_data] at h
  obtain ⟨g, t, cs, fuel, p, hg, ht, hv, hd⟩ := h
  obtain rfl := Option.some.inj ((show Tryz.prog.globalNamed "internal/strconv.uint64pow10" = some 3 by kernel_rfl).symm.trans hg)
  obtain rfl := Option.some.inj ((show (Tryz.prog.globals[3]?).map (·.type) = some 282 by kernel_rfl).symm.trans ht)
  unfold Tab Lib.TabIs
  rw [hv, ← Lib.cells_of_tab Tryz.underlying282 Tryz.underlying232 (by kernel_rfl) (by kernel_rfl) hd]
def faultBytes : List (List UInt8) := [[], [35, 68, 73, 86, 47, 48, 33], [35, 86, 65, 76, 85, 69, 33], [35, 82, 69, 70, 33], [35, 78, 65, 77, 69, 63], [35, 78, 85, 77, 33], [35, 78, 47, 65], [35, 83, 80, 73, 76, 76, 33], [35, 67, 89, 67, 76, 69, 33]]
theorem fault_data : (Rows.laid_chancery_value_faults : DataW Unit) = .agg (faultBytes.map fun b => .lit (.string b)) := by kernel_rfl
theorem fault_texts : faultTexts = (faultBytes.map fun b => Value.string ⟨b.toArray⟩).toArray := rfl
theorem faults_of_reads {W : World} (h : Lib.VarReads Tryz.prog W "chancery/value.faults" Rows.laid_chancery_value_faults) (i : Nat) (hi : i < 9) : W.cell? ⟨1, i, none⟩ = faultTexts[i]? := by
  rw [fault_data] at h
  obtain ⟨g, t, cs, fuel, p, hg, ht, hv, hd⟩ := h
  have hgl : Tryz.prog.globalNamed "chancery/value.faults" = some 1 := by kernel_rfl
  obtain rfl := Option.some.inj (hgl.symm.trans hg)
  obtain rfl := Option.some.inj ((show (Tryz.prog.globals[1]?).map (·.type) = some 123 by kernel_rfl).symm.trans ht)
  obtain ⟨xs, m, _, ex, _, hl, hel⟩ := DataW.trod_array Tryz.underlying123 hd
  have cS : Tryz.prog.cellsOf 9 = 1 := by kernel_rfl
  have hE := hel i hi
  rw [cS, Nat.mul_one, List.getElem?_eq_getElem (by omega)] at hE
  obtain ⟨s, e1, e2, _⟩ := DataW.trod_string Tryz.underlying9 hE
  have e3 : (xs.map (·.1)) = faultBytes.map fun b => .lit (.string b) := (DataW.agg.inj (Prod.mk.inj ex).1).symm
  have e4 : (xs.map (·.1))[i]? = (faultBytes.map fun b => (DataW.lit (.string b) : DataW Unit))[i]? := by rw [e3]
  have hfl : faultBytes.length = 9 := rfl
  obtain ⟨l, hl9⟩ : ∃ l, faultBytes[i]? = some l := ⟨_, List.getElem?_eq_getElem (by omega)⟩
  rw [List.getElem?_map, List.getElem?_map, List.getElem?_eq_getElem (by omega : i < xs.length), hl9, e2] at e4
  simp only [Option.map_some] at e4
  injection e4 with e5
  injection e5 with e6
  injection e6 with hs
  have hsv : s = ⟨l.toArray⟩ := by rw [← hs]
  have hc : cs.toList[i]? = some (.string s) := by
    have h0 : ((cs.toList.drop i).take 1)[0]? = some (.string s) := by rw [e1]; rfl
    simpa using h0
  have hb : ((faultBytes.map fun b => Value.string ⟨b.toArray⟩).toArray)[i]? = some (.string s) := by
    rw [← Array.getElem?_toList]
    show (faultBytes.map fun b => Value.string ⟨b.toArray⟩)[i]? = _
    rw [List.getElem?_map, hl9, Option.map_some, ← hsv]
  rw [World.var?_cell hgl hv i, fault_texts, hb]
  simpa using hc
theorem env_of_reads {W : World} (h : Lib.VarReads Tryz.prog W "internal/strconv.uint64pow10" Rows.laid_internal_strconv_uint64pow10) (k : Lib.VarReads Tryz.prog W "chancery/value.faults" Rows.laid_chancery_value_faults) : Env W := by
  have ht := tab_of_reads h
  have hf := faults_of_reads k
  refine ⟨ht, hf, cell_lt (p := ⟨1, 1, none⟩) (hf 1 (by decide)), ?_⟩
  exact cell_lt (p := ⟨3, 0, none⟩) (Lib.TabIs.cell ht (by kernel_rfl) 0 (by decide))
end Go.Proofs.YtjcdeeahjkfmoaaGreatDoor.Num
