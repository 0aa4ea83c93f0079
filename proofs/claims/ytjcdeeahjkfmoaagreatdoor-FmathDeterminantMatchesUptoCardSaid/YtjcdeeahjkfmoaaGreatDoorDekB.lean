/- Contracts of the program's functions, joined from smaller texts. Conditions stand at each theorem. -/
import Derived.Test.YtjcdeeahjkfmoaaGreatDoorDeeA
import Derived.Test.YtjcdeeahjkfmoaaGreatDoorRows
import Derived.ProofKit
import Derived.OpenShut
import Derived.Deep.Slices
import Derived.ChangeArms
import Derived.Test.YtjcdeeahjkfmoaaGreatDoorLayA
import Derived.Test.YtjcdeeahjkfmoaaGreatDoorDedB
import Derived.WalkKit
import Derived.PinnedBridge
import Derived.Lib.LaidU8T
import Derived.Deep.DeepHandedRow
set_option linter.unusedVariables false
set_option linter.unusedSimpArgs false
set_option maxRecDepth 100000
namespace Go.Proofs.YtjcdeeahjkfmoaaGreatDoor
namespace Num
open Go.ChangeShapes Go.WideShapes Go.RowKit Go.Lib Go.Deep
theorem cells9 : Tryz.prog.cellsOf 32 = 9 := by kernel_rfl
theorem cellsF2 : Tryz.prog.cellsOf 30 = 2 := by kernel_rfl
theorem part_le {H : Type} {d : DataW H} {l : List (DataW H)} (h : d ∈ l) : Rows.uptoBulk d ≤ Rows.uptoBulkAll l := by
 induction l with
 | nil => cases h
 | cons x r ih =>
  simp only [Rows.uptoBulkAll]
  cases List.mem_cons.1 h with
  | inl e => subst e; omega
  | inr e => have := ih e; omega
section
variable {H : Type} {enc : TypeId × Value → H} {W : World} {base : Nat} {sp : Nat → Bool} {held : Bool}
theorem frac_cells {n : Nat} {cs : List Value} {x : DataW H × List MemPlace} (h : DataW.trod enc Tryz.prog W base sp held n 30 cs = some x) :
  ∃ a b : ByteArray, cs = [.string a, .string b] ∧ a.size + b.size ≤ Rows.uptoBulk x.1 := by
 obtain ⟨xs, m, rfl, rfl, hl, hxl, hf⟩ := DataW.trod_struct Tryz.underlying30 h
 rw [cellsF2] at hl
 match cs, hl with
 | [c0, c1], _ =>
  match xs, hxl with
  | [x0, x1], _ =>
   have f0 := hf 0 _ rfl
   have f1 := hf 1 _ rfl
   simp only [List.getElem?_cons_zero, List.getElem?_cons_succ] at f0 f1
   obtain ⟨s0, e0, ex0, _⟩ := DataW.trod_string Tryz.underlying9 f0
   obtain ⟨s1, e1, ex1, _⟩ := DataW.trod_string Tryz.underlying9 f1
   injection e0 with e0 _
   injection e1 with e1 _
   subst e0; subst e1; subst ex0; subst ex1
   refine ⟨s0, s1, rfl, ?_⟩
   simp only [List.map_cons, List.map_nil, Rows.uptoBulk, Rows.uptoBulkAll, Array.length_toList]
   have h0 : s0.data.size = s0.size := rfl
   have h1 : s1.data.size = s1.size := rfl
   omega
theorem value_cells {n : Nat} {cs : List Value} {x : DataW H × List MemPlace} (h : DataW.trod enc Tryz.prog W base sp held n 32 cs = some x) :
  ∃ v : Val, cs = v.cells ∧ v.n.size + v.d.size + v.t.size ≤ Rows.uptoBulk x.1 ∧ ∃ m y, DataW.trod enc Tryz.prog W base sp held m 22 [.slice v.A v.L v.C] = some y ∧ Rows.uptoBulk y.1 ≤ Rows.uptoBulk x.1 := by
 obtain ⟨xs, m, rfl, rfl, hl, hxl, hf⟩ := DataW.trod_struct Tryz.underlying32 h
 rw [cells9] at hl
 match cs, hl with
 | [c0, c1, c2, c3, c4, c5, c6, c7, c8], _ =>
  match xs, hxl with
  | [x0, x1, x2, x3, x4, x5, x6, x7], _ =>
   have f0 := hf 0 _ rfl
   have f1 := hf 1 _ rfl
   have f2 := hf 2 _ rfl
   have f3 := hf 3 _ rfl
   have f4 := hf 4 _ rfl
   have f5 := hf 5 _ rfl
   have f6 := hf 6 _ rfl
   have f7 := hf 7 _ rfl
   simp only [List.getElem?_cons_zero, List.getElem?_cons_succ] at f0 f1 f2 f3 f4 f5 f6 f7
   obtain ⟨i0, e0, rfl, _⟩ := DataW.trod_int Tryz.underlying3 f0
   obtain ⟨sn, sd, e1, hb1⟩ := frac_cells f1
   obtain ⟨st, e3, rfl, _⟩ := DataW.trod_string Tryz.underlying9 f2
   obtain ⟨bo, e4, rfl⟩ := DataW.trod_bool Tryz.underlying4 f3
   obtain ⟨i5, e5, rfl, _⟩ := DataW.trod_int Tryz.underlying3 f4
   obtain ⟨i6, e6, rfl, _⟩ := DataW.trod_int Tryz.underlying3 f5
   obtain ⟨i7, e7, rfl, _⟩ := DataW.trod_int Tryz.underlying3 f6
   injection e0 with e0 _
   injection e1 with e1 e2
   injection e2 with e2 _
   injection e3 with e3 _
   injection e4 with e4 _
   injection e5 with e5 _
   injection e6 with e6 _
   injection e7 with e7 _
   subst e0; subst e1; subst e2; subst e3; subst e4; subst e5; subst e6; subst e7
   have h3 : st.data.toList.length = st.size := rfl
   have hv : ∃ A L C, c8 = .slice A L C := by
    rcases DataW.trod_slice Tryz.underlying22 f7 with ⟨e8, _⟩ | ⟨a, len, cap, _, _, _, _, e8, _⟩
    ·injection e8 with e8 _
     exact ⟨none, 0, 0, e8⟩
    ·injection e8 with e8 _
     exact ⟨some a, len, cap, e8⟩
   obtain ⟨A, L, C, rfl⟩ := hv
   refine ⟨⟨i0, sn, sd, st, bo, i5, i6, i7, A, L, C⟩, rfl, ?_, m, x7, f7, ?_⟩
   ·simp only [List.map_cons, List.map_nil, Rows.uptoBulk, Rows.uptoBulkAll]
    omega
   ·simp only [List.map_cons, List.map_nil, Rows.uptoBulk, Rows.uptoBulkAll]
    omega
end
theorem flat_at : ∀ (vs : List Val) (j : Nat) (u : Value), (flat vs)[j]? = some u → ∃ i r, r < 9 ∧ j = i * 9 + r ∧ ∃ h : i < vs.length, vs[i].cells[r]? = some u
 | [], j, u, h => by simp [flat] at h
 | v :: t, j, u, h => by
  have e : flat (v :: t) = v.cells ++ flat t := by simp [flat]
  have e9 : v.cells.length = 9 := rfl
  rw [e] at h
  by_cases hj : j < 9
  ·rw [List.getElem?_append_left (by omega)] at h
   exact ⟨0, j, hj, by omega, by simp, h⟩
  ·rw [List.getElem?_append_right (by omega), e9] at h
   obtain ⟨i, r, hr, e1, hi, h2⟩ := flat_at t (j - 9) u h
   exact ⟨i + 1, r, hr, by omega, by simp; omega, by simpa using h2⟩
instance : Inhabited Val := ⟨⟨0, ⟨#[]⟩, ⟨#[]⟩, ⟨#[]⟩, false, 0, 0, 0, none, 0, 0⟩⟩
theorem spot_none' {w : World} {b o i : Nat} {s : Option Nat} {v : Value} (h : w.cell? ((⟨b, o, s⟩ : Addr).add (i * 0)) = some v) : s = none := by
 have := World.cell?_spot h
 simpa [Addr.add] using this
theorem arg_in {H : Type} {enc : TypeId × Value → H} {W : World} {base base2 : Nat} {held : Bool} {v : Value} {d : DataW H} {p : List MemPlace} (hok : Value.okWide Tryz.prog W .any base2 32 v) (h : DataW.Trod enc Tryz.prog W base (fun _ => true) held 32 v d p) (hbk : Rows.uptoBulk d ≤ 1048576) :
  ∃ a : Arg, v = a.v.agg ∧ ArgOk W a := by
 obtain ⟨cs, rfl, _⟩ := okWide_struct Tryz.underlying32 hok
 obtain ⟨fuel, hf⟩ := h
 have hf : DataW.trod enc Tryz.prog W base (fun _ => true) held fuel 32 cs.toList = some (d, p) := hf
 obtain ⟨w, hw, hsz, m, y, hy, hyb⟩ := value_cells hf
 replace hsz : w.n.size + w.d.size + w.t.size ≤ Rows.uptoBulk d := hsz
 replace hyb : Rows.uptoBulk y.1 ≤ Rows.uptoBulk d := hyb
 have hcs : cs = #[.int .i64 w.k, .string w.n, .string w.d, .string w.t, .bool w.on, .int .i64 w.c, .int .i64 w.r, .int .i64 w.s, .slice w.A w.L w.C] := Array.toList_inj.1 hw
 subst hcs
 have hshort : Short w := by
  exact ⟨by omega, by omega, by omega⟩
 rcases open_slice Tryz.underlying22 hy with ⟨e8, _⟩ | ⟨a, len, cap, mm, k, D, Pl, e8, _, hl, _, hmm, hyx, hx⟩
 ·injection e8 with e8 _
  injection e8 with _ e9 _
  refine ⟨⟨w, []⟩, rfl, hshort, fun x hx => (by cases hx), fun _ => ⟨fun h0 => by
   have h0 : 0 < w.L := h0
   omega, e9.symm⟩⟩
 ·simp only [if_true] at hmm
  injection e8 with e8 _
  injection e8 with eA eL _
  rw [cells9] at hx
  have hx' : ∀ i, i < len → ∃ u : Val, W.cells? base (a.add (i * 9)) 9 = some u.cells ∧ u.n.size + u.d.size + u.t.size ≤ Rows.uptoBulk (D i) := by
   intro i hi
   obtain ⟨cs', h1, h2⟩ := hx i (by omega)
   obtain ⟨u, rfl, h3, _⟩ := value_cells h2
   exact ⟨u, h1, h3⟩
  obtain ⟨V, hV⟩ := choose_lt hx'
  have hD : ∀ i, i < len → Rows.uptoBulk (D i) ≤ 1048576 := by
   intro i hi
   have h1 := part_le (H := H) (d := D i) (l := (List.range len).map D) (List.mem_map.2 ⟨i, List.mem_range.2 hi, rfl⟩)
   rw [hyx] at hyb
   simp only [Rows.uptoBulk] at hyb
   omega
  refine ⟨⟨w, (List.range len).map V⟩, rfl, hshort, fun x hx => ?_, fun _ => ⟨fun h0 => ?_, by simp [eL]⟩⟩
  ·obtain ⟨i, hi, rfl⟩ := List.mem_map.1 hx
   have hi' := List.mem_range.1 hi
   have h1 := (hV i hi').2
   have h2 := hD i hi'
   exact ⟨by omega, by omega, by omega⟩
  ·obtain ⟨b, o, s⟩ := a
   have h0 : 0 < w.L := h0
   have hlen : 0 < len := by omega
   have hs : s = none := by
    obtain ⟨_, _, hc⟩ := World.cells?_some (hV 0 hlen).1
    have h0 := hc 0 (by decide)
    rw [add_add] at h0
    exact spot_none' (i := 0) h0
   subst hs
   refine ⟨b, o, eA, by simp [eL], fun j u hj => ?_⟩
   obtain ⟨i, r, hr, rfl, hi, h2⟩ := flat_at _ j u hj
   have hi' : i < len := by simpa using hi
   obtain ⟨_, _, hc⟩ := World.cells?_some (hV i hi').1
   have h3 := hc r hr
   rw [add_add] at h3
   rw [h3]
   simpa using h2
end Num
namespace Num
open Go.RowKit Go.Lib
def laidRen : Go.Shelf.Ren where
 f := fun n => n
 t := fun n => match n with
  | 5 => 5
  | 119 => 297
  | 138 => 299
  | 139 => 300
  | n => n
 g := fun n => match n with
  | 3 => 7
  | 4 => 8
  | n => n
theorem laidTypes : U8Types Tryz.prog laidRen where
 t5 := Tryz.underlying5
 t119 := Tryz.underlying297
 t138 := by kernel_rfl
 t139 := Tryz.underlying300
theorem laidExtra : U8Extra Tryz.prog laidRen where
 n3 := by kernel_rfl
 n4 := by kernel_rfl
 y3 := by kernel_rfl
 y4 := by kernel_rfl
 c5 := by kernel_rfl
 c119 := by kernel_rfl
 c138 := by kernel_rfl
theorem accept_eq : (Rows.laid_unicode_utf8_acceptRanges : DataW Unit) = Lib.acceptData := by kernel_rfl
theorem first_eq : Rows.laid_unicode_utf8_first = Lib.firstData := Pinned.utf8First_eq
theorem tabs_of_reads {W : World} (h1 : Lib.VarReads Tryz.prog W "unicode/utf8.first" Rows.laid_unicode_utf8_first) (h2 : Lib.VarReads Tryz.prog W "unicode/utf8.acceptRanges" Rows.laid_unicode_utf8_acceptRanges) : Tabs8 W := by
 rw [first_eq] at h1
 rw [accept_eq] at h2
 exact utf8Tabs_of_readsT (ρ := laidRen) laidTypes laidExtra h1 h2
theorem rfault_data : (Rows.laid_chancery_chanceryref2_faultTexts : DataW Unit) = .agg (faultBytes.map fun b => .lit (.string b)) := by kernel_rfl
theorem rfaults_of_reads {W : World} (h : Lib.VarReads Tryz.prog W "chancery/chanceryref2.faultTexts" Rows.laid_chancery_chanceryref2_faultTexts) (i : Nat) (hi : i < 9) : W.cell? ⟨0, i, none⟩ = faultTexts[i]? := by
 rw [rfault_data] at h
 obtain ⟨g, t, cs, fuel, p, hg, ht, hv, hd⟩ := h
 have hgl : Tryz.prog.globalNamed "chancery/chanceryref2.faultTexts" = some 0 := by kernel_rfl
 obtain rfl := Option.some.inj (hgl.symm.trans hg)
 obtain rfl := Option.some.inj ((show (Tryz.prog.globals[0]?).map (·.type) = some 123 by kernel_rfl).symm.trans ht)
 obtain ⟨xs, m, _, ex, _, hl, hel⟩ := DataW.trod_array Tryz.underlying123 hd
 have cS : Tryz.prog.cellsOf 9 = 1 := by kernel_rfl
 have hE := hel i hi
 rw [cS, Nat.mul_one, List.getElem?_eq_getElem (by omega)] at hE
 obtain ⟨s, e1, e2, _⟩ := DataW.trod_string Tryz.underlying9 hE
 have e3 : (xs.map (·.1)) = faultBytes.map fun b => .lit (.string b) := (DataW.agg.inj (Prod.mk.inj ex).1).symm
 have e4 : (xs.map (·.1))[i]? = (faultBytes.map fun b => (DataW.lit (.string b) : DataW Unit))[i]? := by rw [e3]
 have hfl : faultBytes.length = 9 := rfl
 obtain ⟨l, hl9⟩ : ∃ l, faultBytes[i]? = some l := ⟨_, List.getElem?_eq_getElem (by omega)⟩
 rw [List.getElem?_map, List.getElem?_map, List.getElem?_eq_getElem (by omega : i < xs.length), hl9, e2] at e4
 simp only [Option.map_some] at e4
 injection e4 with e5
 injection e5 with e6
 injection e6 with hs
 have hsv : s = ⟨l.toArray⟩ := by rw [← hs]
 have hc : cs.toList[i]? = some (.string s) := by
  have h0 : ((cs.toList.drop i).take 1)[0]? = some (.string s) := by rw [e1]; rfl
  simpa using h0
 have hb : ((faultBytes.map fun b => Value.string ⟨b.toArray⟩).toArray)[i]? = some (.string s) := by
  rw [← Array.getElem?_toList]
  show (faultBytes.map fun b => Value.string ⟨b.toArray⟩)[i]? = _
  rw [List.getElem?_map, hl9, Option.map_some, ← hsv]
 rw [World.var?_cell hgl hv i, fault_texts, hb]
 simpa using hc
theorem envR_of_reads {W : World} (h : Lib.VarReads Tryz.prog W "internal/strconv.uint64pow10" Rows.laid_internal_strconv_uint64pow10) (k : Lib.VarReads Tryz.prog W "chancery/value.faults" Rows.laid_chancery_value_faults)
  (r : Lib.VarReads Tryz.prog W "chancery/chanceryref2.faultTexts" Rows.laid_chancery_chanceryref2_faultTexts) (h1 : Lib.VarReads Tryz.prog W "unicode/utf8.first" Rows.laid_unicode_utf8_first) (h2 : Lib.VarReads Tryz.prog W "unicode/utf8.acceptRanges" Rows.laid_unicode_utf8_acceptRanges) : EnvR W := by
 have ht := tabs_of_reads h1 h2
 have hr := rfaults_of_reads r
 refine ⟨env_of_reads h k, hr, ht, cell_lt (p := ⟨0, 1, none⟩) (hr 1 (by decide)), ?_, ?_⟩
 ·exact cell_lt (p := ⟨7, 0, none⟩) (ht.1 0 (by decide))
 ·exact cell_lt (p := ⟨8, 0, none⟩) (ht.2 0 (by decide)).1
end Num
end Go.Proofs.YtjcdeeahjkfmoaaGreatDoor
