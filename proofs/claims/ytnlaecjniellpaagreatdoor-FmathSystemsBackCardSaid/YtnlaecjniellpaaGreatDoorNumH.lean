/- Numbers as texts of digits, fractions, values and the functions of fmath: contracts of the program's functions, joined from smaller texts. Conditions stand at each theorem. -/
import Derived.Test.YtnlaecjniellpaaGreatDoorNumG
import Derived.Deep.AppendLies

/- package value: the numbers of all further arguments, where each is a number. Conditions: the tables lie as they are laid. -/
namespace Go.Proofs.YtnlaecjniellpaaGreatDoor.Num
open Go.RowKit Go.Lib

def fracCells (qs : List Rat) : List Value := qs.flatMap fun q => [.string (numS q), .string (denS q)]
theorem fracCells_snoc (qs : List Rat) (q : Rat) : fracCells (qs ++ [q]) = fracCells qs ++ [.string (numS q), .string (denS q)] := by simp [fracCells]
theorem info_frac : ∃ i, Tryz.prog.info? 24 = some i ∧ i.zero = some (.agg #[.string { data := #[] }, .string { data := #[] }]) ∧ i.size = 2 ∧ i.bytes = 32 := info_parts (by kernel_rfl)
/-- fractions in a row of the call's own -/
def OwnF (B : Nat) (v : Value) (qs : List Rat) (W : World) : Prop := W.ownsRow B 24 2 v qs.length (fracCells qs)
def AllNums (W : World) (g : Nat) (qs : List Rat) : Prop := ∀ i (h : i < qs.length), NumCells W g (0 + i * 9) qs[i]
/-- what stays while the numbers are read -/
structure NumsI (W0 : World) (b g L C : Nat) (qs : List Rat) (i : Nat) (v : Value) (done : List Rat) (W : World) : Prop where
  args : ArgsAt W b (some ⟨g, 0, none⟩) L C i
  nums : AllNums W g qs
  env : Env W
  grown : W0.grownBy W (some b)
  own : OwnF W0.heap.size v done W
theorem own_lt {W0 W : World} {v : Value} {qs : List Rat} (h : OwnF W0.heap.size v qs W) : ∀ r, v.ownBlock = some r → W0.heap.size ≤ r := by
  intro r hr
  rcases h.2 with ⟨rfl, _⟩ | ⟨g, cap, cur, rfl, hb, _⟩
  · simp [Value.ownBlock] at hr
  · simp [Value.ownBlock] at hr; omega
theorem NumsI.below {W0 W W' : World} {b g L C i : Nat} {qs done : List Rat} {v : Value} (h : NumsI W0 b g L C qs i v done W) (hb : Below W.heap.size W W') : NumsI W0 b g L C qs i v done W' :=
  ⟨keep_block h.args hb, fun j hj => (h.nums j hj).below hb, h.env.below hb, kept_trans h.grown (kept_below hb), h.own.kept (only_of_below hb none) (by cases v.ownBlock <;> simp)⟩
theorem NumsI.next {W0 W W' : World} {b g L C i n : Nat} {qs done : List Rat} {v : Value} (h : NumsI W0 b g L C qs i v done W) (ha : ArgsAt W' b (some ⟨g, 0, none⟩) L C n) (hg : W.grownBy W' (some b)) (hP : Past b) (hgb : g ≠ b) (hb0 : b < W0.heap.size) : NumsI W0 b g L C qs n v done W' :=
  ⟨ha, fun j hj => (h.nums j hj).kept hg hgb, h.env.kept hg hP, kept_trans h.grown hg, h.own.kept hg (by
    cases hv : v.ownBlock with
    | none => exact .inl rfl
    | some r => right; intro e; have := own_lt h.own r hv; injection e; omega)⟩
theorem NumsI.push {W0 W W' : World} {b g L C i : Nat} {qs done : List Rat} {v v' : Value} {q : Rat} (h : NumsI W0 b g L C qs i v done W) (ho : W'.ownsRow W0.heap.size 24 2 v' (done.length + 1) (fracCells done ++ [.string (numS q), .string (denS q)])) (hg : W.grownBy W' v.ownBlock) (hb0 : b < W0.heap.size) (hg0 : g < W0.heap.size) (hE0 : Past W0.heap.size) : NumsI W0 b g L C qs i v' (done ++ [q]) W' := by
  have hother : ∀ k, k < W0.heap.size → W'.heap[k]? = W.heap[k]? := fun k hk => hg.block k (Nat.lt_of_lt_of_le hk h.grown.size) (fun e => by have := own_lt h.own k e.symm; omega)
  have hcell : ∀ (p : Addr) (x : Value), p.block < W0.heap.size → W.cell? p = some x → W'.cell? p = some x := by
    intro p x hp hx
    have := hother p.block hp
    simp only [World.cell?] at hx ⊢
    rw [this]; exact hx
  refine ⟨(hother b hb0).trans h.args, fun j hj => ?_, ⟨?_, ?_, ?_⟩, only_then h.grown hg (fun r hr => .inr (own_lt h.own r hr)), by unfold OwnF; rw [fracCells_snoc, List.length_append]; exact ho⟩
  · obtain ⟨h0, h1, h2, h3, h4, h5, h6, h7, h8⟩ := h.nums j hj
    exact ⟨hcell _ _ hg0 h0, hcell _ _ hg0 h1, hcell _ _ hg0 h2, hcell _ _ hg0 h3, hcell _ _ hg0 h4, hcell _ _ hg0 h5, hcell _ _ hg0 h6, hcell _ _ hg0 h7, hcell _ _ hg0 h8⟩
  · have := h.env.tab
    unfold Tab Lib.TabIs World.var? at this ⊢
    have hgl : Tryz.prog.globalNamed "internal/strconv.uint64pow10" = some 4 := by kernel_rfl
    rw [hgl] at this ⊢
    simp only [Option.bind_some] at this ⊢
    rw [hother _ hE0.2]; exact this
  · intro j hj
    have h1 := h.env.faults j hj
    have hl : j < faultTexts.size := hj
    rw [Array.getElem?_eq_getElem hl] at h1 ⊢
    exact hcell _ _ hE0.1 h1
  · exact ⟨Nat.lt_of_lt_of_le h.env.room.1 hg.size, Nat.lt_of_lt_of_le h.env.room.2 hg.size⟩

set_option maxHeartbeats 4000000 in
set_option maxRecDepth 100000 in
theorem numbers_any (qs : List Rat) (b g C : Nat) (w : World) (h9 : qs.length ≤ 300) (hq : ∀ q ∈ qs, fits q = true) (ha : ArgsAt w b (some ⟨g, 0, none⟩) qs.length C 0) (hn : AllNums w g qs) (hgb : g ≠ b) (hg0 : g < w.heap.size) (hE : Env w) (hP : Past b) :
    Calls Tryz.prog 153 #[.pointer (some ⟨b, 0, none⟩)] w fun e w' => ∃ v, e = .returned v ∧ OwnF w.heap.size v qs w' ∧ Env w' ∧ w.grownBy w' (some b) := by
  have hb0 : b < w.heap.size := heap_lt ha
  have HI0 := Lib.hid (show NumsI w b g qs.length C qs 0 (.slice none 0 0) [] w from ⟨ha, hn, hE, only_refl _ _, World.ownsRow_nil _ _ _ _⟩)
  have HE0 := Lib.hid (show Past w.heap.size from hE.room)
  have HP := Lib.hid hP
  have HGB := Lib.hid hgb
  have HQ := Lib.hid hq
  obtain ⟨L, hL⟩ : ∃ L, qs.length = L := ⟨_, rfl⟩
  have HLL := Lib.hid hL
  rw [hL] at HI0 h9
  obtain ⟨i0, hi0', hz0, hz1, hz2⟩ := info_frac
  have TM := Lib.hid (fun W i ga => more_any b (some ⟨g, 0, none⟩) L C i W ga (by omega))
  clear ha hn hgb hE hP hq hL
  go_enter Tryz.func153, Tryz.ntmps153
  go_wp2_with fail
  go_loopg [3] L (fun gh v3 wx => ∃ i : Nat, i ≤ L ∧ gh = L - i ∧ NumsI w b g L C qs i v3 (qs.take i) wx)
  case atStart => exact ⟨0, Nat.zero_le _, rfl, HI0.out⟩
  case round =>
    clear HI0
    obtain ⟨i, hi, rfl, hni⟩ := hrel
    have HNI := Lib.hid hni
    clear hni
    go_wp2_with fail
    refine (TM.out _ i HNI.out.args).mono ?_
    rintro e w1 ⟨rfl, hb⟩
    replace HNI := Lib.hid (HNI.out.below hb)
    clear hb
    by_cases hlt : i < L
    · have hd : decide (i < L) = true := decide_eq_true hlt
      rw [hd]
      have hiq : i < qs.length := by rw [HLL.out]; exact hlt
      obtain ⟨q, hqq⟩ : ∃ q, qs[i] = q := ⟨_, rfl⟩
      have hfq : fits q = true := by rw [← hqq]; exact HQ.out _ (List.getElem_mem hiq)
      have HTK := Lib.hid (show qs.take (i + 1) = qs.take i ++ [q] by rw [List.take_succ_eq_append_getElem hiq, hqq])
      have HNC := Lib.hid (show NumCells w1 g (0 + i * 9) q by rw [← hqq]; exact HNI.out.nums i hiq)
      have TV := Lib.hid (fun W ga gc => value_any b g 0 L C i 1 (numS q) (denS q) { data := #[] } false 0 0 0 none 0 0 W ga hlt (by omega) HGB.out gc)
      have TN := Lib.hid (fun W ge => toNumber_num q W hfq ge)
      rw [fracV_is q] at TN
      have HDL := Lib.hid (show (qs.take i).length = i by simp; omega)
      clear hqq hfq hiq hd
      go_wp2_with fail
      refine (TV.out _ HNI.out.args HNC.out).mono ?_
      rintro e w2 ⟨rfl, ha, hg⟩
      replace HNI := Lib.hid (HNI.out.next ha hg HP.out HGB.out hb0)
      clear ha hg
      replace HNI := Lib.hid (HNI.out.below ((Below.refl w2.heap.size w2).alloc (Nat.le_refl _) (.cells #[.int .i64 1, .string (numS q), .string (denS q), .string { data := #[] }, .bool false, .int .i64 0, .int .i64 0, .int .i64 0, .slice none 0 0] 27)))
      go_wp2_with fail
      refine (TN.out _ HNI.out.env).mono ?_
      rintro e w3 ⟨rfl, hb⟩
      replace HNI := Lib.hid (HNI.out.below hb)
      clear hb
      replace HNI := Lib.hid (HNI.out.below ((Below.refl w3.heap.size w3).alloc (Nat.le_refl _) (.cells #[.string (numS q), .string (denS q)] 24)))
      go_wp2_with fail
      refine (stop_zero _).mono ?_
      rintro e w4 ⟨rfl, rfl⟩
      replace HNI := Lib.hid (HNI.out.below ((Below.refl (w3.alloc (.cells #[.string (numS q), .string (denS q)] 24)).heap.size (w3.alloc (.cells #[.string (numS q), .string (denS q)] 24))).alloc (Nat.le_refl _) (.cells #[.string (numS q), .string (denS q)] 24)))
      have hown := HNI.out.own
      unfold OwnF at hown
      rw [HDL.out] at hown
      obtain ⟨av, cv, hu⟩ := owns_form hown
      subst hu
      have HOW := Lib.hid hown
      clear hown
      have hml : i + 1 ≤ maxLen := by unfold maxLen; omega
      have hpos : (w3.alloc (.cells #[.string (numS q), .string (denS q)] 24)).heap.size = w3.heap.size + 1 := by simp
      have hnews := World.news_of_block (cs := #[.string (numS q), .string (denS q)]) (t := 24) (fr := (0, 0)) (heap_alloc_new (w3.alloc (.cells #[.string (numS q), .string (denS q)] 24)) (.cells #[.string (numS q), .string (denS q)] 24))
      rw [hpos] at hnews
      have HNW := Lib.hid hnews
      have hbs : w.heap.size ≤ ((w3.alloc (.cells #[.string (numS q), .string (denS q)] 24)).alloc (.cells #[.string (numS q), .string (denS q)] 24)).heap.size := HNI.out.grown.size
      have HBS := Lib.hid hbs
      clear hnews hpos hbs
      go_wp2_with (at_builtin; refine wpList_append_own _ rfl _ _ 138 rfl w.heap.size 24 i0 _ 2 32 Tryz.underlying138 hi0' hz0 hz1 hz2 rfl (by decide) (.slice av i cv) i (fracCells (qs.take i)) rfl HOW.out ⟨w3.heap.size + 1, 0, none⟩ 1 1 [.string (numS q), .string (denS q)] rfl rfl HNW.out (by simp [Value.oneCell']) hml (by omega) HBS.out ?_)
      intro v5 w5 hown5 hgrow5 _
      have HNI5 := Lib.hid (HNI.out.push (by rw [HDL.out]; exact hown5) hgrow5 hb0 hg0 HE0.out)
      rw [← HTK.out] at HNI5
      clear hown5 hgrow5
      go_wp2
      go_roundg (L - (i + 1))
      case measure => omega
      case rel => exact ⟨i + 1, by omega, rfl, HNI5.out⟩
    · have hd : decide (i < L) = false := decide_eq_false hlt
      rw [hd]
      have hiL : i = L := by omega
      have HTK := Lib.hid (show qs.take i = qs by rw [hiL, ← HLL.out, List.take_length])
      rw [HTK.out] at HNI
      clear hiL hlt
      go_wp2
      go_ret
      exact ⟨_, rfl, HNI.out.own, HNI.out.env, HNI.out.grown⟩
end Go.Proofs.YtnlaecjniellpaaGreatDoor.Num

/- package fmath: the sum of a row of fractions. Conditions: no partial sum is too long; the tables lie as they are laid. -/
namespace Go.Proofs.YtnlaecjniellpaaGreatDoor.Num
open Go.RowKit Go.Lib

def sumL (qs : List Rat) : Rat := qs.foldl (· + ·) 0
def prodL (qs : List Rat) : Rat := qs.foldl (· * ·) 1
theorem sumL_snoc (qs : List Rat) (q : Rat) : sumL (qs ++ [q]) = sumL qs + q := by simp [sumL]
theorem prodL_snoc (qs : List Rat) (q : Rat) : prodL (qs ++ [q]) = prodL qs * q := by simp [prodL]
/-- fractions one behind the other in memory -/
def FracsAt (W : World) (g : Nat) (qs : List Rat) : Prop := ∀ i (h : i < qs.length), W.cell? ⟨g, i * 2, none⟩ = some (.string (numS qs[i])) ∧ W.cell? ⟨g, i * 2 + 1, none⟩ = some (.string (denS qs[i]))
theorem fracCells_get : ∀ (qs : List Rat) (i : Nat) (h : i < qs.length), (fracCells qs)[i * 2]? = some (.string (numS qs[i])) ∧ (fracCells qs)[i * 2 + 1]? = some (.string (denS qs[i]))
  | q :: r, 0, _ => ⟨rfl, rfl⟩
  | q :: r, i + 1, h => by
    have := fracCells_get r i (by simpa using h)
    unfold fracCells at this ⊢
    rw [List.flatMap_cons]
    refine ⟨?_, ?_⟩
    · rw [List.getElem?_append_right (by show 2 ≤ _; omega), show (i + 1) * 2 - [Value.string (numS q), Value.string (denS q)].length = i * 2 by show (i + 1) * 2 - 2 = _; omega]
      exact this.1
    · rw [List.getElem?_append_right (by show 2 ≤ _; omega), show (i + 1) * 2 + 1 - [Value.string (numS q), Value.string (denS q)].length = i * 2 + 1 by show (i + 1) * 2 + 1 - 2 = _; omega]
      exact this.2
theorem OwnF.at {B : Nat} {v : Value} {qs : List Rat} {W : World} (h : OwnF B v qs W) (h0 : 0 < qs.length) : ∃ g cap, v = .slice (some ⟨g, 0, none⟩) qs.length cap ∧ B ≤ g ∧ qs.length ≤ cap ∧ FracsAt W g qs := by
  rcases h.2 with ⟨_, h0'⟩ | ⟨g, cap, cur, rfl, hb, hg, hc1, hc2, hcs, htk⟩
  · omega
  · refine ⟨g, cap, rfl, hb, hc1, fun i hi => ?_⟩
    obtain ⟨h1, h2⟩ := fracCells_get qs i hi
    rw [← htk] at h1 h2
    rw [List.getElem?_take_of_lt (by omega)] at h1 h2
    exact ⟨by rw [Lib.cell_of_heap hg]; simpa using h1, by rw [Lib.cell_of_heap hg]; simpa using h2⟩
theorem FracsAt.below {w w' : World} {g : Nat} {qs : List Rat} (h : FracsAt w g qs) (hb : Below w.heap.size w w') : FracsAt w' g qs := fun i hi => ⟨cell_below (h i hi).1 hb, cell_below (h i hi).2 hb⟩
theorem FracsAt.but {W W' : World} {g R : Nat} {qs : List Rat} (h : FracsAt W g qs) (ho : ∀ k, k ≠ R → W'.heap[k]? = W.heap[k]?) (hne : g ≠ R) : FracsAt W' g qs := fun i hi => ⟨but_cell (h i hi).1 ho hne, but_cell (h i hi).2 ho hne⟩
theorem Env.but {W W' : World} {R : Nat} (h : Env W) (ho : ∀ k, k ≠ R → W'.heap[k]? = W.heap[k]?) (hs : W.heap.size ≤ W'.heap.size) (hP : Past R) : Env W' := by
  refine ⟨?_, ?_, Nat.lt_of_lt_of_le h.room.1 hs, Nat.lt_of_lt_of_le h.room.2 hs⟩
  · have := h.tab
    unfold Tab Lib.TabIs World.var? at this ⊢
    have hgl : Tryz.prog.globalNamed "internal/strconv.uint64pow10" = some 4 := by kernel_rfl
    rw [hgl] at this ⊢
    simp only [Option.bind_some] at this ⊢
    rw [ho _ (Nat.ne_of_lt hP.2)]; exact this
  · intro j hj
    have h1 := h.faults j hj
    have hl : j < faultTexts.size := hj
    rw [Array.getElem?_eq_getElem hl] at h1 ⊢
    exact but_cell h1 ho (Nat.ne_of_lt hP.1)
/-- what stays while a row is added up: the row, the sum so far (block P), the result's block R -/
structure TotI (w : World) (g P R : Nat) (qs : List Rat) (s : Rat) (W : World) : Prop where
  row : FracsAt W g qs
  sum : W.heap[P]? = some (.cells #[.string (numS s), .string (denS s)] 24 (0, 0))
  res : W.heap[R]? = some (.cells #[.string { data := #[] }, .string { data := #[] }] 24 (0, 0))
  env : Env W
  low : Below w.heap.size w W
theorem TotI.step {w W W' : World} {g P R : Nat} {qs : List Rat} {s : Rat} (h : TotI w g P R qs s W) (hb : Below W.heap.size W W') : TotI w g P R qs s W' :=
  ⟨h.row.below hb, keep_block h.sum hb, keep_block h.res hb, h.env.below hb, h.low.trans (hb.mono h.low.size)⟩
theorem TotI.set {w W : World} {g P R : Nat} {qs : List Rat} {s t : Rat} (h : TotI w g P R qs s W) (hg : g ≠ P) (hR : R ≠ P) (hP : w.heap.size ≤ P) (hPP : Past P) : TotI w g P R qs t ((W.setCell ⟨P, 0, none⟩ (.string (numS t))).setCell ⟨P, 1, none⟩ (.string (denS t))) :=
  ⟨h.row.but (fun k hk => set2_other W P _ _ hk) hg, set2_at h.sum _ _, (set2_other W P _ _ hR).trans h.res, h.env.but (fun k hk => set2_other W P _ _ hk) (by simp []) hPP, (h.low.setCell (p := ⟨P, 0, none⟩) hP _).setCell (p := ⟨P, 1, none⟩) hP _⟩

set_option maxHeartbeats 4000000 in
set_option maxRecDepth 100000 in
theorem total_any (qs : List Rat) (g cap : Nat) (w : World) (h0 : 0 < qs.length) (h9 : qs.length ≤ 1000000) (hr : FracsAt w g qs) (hq : ∀ q ∈ qs, fits q = true) (hf : ∀ k, k ≤ qs.length → fits (sumL (qs.take k)) = true) (hE : Env w) :
    Calls Tryz.prog 152 #[.slice (some ⟨g, 0, none⟩) qs.length cap] w fun e w' => e = .returned (fracV (sumL qs)) ∧ Below w.heap.size w w' := by
  have hgl : g < w.heap.size := cell_lt (hr 0 h0).1
  have TO := Lib.hid (fun W gg => of_any 0 W (by decide) (by decide) gg)
  rw [show ((0 : Int) : Rat) = 0 from rfl, fracV_is 0] at TO
  have hb : Below w.heap.size w (w.alloc (.cells #[.string { data := #[] }, .string { data := #[] }] 24)) := (Below.refl _ _).alloc (Nat.le_refl _) _
  have HR := Lib.hid (heap_alloc_new w (.cells #[.string { data := #[] }, .string { data := #[] }] 24))
  have HV := Lib.hid (hr.below hb)
  have HE := Lib.hid (hE.below hb)
  have HL := Lib.hid hb
  have HQ := Lib.hid hq
  have HF := Lib.hid hf
  obtain ⟨L, hL⟩ : ∃ L, qs.length = L := ⟨_, rfl⟩
  have HLL := Lib.hid hL
  rw [hL] at h0 h9 ⊢
  clear hb hr hq hf hE hL
  rw [fracV_is (sumL qs)]
  go_enter Tryz.func152, Tryz.ntmps152
  go_wp2_with fail
  refine (TO.out _ HE.out.tab).mono ?_
  rintro e w1 ⟨rfl, hb⟩
  replace HR := Lib.hid (keep_block HR.out hb)
  replace HV := Lib.hid (HV.out.below hb)
  replace HE := Lib.hid (HE.out.below hb)
  replace HL := Lib.hid (HL.out.trans (hb.mono HL.out.size))
  clear hb
  have hb : Below w1.heap.size w1 (w1.alloc (.cells #[.string (numS 0), .string (denS 0)] 24)) := (Below.refl _ _).alloc (Nat.le_refl _) _
  have HS := Lib.hid (heap_alloc_new w1 (.cells #[.string (numS 0), .string (denS 0)] 24))
  have NP := Lib.hid (show w.heap.size < w1.heap.size from heap_lt HR.out)
  have HPP := Lib.hid (show Past w1.heap.size from HE.out.room)
  replace HR := Lib.hid (keep_block HR.out hb)
  replace HV := Lib.hid (HV.out.below hb)
  replace HE := Lib.hid (HE.out.below hb)
  replace HL := Lib.hid (HL.out.trans (hb.mono HL.out.size))
  clear hb
  have HI0 := Lib.hid (show TotI w g w1.heap.size w.heap.size qs (sumL (qs.take 0)) _ from ⟨HV.out, HS.out, HR.out, HE.out, HL.out⟩)
  clear HR HV HE HL HS
  obtain ⟨P, hPn⟩ : ∃ P, w1.heap.size = P := ⟨_, rfl⟩
  have HPN := Lib.hid hPn
  rw [hPn] at NP HPP HI0
  go_wp2_with fail
  go_loopg [9] L (fun gh v9 wx => ∃ k : Nat, v9 = .int .i64 (k : Int) ∧ k ≤ L ∧ gh = L - k ∧ TotI w g P w.heap.size qs (sumL (qs.take k)) wx)
  case atStart => exact ⟨0, rfl, Nat.zero_le _, rfl, HI0.out⟩
  case round =>
    clear HI0
    obtain ⟨k, rfl, hk, rfl, hti⟩ := hrel
    have HTI := Lib.hid hti
    clear hti
    by_cases hlt : k < L
    · have hd : decide ((k : Int) < (L : Int)) = true := decide_eq_true (by omega)
      have hd2 : decide (k < L) = true := decide_eq_true hlt
      have hkq : k < qs.length := by rw [HLL.out]; exact hlt
      obtain ⟨q, hqq⟩ : ∃ q, qs[k] = q := ⟨_, rfl⟩
      have hfq : fits q = true := by rw [← hqq]; exact HQ.out _ (List.getElem_mem hkq)
      have hts : qs.take (k + 1) = qs.take k ++ [q] := by rw [List.take_succ_eq_append_getElem hkq, hqq]
      have hsn : sumL (qs.take (k + 1)) = sumL (qs.take k) + q := by rw [hts, sumL_snoc]
      have TA := Lib.hid (fun W gg => fm_add (sumL (qs.take k)) q W (HF.out k (by omega)) hfq (by rw [← hsn]; exact HF.out (k + 1) (by omega)) gg)
      rw [← hsn] at TA
      obtain ⟨sk, hsk⟩ : ∃ z, sumL (qs.take k) = z := ⟨_, rfl⟩
      obtain ⟨sn, hsn2⟩ : ∃ z, sumL (qs.take (k + 1)) = z := ⟨_, rfl⟩
      rw [hsk] at TA HTI
      rw [hsn2] at TA
      have HSN := Lib.hid hsn2
      have hrow := HTI.out.row k hkq
      rw [hqq] at hrow
      obtain ⟨c0, c1⟩ := hrow
      rw [fracV_is sk, fracV_is q, fracV_is sn] at TA
      have hi0 : (0 : Int) ≤ (k : Int) := by omega
      have hi1 : (k : Int) < (L : Int) := by omega
      clear hfq hts hsn hsk hsn2 hkq hqq
      have HTIS := Lib.hid HTI.out.sum
      obtain ⟨⟨p0, p1⟩, pf0, pf1⟩ := two_at HTIS.out
      have hlp := heap_lt HTIS.out
      have HTA := Lib.hid (HTI.out.step ((Below.refl wr.heap.size wr).alloc (Nat.le_refl _) (.cells #[.string (numS q), .string (denS q)] 24)))
      go_wp2_with fail
      refine (TA.out _ HTA.out.env).mono ?_
      rintro e w2 ⟨rfl, hb⟩
      have HT2 := Lib.hid (HTA.out.step hb)
      clear hb p0 p1 pf0 pf1 c0 c1 hlp
      have HT3 := Lib.hid (HT2.out.set (t := sn) (by have := NP.out; omega) (by have := NP.out; omega) (by have := NP.out; omega) HPP.out)
      have HTIS2 := Lib.hid HT2.out.sum
      obtain ⟨⟨p0, p1⟩, pf0, pf1⟩ := two_at HTIS2.out
      go_wp2
      go_roundg (L - (k + 1))
      case measure => omega
      case rel => exact ⟨k + 1, by go_num, by omega, by omega, by rw [HSN.out]; exact HT3.out⟩
    · have hd : decide ((k : Int) < (L : Int)) = false := decide_eq_false (by omega)
      have hd2 : decide (k < L) = false := decide_eq_false hlt
      have hkL : k = L := by omega
      have hall : qs.take k = qs := by rw [hkL, ← HLL.out, List.take_length]
      rw [hall] at HTI
      clear hkL hall hlt
      have HTIS := Lib.hid HTI.out.sum
      obtain ⟨⟨p0, p1⟩, pf0, pf1⟩ := two_at HTIS.out
      have HRR := Lib.hid HTI.out.res
      obtain ⟨⟨r0, r1⟩, rf0, rf1⟩ := two_at HRR.out
      obtain ⟨nb, e0, e1⟩ := frac_end (x := .string (numS (sumL qs))) (y := .string (denS (sumL qs))) HRR.out HTI.out.low (Nat.le_refl _)
      go_wp2
      refine bodyPost_ret (v := .agg #[.string (numS (sumL qs)), .string (denS (sumL qs))]) (by simp [results, Tryz.results152, go_sem, e0, e1]) rfl ⟨rfl, nb⟩
end Go.Proofs.YtnlaecjniellpaaGreatDoor.Num

/- package fmath: SUM and PRODUCT at numbers. Conditions: no partial result is too long; the tables lie as they are laid. -/
namespace Go.Proofs.YtnlaecjniellpaaGreatDoor.Num
open Go.RowKit Go.Lib

set_option maxHeartbeats 4000000 in
set_option maxRecDepth 100000 in
theorem fn_sum (qs : List Rat) (b g C : Nat) (w : World) (h0 : 0 < qs.length) (h9 : qs.length ≤ 300) (hq : ∀ q ∈ qs, fits q = true) (hf : ∀ k, k ≤ qs.length → fits (sumL (qs.take k)) = true) (ha : ArgsAt w b (some ⟨g, 0, none⟩) qs.length C 0) (hn : AllNums w g qs) (hgb : g ≠ b) (hg0 : g < w.heap.size) (hE : Env w) (hP : Past b) :
    Calls Tryz.prog 151 #[.pointer (some ⟨b, 0, none⟩)] w fun e w' => e = .returned (fracV (sumL qs)) ∧ w.grownBy w' (some b) := by
  have hb : Below w.heap.size w (w.alloc (.cells #[.string { data := #[] }, .string { data := #[] }] 24)) := (Below.refl _ _).alloc (Nat.le_refl _) _
  have HR := Lib.hid (heap_alloc_new w (.cells #[.string { data := #[] }, .string { data := #[] }] 24))
  have HL := Lib.hid hb
  have TN := Lib.hid (numbers_any qs b g C (w.alloc (.cells #[.string { data := #[] }, .string { data := #[] }] 24)) h9 hq (keep_block ha hb) (fun i hi => (hn i hi).below hb) hgb (by simp; omega) (hE.below hb) hP)
  have NRB := Lib.hid (show w.heap.size ≠ b from Nat.ne_of_gt (heap_lt ha))
  have HQ := Lib.hid hq
  have HF := Lib.hid hf
  have HP := Lib.hid hP
  obtain ⟨L, hL⟩ : ∃ L, qs.length = L := ⟨_, rfl⟩
  have HLL := Lib.hid hL
  rw [hL] at h0 h9
  clear hb ha hn hgb hg0 hE hq hf hP hL
  rw [fracV_is (sumL qs)]
  go_enter Tryz.func151, Tryz.ntmps151
  go_wp2_with fail
  refine TN.out.mono ?_
  rintro e w1 ⟨v, rfl, hown, henv, hg⟩
  obtain ⟨gg, cap, rfl, _, _, hfr⟩ := hown.at (by rw [HLL.out]; exact h0)
  have TT := Lib.hid (total_any qs gg cap w1 (by rw [HLL.out]; exact h0) (by rw [HLL.out]; omega) hfr HQ.out HF.out henv)
  rw [fracV_is (sumL qs)] at TT
  replace HR := Lib.hid (kept_block HR.out hg NRB.out)
  have HG := Lib.hid (kept_trans (kept_below (b := b) HL.out) hg)
  clear hown henv hg hfr
  go_wp2_with fail
  refine TT.out.mono ?_
  rintro e w2 ⟨rfl, hb⟩
  replace HR := Lib.hid (keep_block HR.out hb)
  replace HG := Lib.hid (kept_trans HG.out (kept_below hb))
  clear hb
  obtain ⟨⟨r0, r1⟩, rf0, rf1⟩ := two_at HR.out
  have hF := set2_at HR.out (.string (numS (sumL qs))) (.string (denS (sumL qs)))
  obtain ⟨⟨e0, e1⟩, _⟩ := two_at hF
  have HG2 := Lib.hid (kept2 HG.out (Nat.le_refl _) (.string (numS (sumL qs))) (.string (denS (sumL qs))))
  clear hF
  go_wp2
  refine bodyPost_ret (v := .agg #[.string (numS (sumL qs)), .string (denS (sumL qs))]) (by simp [results, Tryz.results151, go_sem, e0, e1]) rfl ⟨rfl, HG2.out⟩

/-- what stays while a row is multiplied -/
structure ProI (w : World) (b g P R : Nat) (qs : List Rat) (s : Rat) (W : World) : Prop where
  row : FracsAt W g qs
  sum : W.heap[P]? = some (.cells #[.string (numS s), .string (denS s)] 24 (0, 0))
  res : W.heap[R]? = some (.cells #[.string { data := #[] }, .string { data := #[] }] 24 (0, 0))
  env : Env W
  low : w.grownBy W (some b)
theorem ProI.step {w W W' : World} {b g P R : Nat} {qs : List Rat} {s : Rat} (h : ProI w b g P R qs s W) (hb : Below W.heap.size W W') : ProI w b g P R qs s W' :=
  ⟨h.row.below hb, keep_block h.sum hb, keep_block h.res hb, h.env.below hb, kept_trans h.low (kept_below hb)⟩
theorem ProI.set {w W : World} {b g P R : Nat} {qs : List Rat} {s t : Rat} (h : ProI w b g P R qs s W) (hg : g ≠ P) (hR : R ≠ P) (hP : w.heap.size ≤ P) (hPP : Past P) : ProI w b g P R qs t ((W.setCell ⟨P, 0, none⟩ (.string (numS t))).setCell ⟨P, 1, none⟩ (.string (denS t))) :=
  ⟨h.row.but (fun k hk => set2_other W P _ _ hk) hg, set2_at h.sum _ _, (set2_other W P _ _ hR).trans h.res, h.env.but (fun k hk => set2_other W P _ _ hk) (by simp []) hPP, kept2 h.low hP _ _⟩

set_option maxHeartbeats 4000000 in
set_option maxRecDepth 100000 in
theorem fn_product (qs : List Rat) (b g C : Nat) (w : World) (h0 : 0 < qs.length) (h9 : qs.length ≤ 300) (hq : ∀ q ∈ qs, fits q = true) (hf : ∀ k, k ≤ qs.length → fits (prodL (qs.take k)) = true) (ha : ArgsAt w b (some ⟨g, 0, none⟩) qs.length C 0) (hn : AllNums w g qs) (hgb : g ≠ b) (hg0 : g < w.heap.size) (hE : Env w) (hP : Past b) :
    Calls Tryz.prog 154 #[.pointer (some ⟨b, 0, none⟩)] w fun e w' => e = .returned (fracV (prodL qs)) ∧ w.grownBy w' (some b) := by
  have hb : Below w.heap.size w (w.alloc (.cells #[.string { data := #[] }, .string { data := #[] }] 24)) := (Below.refl _ _).alloc (Nat.le_refl _) _
  have HR := Lib.hid (heap_alloc_new w (.cells #[.string { data := #[] }, .string { data := #[] }] 24))
  have HL := Lib.hid hb
  have TN := Lib.hid (numbers_any qs b g C (w.alloc (.cells #[.string { data := #[] }, .string { data := #[] }] 24)) h9 hq (keep_block ha hb) (fun i hi => (hn i hi).below hb) hgb (by simp; omega) (hE.below hb) hP)
  have NRB := Lib.hid (show w.heap.size ≠ b from Nat.ne_of_gt (heap_lt ha))
  have HQ := Lib.hid hq
  have HF := Lib.hid hf
  have HP := Lib.hid hP
  obtain ⟨L, hL⟩ : ∃ L, qs.length = L := ⟨_, rfl⟩
  have HLL := Lib.hid hL
  rw [hL] at h0 h9
  clear hb ha hn hgb hg0 hE hq hf hP hL
  have TO := Lib.hid (fun W gg => of_any 1 W (by decide) (by decide) gg)
  rw [show ((1 : Int) : Rat) = 1 from rfl, fracV_is 1] at TO
  rw [fracV_is (prodL qs)]
  have hL0 : ((L : Int) == 0) = false := by rw [beq_eq_false_iff_ne]; omega
  go_enter Tryz.func154, Tryz.ntmps154
  go_wp2_with fail
  refine TN.out.mono ?_
  rintro e w1 ⟨v, rfl, hown, henv, hg⟩
  obtain ⟨gg, cap, hvv, _, _, hfr⟩ := hown.at (by rw [HLL.out]; exact h0)
  rw [HLL.out] at hvv
  subst hvv
  replace HR := Lib.hid (kept_block HR.out hg NRB.out)
  have HG := Lib.hid (kept_trans (kept_below (b := b) HL.out) hg)
  have HV := Lib.hid hfr
  have HE := Lib.hid henv
  clear hown henv hg hfr
  go_wp2_with fail
  refine (TO.out _ HE.out.tab).mono ?_
  rintro e w2 ⟨rfl, hb⟩
  replace HR := Lib.hid (keep_block HR.out hb)
  replace HG := Lib.hid (kept_trans HG.out (kept_below hb))
  replace HV := Lib.hid (HV.out.below hb)
  replace HE := Lib.hid (HE.out.below hb)
  have HGL := Lib.hid (cell_lt (HV.out 0 (by rw [HLL.out]; exact h0)).1)
  clear hb
  have NP := Lib.hid (show w.heap.size < w2.heap.size from heap_lt HR.out)
  have HPP := Lib.hid (show Past w2.heap.size from HE.out.room)
  have hb : Below w2.heap.size w2 (w2.alloc (.cells #[.string (numS 1), .string (denS 1)] 24)) := (Below.refl _ _).alloc (Nat.le_refl _) _
  have HI0 := Lib.hid (show ProI w b gg w2.heap.size w.heap.size qs (prodL (qs.take 0)) _ from ⟨HV.out.below hb, heap_alloc_new w2 _, keep_block HR.out hb, HE.out.below hb, kept_trans HG.out (kept_below hb)⟩)
  clear hb HR HG HV HE
  obtain ⟨P, hPn⟩ : ∃ P, w2.heap.size = P := ⟨_, rfl⟩
  rw [hPn] at NP HPP HI0 HGL
  go_wp2_with fail
  go_loopg [16] L (fun gh v9 wx => ∃ k : Nat, v9 = .int .i64 (k : Int) ∧ k ≤ L ∧ gh = L - k ∧ ProI w b gg P w.heap.size qs (prodL (qs.take k)) wx)
  case atStart => exact ⟨0, rfl, Nat.zero_le _, rfl, HI0.out⟩
  case round =>
    clear HI0
    obtain ⟨k, rfl, hk, rfl, hti⟩ := hrel
    have HTI := Lib.hid hti
    clear hti
    by_cases hlt : k < L
    · have hd : decide ((k : Int) < (L : Int)) = true := decide_eq_true (by omega)
      have hd2 : decide (k < L) = true := decide_eq_true hlt
      have hkq : k < qs.length := by rw [HLL.out]; exact hlt
      obtain ⟨q, hqq⟩ : ∃ q, qs[k] = q := ⟨_, rfl⟩
      have hfq : fits q = true := by rw [← hqq]; exact HQ.out _ (List.getElem_mem hkq)
      have hts : qs.take (k + 1) = qs.take k ++ [q] := by rw [List.take_succ_eq_append_getElem hkq, hqq]
      have hsn : prodL (qs.take (k + 1)) = prodL (qs.take k) * q := by rw [hts, prodL_snoc]
      have TA := Lib.hid (fun W gg => fm_mul (prodL (qs.take k)) q W (HF.out k (by omega)) hfq (by rw [← hsn]; exact HF.out (k + 1) (by omega)) gg)
      rw [← hsn] at TA
      obtain ⟨sk, hsk⟩ : ∃ z, prodL (qs.take k) = z := ⟨_, rfl⟩
      obtain ⟨sn, hsn2⟩ : ∃ z, prodL (qs.take (k + 1)) = z := ⟨_, rfl⟩
      rw [hsk] at TA HTI
      rw [hsn2] at TA
      have HSN := Lib.hid hsn2
      have hrow := HTI.out.row k hkq
      rw [hqq] at hrow
      obtain ⟨c0, c1⟩ := hrow
      rw [fracV_is sk, fracV_is q, fracV_is sn] at TA
      have hi0 : (0 : Int) ≤ (k : Int) := by omega
      have hi1 : (k : Int) < (L : Int) := by omega
      clear hfq hts hsn hsk hsn2 hkq hqq
      have HTIS := Lib.hid HTI.out.sum
      obtain ⟨⟨p0, p1⟩, pf0, pf1⟩ := two_at HTIS.out
      have hlp := heap_lt HTIS.out
      have HTA := Lib.hid (HTI.out.step ((Below.refl wr.heap.size wr).alloc (Nat.le_refl _) (.cells #[.string (numS q), .string (denS q)] 24)))
      go_wp2_with fail
      refine (TA.out _ HTA.out.env).mono ?_
      rintro e w2 ⟨rfl, hb⟩
      have HT2 := Lib.hid (HTA.out.step hb)
      clear hb p0 p1 pf0 pf1 c0 c1 hlp
      have HT3 := Lib.hid (HT2.out.set (t := sn) (by have := HGL.out; omega) (by have := NP.out; omega) (by have := NP.out; omega) HPP.out)
      have HTIS2 := Lib.hid HT2.out.sum
      obtain ⟨⟨p0, p1⟩, pf0, pf1⟩ := two_at HTIS2.out
      go_wp2
      go_roundg (L - (k + 1))
      case measure => omega
      case rel => exact ⟨k + 1, by go_num, by omega, by omega, by rw [HSN.out]; exact HT3.out⟩
    · have hd : decide ((k : Int) < (L : Int)) = false := decide_eq_false (by omega)
      have hd2 : decide (k < L) = false := decide_eq_false hlt
      have hkL : k = L := by omega
      have hall : qs.take k = qs := by rw [hkL, ← HLL.out, List.take_length]
      rw [hall] at HTI
      clear hkL hall hlt
      have HTIS := Lib.hid HTI.out.sum
      obtain ⟨⟨p0, p1⟩, pf0, pf1⟩ := two_at HTIS.out
      have HRR := Lib.hid HTI.out.res
      obtain ⟨⟨r0, r1⟩, rf0, rf1⟩ := two_at HRR.out
      have hF := set2_at HRR.out (.string (numS (prodL qs))) (.string (denS (prodL qs)))
      obtain ⟨⟨e0, e1⟩, _⟩ := two_at hF
      have HG2 := Lib.hid (kept2 HTI.out.low (Nat.le_refl _) (.string (numS (prodL qs))) (.string (denS (prodL qs))))
      clear hF
      go_wp2
      refine bodyPost_ret (v := .agg #[.string (numS (prodL qs)), .string (denS (prodL qs))]) (by simp [results, Tryz.results154, go_sem, e0, e1]) rfl ⟨rfl, HG2.out⟩
end Go.Proofs.YtnlaecjniellpaaGreatDoor.Num

/- the law's math at a function of numbers of the table. Conditions: the tables lie as they are laid. -/
namespace Go.Proofs.YtnlaecjniellpaaGreatDoor.Num
open Go.RowKit Go.Lib

/-- values that are numbers -/
def numVals (qs : List Rat) : List Val := qs.map numVal'
theorem numVals_len (qs : List Rat) : (numVals qs).length = qs.length := by simp [numVals]
theorem numVals_at (qs : List Rat) (i : Nat) (h : i < (numVals qs).length) : (numVals qs)[i] = numVal' (qs[i]'(by rw [← numVals_len]; exact h)) := by simp [numVals]
theorem allNums_of {W : World} {g : Nat} {qs : List Rat} (h : ValsAt W g 0 (numVals qs)) : AllNums W g qs := fun i hi => vals_num h i (by rw [numVals_len]; exact hi) qs[i] (numVals_at qs i (by rw [numVals_len]; exact hi))
theorem check_nums {w : World} {qs : List Rat} (hq : ∀ q ∈ qs, fits q = true) (hE : Env w) : ∀ v ∈ numVals qs, ∀ W, Below w.heap.size w W → Calls Tryz.prog 97 #[v.agg] W fun e w' => e = .returned (.int .i64 0) ∧ Below W.heap.size W w' := by
  intro v hv W hb
  obtain ⟨q, hqm, rfl⟩ := List.mem_map.1 hv
  exact check_num q W (hq q hqm) (hE.below hb)
theorem kinds_num (qs : List Rat) : ∀ v ∈ numVals qs, (v.k == 5) = false := by
  intro v hv
  obtain ⟨q, _, rfl⟩ := List.mem_map.1 hv
  rfl

theorem math_a_val (i : Nat) (r : Row) (hi : i < allRows.length) (hr : allRows[i] = r) (hkd : r.kinds = { data := #[97] }) (hfr : ∀ j (hj : j < i), (allRows[i].name == (allRows[j]'(by omega)).name) = false) (hnum : r.num = true) (eF : ∀ args w, (callFunc r.fn args).run Tryz.prog w = .ok (.enter r.fn args) w) (qs : List Rat) (ab ao C : Nat) (q : Rat) (w : World) (h0 : 0 < qs.length) (h9 : qs.length ≤ 300) (hc1 : r.least ≤ qs.length) (hc2 : (qs.length : Int) ≤ r.most) (hv : ValsAt w ab ao (numVals qs)) (hE : Env w) (hqs : ∀ q ∈ qs, fits q = true) (hq : fits q = true)
    (hF : ∀ W b g cap, Env W → Past b → b < W.heap.size → g < W.heap.size → ArgsAt W b (some ⟨g, 0, none⟩) qs.length cap 0 → AllNums W g qs → g ≠ b → Calls Tryz.prog r.fn #[.pointer (some ⟨b, 0, none⟩)] W fun e w' => e = .returned (fracV q) ∧ W.grownBy w' (some b)) :
    Calls Tryz.prog 5 #[.string r.name, .slice (some ⟨ab, ao, none⟩) qs.length C] w fun e w' => e = .returned (numVal q) ∧ Below w.heap.size w w' := by
  have hl := numVals_len qs
  have h := math_of r.name (.slice (some ⟨ab, ao, none⟩) (numVals qs).length C) (numVal' q) w ⟨_, _, _, rfl⟩ (fun W b hb hT =>
    run_a_val i r hi hr hkd hfr (numVals qs) b ab ao C (numVal' q) W (by omega) (by omega) (by rw [hl]; exact hc1) (by rw [hl]; exact hc2) (hv.below hb) (hE.below hb) hT ⟨rfl, rfl, rfl, rfl, rfl⟩ (fun W g => check_num q W hq g)
      (fun v hv' W' h => check_nums hqs hE v hv' W' (hb.trans (h.mono hb.size)))
      (fun W' e g cap _ hE' hfn hva => entry1_val r g cap e (numVals qs) q W' hnum hfn eF hE' hva hq (fun W'' b' _ hE'' hP hlt ha hva' hne => hF W'' b' g cap hE'' hP hlt (cell_lt (hva'.at 0 (by omega)).1) (by rw [← hl]; exact ha) (allNums_of hva') hne) (by omega)))
  rw [hl] at h
  exact h

theorem math_a_stop (i : Nat) (r : Row) (hi : i < allRows.length) (hr : allRows[i] = r) (hkd : r.kinds = { data := #[97] }) (hfr : ∀ j (hj : j < i), (allRows[i].name == (allRows[j]'(by omega)).name) = false) (hnum : r.num = true) (eF : ∀ args w, (callFunc r.fn args).run Tryz.prog w = .ok (.enter r.fn args) w) (qs : List Rat) (ab ao C : Nat) (c : Int) (w : World) (h0 : 0 < qs.length) (h9 : qs.length ≤ 300) (hc1 : r.least ≤ qs.length) (hc2 : (qs.length : Int) ≤ r.most) (hv : ValsAt w ab ao (numVals qs)) (hE : Env w) (hqs : ∀ q ∈ qs, fits q = true) (h1 : 1 ≤ c) (h2 : c ≤ 8)
    (hF : ∀ W b g cap, Env W → Past b → b < W.heap.size → g < W.heap.size → ArgsAt W b (some ⟨g, 0, none⟩) qs.length cap 0 → AllNums W g qs → g ≠ b → Calls Tryz.prog r.fn #[.pointer (some ⟨b, 0, none⟩)] W fun e w' => e = stopped c ∧ W.grownBy w' (some b)) :
    Calls Tryz.prog 5 #[.string r.name, .slice (some ⟨ab, ao, none⟩) qs.length C] w fun e w' => e = .returned (faultVal c) ∧ Below w.heap.size w w' := by
  have hl := numVals_len qs
  have h := math_of r.name (.slice (some ⟨ab, ao, none⟩) (numVals qs).length C) (faultVal' c) w ⟨_, _, _, rfl⟩ (fun W b hb hT =>
    run_a_stop i r hi hr hkd hfr (numVals qs) b ab ao C c W (by omega) (by omega) (by rw [hl]; exact hc1) (by rw [hl]; exact hc2) (hv.below hb) (hE.below hb) hT h1 h2
      (fun v hv' W' h => check_nums hqs hE v hv' W' (hb.trans (h.mono hb.size)))
      (fun W' e g cap _ hE' hfn hva => entry1_stop r g cap e (numVals qs) c W' hnum hfn eF hE' hva (fun W'' b' _ hE'' hP hlt ha hva' hne => hF W'' b' g cap hE'' hP hlt (cell_lt (hva'.at 0 (by omega)).1) (by rw [← hl]; exact ha) (allNums_of hva') hne) (by omega)))
  rw [hl] at h
  exact h

theorem math_s_val (i : Nat) (r : Row) (hi : i < allRows.length) (hr : allRows[i] = r) (hkd : r.kinds = { data := #[115] }) (hfr : ∀ j (hj : j < i), (allRows[i].name == (allRows[j]'(by omega)).name) = false) (hnum : r.num = true) (eF : ∀ args w, (callFunc r.fn args).run Tryz.prog w = .ok (.enter r.fn args) w) (qs : List Rat) (ab ao C : Nat) (q : Rat) (w : World) (h0 : 0 < qs.length) (h9 : qs.length ≤ 300) (hc1 : r.least ≤ qs.length) (hc2 : (qs.length : Int) ≤ r.most) (hv : ValsAt w ab ao (numVals qs)) (hE : Env w) (hqs : ∀ q ∈ qs, fits q = true) (hq : fits q = true)
    (hF : ∀ W b g cap, Env W → Past b → b < W.heap.size → g < W.heap.size → ArgsAt W b (some ⟨g, 0, none⟩) qs.length cap 0 → AllNums W g qs → g ≠ b → Calls Tryz.prog r.fn #[.pointer (some ⟨b, 0, none⟩)] W fun e w' => e = .returned (fracV q) ∧ W.grownBy w' (some b)) :
    Calls Tryz.prog 5 #[.string r.name, .slice (some ⟨ab, ao, none⟩) qs.length C] w fun e w' => e = .returned (numVal q) ∧ Below w.heap.size w w' := by
  have hl := numVals_len qs
  have h := math_of r.name (.slice (some ⟨ab, ao, none⟩) (numVals qs).length C) (numVal' q) w ⟨_, _, _, rfl⟩ (fun W b hb hT =>
    run_s_val i r hi hr hkd hfr (numVals qs) b ab ao C (numVal' q) W (by omega) (by omega) (by rw [hl]; exact hc1) (by rw [hl]; exact hc2) (kinds_num qs) (hv.below hb) (hE.below hb) hT ⟨rfl, rfl, rfl, rfl, rfl⟩ (fun W g => check_num q W hq g)
      (fun v hv' W' h => check_nums hqs hE v hv' W' (hb.trans (h.mono hb.size)))
      (fun W' e g cap _ hE' hfn hva => entry1_val r g cap e (numVals qs) q W' hnum hfn eF hE' hva hq (fun W'' b' _ hE'' hP hlt ha hva' hne => hF W'' b' g cap hE'' hP hlt (cell_lt (hva'.at 0 (by omega)).1) (by rw [← hl]; exact ha) (allNums_of hva') hne) (by omega)))
  rw [hl] at h
  exact h

theorem math_s_stop (i : Nat) (r : Row) (hi : i < allRows.length) (hr : allRows[i] = r) (hkd : r.kinds = { data := #[115] }) (hfr : ∀ j (hj : j < i), (allRows[i].name == (allRows[j]'(by omega)).name) = false) (hnum : r.num = true) (eF : ∀ args w, (callFunc r.fn args).run Tryz.prog w = .ok (.enter r.fn args) w) (qs : List Rat) (ab ao C : Nat) (c : Int) (w : World) (h0 : 0 < qs.length) (h9 : qs.length ≤ 300) (hc1 : r.least ≤ qs.length) (hc2 : (qs.length : Int) ≤ r.most) (hv : ValsAt w ab ao (numVals qs)) (hE : Env w) (hqs : ∀ q ∈ qs, fits q = true) (h1 : 1 ≤ c) (h2 : c ≤ 8)
    (hF : ∀ W b g cap, Env W → Past b → b < W.heap.size → g < W.heap.size → ArgsAt W b (some ⟨g, 0, none⟩) qs.length cap 0 → AllNums W g qs → g ≠ b → Calls Tryz.prog r.fn #[.pointer (some ⟨b, 0, none⟩)] W fun e w' => e = stopped c ∧ W.grownBy w' (some b)) :
    Calls Tryz.prog 5 #[.string r.name, .slice (some ⟨ab, ao, none⟩) qs.length C] w fun e w' => e = .returned (faultVal c) ∧ Below w.heap.size w w' := by
  have hl := numVals_len qs
  have h := math_of r.name (.slice (some ⟨ab, ao, none⟩) (numVals qs).length C) (faultVal' c) w ⟨_, _, _, rfl⟩ (fun W b hb hT =>
    run_s_stop i r hi hr hkd hfr (numVals qs) b ab ao C c W (by omega) (by omega) (by rw [hl]; exact hc1) (by rw [hl]; exact hc2) (kinds_num qs) (hv.below hb) (hE.below hb) hT h1 h2
      (fun v hv' W' h => check_nums hqs hE v hv' W' (hb.trans (h.mono hb.size)))
      (fun W' e g cap _ hE' hfn hva => entry1_stop r g cap e (numVals qs) c W' hnum hfn eF hE' hva (fun W'' b' _ hE'' hP hlt ha hva' hne => hF W'' b' g cap hE'' hP hlt (cell_lt (hva'.at 0 (by omega)).1) (by rw [← hl]; exact ha) (allNums_of hva') hne) (by omega)))
  rw [hl] at h
  exact h
end Go.Proofs.YtnlaecjniellpaaGreatDoor.Num

/- the law's math at SUM, PRODUCT, MOD, QUOTIENT. Conditions: nothing is too long; the tables lie as they are laid. -/
namespace Go.Proofs.YtnlaecjniellpaaGreatDoor.Num
open Go.RowKit Go.Lib

theorem fr_of (i : Nat) (hi : i < allRows.length) (h : freshB allRows[i].name (allRows.take i) = true) : ∀ j (hj : j < i), (allRows[i].name == (allRows[j]'(by omega)).name) = false := by
  intro j hj
  have := fresh_of h (allRows[j]'(by omega)) (by
    rw [List.mem_take_iff_getElem]
    exact ⟨j, by omega, rfl⟩)
  exact this

theorem m_SUM (qs : List Rat) (ab ao C : Nat) (w : World) (h0 : 0 < qs.length) (h9 : qs.length ≤ 255) (hq : ∀ q ∈ qs, fits q = true) (hf : ∀ k, k ≤ qs.length → fits (sumL (qs.take k)) = true) (hv : ValsAt w ab ao (numVals qs)) (hE : Env w) :
    Calls Tryz.prog 5 #[.string { data := #[83, 85, 77] }, .slice (some ⟨ab, ao, none⟩) qs.length C] w fun e w' => e = .returned (numVal (sumL qs)) ∧ Below w.heap.size w w' :=
  math_a_val 17 ⟨{ data := #[83, 85, 77] }, 1, 255, { data := #[97] }, true, 151⟩ (by decide) rfl rfl (fr_of 17 (by decide) (by kernel_rfl)) rfl (enters_of Tryz.func151 (by kernel_rfl) rfl) qs ab ao C (sumL qs) w h0 (by omega) (by show (1 : Int) ≤ _; omega) (by show _ ≤ (255 : Int); omega) hv hE hq (by have := hf qs.length (Nat.le_refl _); rwa [List.take_length] at this)
    (fun W b g cap hE' hP hlt hgl ha hn hne => fn_sum qs b g cap W h0 (by omega) hq hf ha hn hne hgl hE' hP)

theorem m_PRODUCT (qs : List Rat) (ab ao C : Nat) (w : World) (h0 : 0 < qs.length) (h9 : qs.length ≤ 255) (hq : ∀ q ∈ qs, fits q = true) (hf : ∀ k, k ≤ qs.length → fits (prodL (qs.take k)) = true) (hv : ValsAt w ab ao (numVals qs)) (hE : Env w) :
    Calls Tryz.prog 5 #[.string { data := #[80, 82, 79, 68, 85, 67, 84] }, .slice (some ⟨ab, ao, none⟩) qs.length C] w fun e w' => e = .returned (numVal (prodL qs)) ∧ Below w.heap.size w w' :=
  math_a_val 18 ⟨{ data := #[80, 82, 79, 68, 85, 67, 84] }, 1, 255, { data := #[97] }, true, 154⟩ (by decide) rfl rfl (fr_of 18 (by decide) (by kernel_rfl)) rfl (enters_of Tryz.func154 (by kernel_rfl) rfl) qs ab ao C (prodL qs) w h0 (by omega) (by show (1 : Int) ≤ _; omega) (by show _ ≤ (255 : Int); omega) hv hE hq (by have := hf qs.length (Nat.le_refl _); rwa [List.take_length] at this)
    (fun W b g cap hE' hP hlt hgl ha hn hne => fn_product qs b g cap W h0 (by omega) hq hf ha hn hne hgl hE' hP)

theorem m_MOD (p q : Rat) (ab ao C : Nat) (w : World) (hp : fits p = true) (hq : fits q = true) (h0 : q ≠ 0) (h1 : fits (p / q) = true) (h2 : fits (((p / q).floor : Int) : Rat) = true) (h3 : fits (q * (((p / q).floor : Int) : Rat)) = true) (h4 : fits (p - q * (((p / q).floor : Int) : Rat)) = true) (hv : ValsAt w ab ao (numVals [p, q])) (hE : Env w) :
    Calls Tryz.prog 5 #[.string { data := #[77, 79, 68] }, .slice (some ⟨ab, ao, none⟩) 2 C] w fun e w' => e = .returned (numVal (p - q * (((p / q).floor : Int) : Rat))) ∧ Below w.heap.size w w' :=
  math_s_val 12 ⟨{ data := #[77, 79, 68] }, 2, 2, { data := #[115] }, true, 82⟩ (by decide) rfl rfl (fr_of 12 (by decide) (by kernel_rfl)) rfl (enters_of Tryz.func82 (by kernel_rfl) rfl) [p, q] ab ao C (p - q * (((p / q).floor : Int) : Rat)) w (show 0 < 2 from by decide) (show 2 ≤ 300 from by decide) (show (2 : Int) ≤ 2 from by decide) (show (2 : Int) ≤ 2 from by decide) hv hE (by intro x hx; simp only [List.mem_cons, List.not_mem_nil, or_false] at hx; rcases hx with rfl | rfl; exact hp; exact hq) h4
    (fun W b g cap hE' hP hlt hgl ha hn hne => fn_mod p q b g 2 cap W hp hq h0 h1 h2 h3 h4 ha (by decide) (by decide) hne (hn 0 (show 0 < 2 from by decide)) (hn 1 (show 1 < 2 from by decide)) hE' hP)

theorem m_QUOTIENT (p q : Rat) (ab ao C : Nat) (w : World) (hp : fits p = true) (hq : fits q = true) (h0 : q ≠ 0) (h1 : fits (p / q) = true) (h2 : fits (((absR (p / q)).floor : Int) : Rat) = true) (hv : ValsAt w ab ao (numVals [p, q])) (hE : Env w) :
    Calls Tryz.prog 5 #[.string { data := #[81, 85, 79, 84, 73, 69, 78, 84] }, .slice (some ⟨ab, ao, none⟩) 2 C] w fun e w' => e = .returned (numVal (towardR (p / q))) ∧ Below w.heap.size w w' :=
  math_s_val 13 ⟨{ data := #[81, 85, 79, 84, 73, 69, 78, 84] }, 2, 2, { data := #[115] }, true, 83⟩ (by decide) rfl rfl (fr_of 13 (by decide) (by kernel_rfl)) rfl (enters_of Tryz.func83 (by kernel_rfl) rfl) [p, q] ab ao C (towardR (p / q)) w (show 0 < 2 from by decide) (show 2 ≤ 300 from by decide) (show (2 : Int) ≤ 2 from by decide) (show (2 : Int) ≤ 2 from by decide) hv hE (by intro x hx; simp only [List.mem_cons, List.not_mem_nil, or_false] at hx; rcases hx with rfl | rfl; exact hp; exact hq) (by unfold towardR; rw [fits_signedR]; exact h2)
    (fun W b g cap hE' hP hlt hgl ha hn hne => fn_quot p q b g 2 cap W hp hq h0 h1 h2 ha (by decide) (by decide) hne (hn 0 (show 0 < 2 from by decide)) (hn 1 (show 1 < 2 from by decide)) hE' hP)

theorem m_QUOTIENT0 (p : Rat) (ab ao C : Nat) (w : World) (hp : fits p = true) (hv : ValsAt w ab ao (numVals [p, 0])) (hE : Env w) :
    Calls Tryz.prog 5 #[.string { data := #[81, 85, 79, 84, 73, 69, 78, 84] }, .slice (some ⟨ab, ao, none⟩) 2 C] w fun e w' => e = .returned (faultVal 1) ∧ Below w.heap.size w w' :=
  math_s_stop 13 ⟨{ data := #[81, 85, 79, 84, 73, 69, 78, 84] }, 2, 2, { data := #[115] }, true, 83⟩ (by decide) rfl rfl (fr_of 13 (by decide) (by kernel_rfl)) rfl (enters_of Tryz.func83 (by kernel_rfl) rfl) [p, 0] ab ao C 1 w (show 0 < 2 from by decide) (show 2 ≤ 300 from by decide) (show (2 : Int) ≤ 2 from by decide) (show (2 : Int) ≤ 2 from by decide) hv hE (by intro x hx; simp only [List.mem_cons, List.not_mem_nil, or_false] at hx; rcases hx with rfl | rfl; exact hp; exact fits_zero) (by decide) (by decide)
    (fun W b g cap hE' hP hlt hgl ha hn hne => fn_quot_zero p b g 2 cap W hp ha (by decide) (by decide) hne (hn 0 (show 0 < 2 from by decide)) (hn 1 (show 1 < 2 from by decide)) hE' hP)
end Go.Proofs.YtnlaecjniellpaaGreatDoor.Num

/- the laws' own small functions: mod, whole, number, plus. Conditions: the tables lie as they are laid. -/
namespace Go.Proofs.YtnlaecjniellpaaGreatDoor.Num
open Go.RowKit Go.Lib

set_option maxHeartbeats 1000000 in
theorem kmod_any (n k : Int) (_ : -9223372036854775808 ≤ n) (_ : n ≤ 9223372036854775807) (hk0 : 0 < k) (hk1 : k ≤ 1000000000) (w : World) : Calls Tryz.prog 4 #[.int .i64 n, .int .i64 k] w fun e w' => e = .returned (.int .i64 (n % k)) ∧ w' = w := by
  have hm : (n.tmod k + k).tmod k = n % k := by
    rw [Int.tmod_eq_emod_of_nonneg (by have := Int.lt_tmod_of_pos n hk0; omega), Int.add_emod_right]
    have h : n.tmod k + k * n.tdiv k = n := Int.tmod_add_mul_tdiv n k
    conv => rhs; rw [← h]
    rw [Int.add_mul_emod_self_left]
  have h1 := Int.lt_tmod_of_pos n hk0
  have h2 := Int.tmod_lt_of_pos n hk0
  have hne : ¬ k = 0 := by omega
  go_enter Tryz.func4, Tryz.ntmps4
  go_wp2
  go_ret
  exact ⟨rfl, rfl⟩

set_option maxHeartbeats 4000000 in
set_option maxRecDepth 100000 in
theorem kwhole_any (n : Int) (w : World) (h0 : -9223372036854775808 ≤ n) (h1 : n ≤ 9223372036854775807) (hE : Env w) : Calls Tryz.prog 6 #[.int .i64 n] w fun e w' => e = .returned (numVal (n : Rat)) ∧ Below w.heap.size w w' := by
  have TW := Lib.hid (fun W g => whole_any n W h0 h1 g)
  rw [numVal_is] at TW ⊢
  have hb : Below w.heap.size w (w.alloc (.cells #[.int .i64 0, .string { data := #[] }, .string { data := #[] }, .string { data := #[] }, .bool false, .int .i64 0, .int .i64 0, .int .i64 0, .slice none 0 0] 27)) := (Below.refl _ _).alloc (Nat.le_refl _) _
  have HR := Lib.hid (heap_alloc_new w (.cells #[.int .i64 0, .string { data := #[] }, .string { data := #[] }, .string { data := #[] }, .bool false, .int .i64 0, .int .i64 0, .int .i64 0, .slice none 0 0] 27))
  have HL := Lib.hid hb
  have HE := Lib.hid (hE.below hb)
  clear hb hE h0 h1
  go_enter Tryz.func6, Tryz.ntmps6
  go_wp2_with fail
  refine (TW.out _ HE.out).mono ?_
  rintro e W1 ⟨rfl, hb⟩
  replace HR := Lib.hid (keep_block HR.out hb)
  replace HL := Lib.hid (HL.out.trans (hb.mono HL.out.size))
  clear hb
  obtain ⟨⟨r0, r1, r2, r3, r4, r5, r6, r7, r8⟩, g0, g1, g2, g3, g4, g5, g6, g7, g8⟩ := nine_at HR.out
  obtain ⟨nb, z0, z1, z2, z3, z4, z5, z6, z7, z8⟩ := nine_end (x0 := (.int .i64 1)) (x1 := (.string (numS ((n : Rat))))) (x2 := (.string (denS ((n : Rat))))) (x3 := (.string { data := #[] })) (x4 := (.bool false)) (x5 := (.int .i64 0)) (x6 := (.int .i64 0)) (x7 := (.int .i64 0)) (x8 := (.slice none 0 0)) HR.out HL.out (Nat.le_refl _)
  go_wp2
  refine bodyPost_ret (v := .agg #[.int .i64 1, .string (numS ((n : Rat))), .string (denS ((n : Rat))), .string { data := #[] }, .bool false, .int .i64 0, .int .i64 0, .int .i64 0, .slice none 0 0]) (by simp [results, Tryz.results6, go_sem, z0, z1, z2, z3, z4, z5, z6, z7, z8]) rfl ⟨rfl, nb⟩

/-- the number of hundredths that the laws draw -/
def hundredths (n : Int) : Rat := ((n % 2000001 - 1000000 : Int) : Rat) / ((100 : Int) : Rat)
theorem fits_ratOf (m : Bool) (a b : Nat) (hb : b ≠ 0) (h1 : a ≤ 1000000000000000000) (h2 : b ≤ 1000000000000000000) : fits (ratOf m a b) = true := by
  unfold fits
  have hu : up (ratOf m a b) ≤ 1000000000000000000 := by rw [ratOf_up m a hb]; exact Nat.le_trans (Nat.div_le_self _ _) h1
  have hd : (ratOf m a b).den ≤ 1000000000000000000 := by rw [ratOf_den m a hb]; exact Nat.le_trans (Nat.div_le_self _ _) h2
  rw [decide_eq_true (dec_small (k := 300) (by decide) hu), decide_eq_true (dec_small (k := 300) (by decide) hd)]; rfl
theorem fits_hundredths (n : Int) : fits (hundredths n) = true := by
  unfold hundredths
  rw [← ratio_of _ _ (by decide)]
  exact fits_ratOf _ _ _ (by decide) (by omega) (by decide)

end Go.Proofs.YtnlaecjniellpaaGreatDoor.Num

/- the laws' plus; value.Same at numbers. Conditions: nothing is too long; the tables lie as they are laid. -/
namespace Go.Proofs.YtnlaecjniellpaaGreatDoor.Num
open Go.RowKit Go.Lib

theorem vals_of_block {W : World} {b : Nat} {cs : Array Value} {T : TypeId} {fz : Nat × Nat} {vs : List Val} (h : W.heap[b]? = some (.cells cs T fz)) (hc : cs.toList = flat vs) : ValsAt W b 0 vs := by
  intro j u hj
  rw [addr_add, Nat.zero_add, Lib.cell_of_heap h j, ← Array.getElem?_toList, hc]
  exact hj

end Go.Proofs.YtnlaecjniellpaaGreatDoor.Num

/- value.Same at numbers. Conditions: none but that they are numbers. -/
namespace Go.Proofs.YtnlaecjniellpaaGreatDoor.Num
open Go.RowKit Go.Lib

theorem fracV_inj {p q : Rat} (h1 : numS p = numS q) (h2 : denS p = denS q) : p = q := by
  have e1 : numText p = numText q := by
    have := congrArg (fun b : ByteArray => b.data.toList) h1
    exact this
  have e2 : denText p = denText q := by
    have := congrArg (fun b : ByteArray => b.data.toList) h2
    exact this
  have hd : p.den = q.den := decDigits_inj e2
  have hn : neg p = neg q := by rw [← num_minus, ← num_minus, e1]
  have hu : up p = up q := by
    apply decDigits_inj
    rw [← num_rest, ← num_rest, e1]
  rw [← ratOf_self p, ← ratOf_self q, hn, hu, hd]

theorem same_of {p q : Rat} (h1 : (numS p).toList = (numS q).toList) (h2 : (denS p).toList = (denS q).toList) : p = q := by
  rw [Lib.toList_data, Lib.toList_data] at h1 h2
  exact fracV_inj (ByteArray.ext (Array.toList_inj.1 h1)) (ByteArray.ext (Array.toList_inj.1 h2))

set_option maxHeartbeats 1000000 in
theorem equalFunc_nil (F : Value) (w : World) (hF : ∃ f c d, F = .func f c d) : Calls Tryz.prog 13 #[.slice none 0 0, .slice none 0 0, F] w fun e w' => e = .returned (.bool true) ∧ w' = w := by
  obtain ⟨f, c, d, rfl⟩ := hF
  go_enter Tryz.func13, Tryz.ntmps13
  go_wp2
  refine wp_loop_once ?_
  go_wp2
  go_ret
  exact ⟨rfl, rfl⟩
theorem new_keep {W : World} {k : Nat} {o o' : Obj} (h : W.heap[k]? = some o) : (W.alloc o').heap[k]? = some o := keep_block h ((Below.refl _ _).alloc (Nat.le_refl _) _)
theorem both9 {W : World} {a b : Nat} {p q : Rat} {T U : TypeId} (h : W.heap[a]? = some (.cells #[.int .i64 1, .string (numS p), .string (denS p), .string { data := #[] }, .bool false, .int .i64 0, .int .i64 0, .int .i64 0, .slice none 0 0] T (0, 0))) (k : W.heap[b]? = some (.cells #[.int .i64 1, .string (numS q), .string (denS q), .string { data := #[] }, .bool false, .int .i64 0, .int .i64 0, .int .i64 0, .slice none 0 0] U (0, 0))) : (W.cell? ⟨a, 0, none⟩ = some (.int .i64 1) ∧ W.cell? ⟨a, 1, none⟩ = some (.string (numS p)) ∧ W.cell? ⟨a, 2, none⟩ = some (.string (denS p)) ∧ W.cell? ⟨a, 3, none⟩ = some (.string { data := #[] }) ∧ W.cell? ⟨a, 4, none⟩ = some (.bool false) ∧ W.cell? ⟨a, 5, none⟩ = some (.int .i64 0) ∧ W.cell? ⟨a, 6, none⟩ = some (.int .i64 0) ∧ W.cell? ⟨a, 7, none⟩ = some (.int .i64 0) ∧ W.cell? ⟨a, 8, none⟩ = some (.slice none 0 0)) ∧ W.cell? ⟨b, 0, none⟩ = some (.int .i64 1) ∧ W.cell? ⟨b, 1, none⟩ = some (.string (numS q)) ∧ W.cell? ⟨b, 2, none⟩ = some (.string (denS q)) ∧ W.cell? ⟨b, 3, none⟩ = some (.string { data := #[] }) ∧ W.cell? ⟨b, 4, none⟩ = some (.bool false) ∧ W.cell? ⟨b, 5, none⟩ = some (.int .i64 0) ∧ W.cell? ⟨b, 6, none⟩ = some (.int .i64 0) ∧ W.cell? ⟨b, 7, none⟩ = some (.int .i64 0) ∧ W.cell? ⟨b, 8, none⟩ = some (.slice none 0 0) :=
  ⟨(nine_at h).1, (nine_at k).1⟩

set_option maxHeartbeats 4000000 in
set_option maxRecDepth 100000 in
theorem same_num (p q : Rat) (w : World) : Calls Tryz.prog 8 #[numVal p, numVal q] w fun e w' => e = .returned (.bool (decide (p = q))) ∧ Below w.heap.size w w' := by
  rw [numVal_is p, numVal_is q]
  obtain ⟨hx, hy, hb⟩ := two_new w (.cells #[.int .i64 1, .string (numS p), .string (denS p), .string { data := #[] }, .bool false, .int .i64 0, .int .i64 0, .int .i64 0, .slice none 0 0] 27) (.cells #[.int .i64 1, .string (numS q), .string (denS q), .string { data := #[] }, .bool false, .int .i64 0, .int .i64 0, .int .i64 0, .slice none 0 0] 27)
  obtain ⟨W0, hW0⟩ : ∃ W0, (w.alloc (.cells #[.int .i64 1, .string (numS p), .string (denS p), .string { data := #[] }, .bool false, .int .i64 0, .int .i64 0, .int .i64 0, .slice none 0 0] 27)).alloc (.cells #[.int .i64 1, .string (numS q), .string (denS q), .string { data := #[] }, .bool false, .int .i64 0, .int .i64 0, .int .i64 0, .slice none 0 0] 27) = W0 := ⟨_, rfl⟩
  rw [hW0] at hx hy hb
  have HX := Lib.hid hx
  have HY := Lib.hid hy
  have HL := Lib.hid hb.drew
  have HL0 := Lib.hid hb
  have HW := Lib.hid hW0
  have NX := Lib.hid (And.intro (heap_lt hx) (heap_lt hy))
  clear hx hy hb hW0
  go_enter Tryz.func8, Tryz.ntmps8
  go_wp2_with fail
  rw [HW.out]
  go_region_held3 (fun W => (W.cell? ⟨w.heap.size, 0, none⟩ = some (.int .i64 1) ∧ W.cell? ⟨w.heap.size, 1, none⟩ = some (.string (numS p)) ∧ W.cell? ⟨w.heap.size, 2, none⟩ = some (.string (denS p)) ∧ W.cell? ⟨w.heap.size, 3, none⟩ = some (.string { data := #[] }) ∧ W.cell? ⟨w.heap.size, 4, none⟩ = some (.bool false) ∧ W.cell? ⟨w.heap.size, 5, none⟩ = some (.int .i64 0) ∧ W.cell? ⟨w.heap.size, 6, none⟩ = some (.int .i64 0) ∧ W.cell? ⟨w.heap.size, 7, none⟩ = some (.int .i64 0) ∧ W.cell? ⟨w.heap.size, 8, none⟩ = some (.slice none 0 0)) ∧ W.cell? ⟨w.heap.size + 1, 0, none⟩ = some (.int .i64 1) ∧ W.cell? ⟨w.heap.size + 1, 1, none⟩ = some (.string (numS q)) ∧ W.cell? ⟨w.heap.size + 1, 2, none⟩ = some (.string (denS q)) ∧ W.cell? ⟨w.heap.size + 1, 3, none⟩ = some (.string { data := #[] }) ∧ W.cell? ⟨w.heap.size + 1, 4, none⟩ = some (.bool false) ∧ W.cell? ⟨w.heap.size + 1, 5, none⟩ = some (.int .i64 0) ∧ W.cell? ⟨w.heap.size + 1, 6, none⟩ = some (.int .i64 0) ∧ W.cell? ⟨w.heap.size + 1, 7, none⟩ = some (.int .i64 0) ∧ W.cell? ⟨w.heap.size + 1, 8, none⟩ = some (.slice none 0 0))
    (first | (with_reducible exact both9 (drew_block HX.out) (drew_block HY.out)) | (with_reducible exact both9 (drew_block (new_keep HX.out)) (drew_block (new_keep HY.out))) | (with_reducible exact both9 (drew_block (new_keep (new_keep HX.out))) (drew_block (new_keep (new_keep HY.out)))) | fail)
    ((first | fail))
  all_goals
    obtain ⟨lx, ly⟩ := NX.out
    have x8 := (nine_at HX.out).1.2.2.2.2.2.2.2.2
    have y8 := (nine_at HY.out).1.2.2.2.2.2.2.2.2
    have HSZ := Lib.hid HL.out.size
    have HBL := Lib.hid (fun c1 c2 : Array Value => Below.drew (((HL0.out.alloc HL0.out.size (.cells c1 27))).alloc (by have := HL0.out.size; simp; omega) (.cells c2 27)))
    go_wp2_with fail
    all_goals first
      | (have h1 : (numS p).toList = (numS q).toList := by assumption
         have h2 : (denS p).toList = (denS q).toList := by assumption
         have he : p = q := same_of h1 h2
         have HEQ := Lib.hid he
         clear h1 h2 he
         refine (equalFunc_nil _ _ ⟨_, _, _, rfl⟩).mono ?_
         rintro e w2 ⟨rfl, rfl⟩
         go_wp2
         go_ret
         exact ⟨ret_bool (decide_eq_true HEQ.out).symm, HBL.out _ _⟩)
      | (have h2 : ¬ (denS p).toList = (denS q).toList := by assumption
         have HEQ := Lib.hid (show ¬ p = q from fun e => h2 (by rw [e]))
         clear h2
         go_ret
         exact ⟨ret_bool (decide_eq_false HEQ.out).symm, HBL.out _ _⟩)
      | (have h2 : ¬ (numS p).toList = (numS q).toList := by assumption
         have HEQ := Lib.hid (show ¬ p = q from fun e => h2 (by rw [e]))
         clear h2
         go_ret
         exact ⟨ret_bool (decide_eq_false HEQ.out).symm, HBL.out _ _⟩)
end Go.Proofs.YtnlaecjniellpaaGreatDoor.Num

/- Fractions with bounds on their terms; when they fit. Plain: no program. -/
namespace Go.Proofs.YtnlaecjniellpaaGreatDoor.Num

theorem nat_ne {b : Nat} (h : b ≠ 0) : ((b : Nat) : Rat) ≠ 0 := by
  intro e
  have : (b : Rat) = ((0 : Nat) : Rat) := e
  exact h (by exact_mod_cast this)
theorem int_ne {b : Int} (h : b ≠ 0) : ((b : Int) : Rat) ≠ 0 := by
  intro e
  have : (b : Rat) = ((0 : Int) : Rat) := e
  exact h (by exact_mod_cast this)
/-- a fraction with numerator at most A and denominator at most B, not always in lowest terms -/
def Sm (q : Rat) (A B : Nat) : Prop := ∃ (a : Int) (b : Nat), b ≠ 0 ∧ q = (a : Rat) / ((b : Nat) : Rat) ∧ a.natAbs ≤ A ∧ b ≤ B
theorem Sm.mono {q : Rat} {A B C D : Nat} (h : Sm q A B) (h1 : A ≤ C) (h2 : B ≤ D) : Sm q C D := by
  obtain ⟨a, b, hb, e, x, y⟩ := h
  exact ⟨a, b, hb, e, by omega, by omega⟩
theorem Sm.int (n : Int) {A : Nat} (h : n.natAbs ≤ A) : Sm (n : Rat) A 1 := ⟨n, 1, by decide, by grind, h, by decide⟩
theorem Sm.neg {q : Rat} {A B : Nat} (h : Sm q A B) : Sm (-q) A B := by
  obtain ⟨a, b, hb, rfl, x, y⟩ := h
  exact ⟨-a, b, hb, by rw [Rat.intCast_neg]; grind, by omega, y⟩
theorem Sm.mul {p q : Rat} {A B C D : Nat} (h : Sm p A B) (k : Sm q C D) : Sm (p * q) (A * C) (B * D) := by
  obtain ⟨a, b, hb, rfl, x, y⟩ := h
  obtain ⟨c, d, hd, rfl, z, u⟩ := k
  refine ⟨a * c, b * d, Nat.mul_ne_zero hb hd, ?_, ?_, Nat.mul_le_mul y u⟩
  · have := nat_ne hb; have := nat_ne hd
    rw [Rat.intCast_mul, Rat.natCast_mul]; grind
  · rw [Int.natAbs_mul]; exact Nat.mul_le_mul x z
theorem Sm.add {p q : Rat} {A B C D : Nat} (h : Sm p A B) (k : Sm q C D) : Sm (p + q) (A * D + C * B) (B * D) := by
  obtain ⟨a, b, hb, rfl, x, y⟩ := h
  obtain ⟨c, d, hd, rfl, z, u⟩ := k
  refine ⟨a * (d : Int) + c * (b : Int), b * d, Nat.mul_ne_zero hb hd, ?_, ?_, Nat.mul_le_mul y u⟩
  · have := nat_ne hb; have := nat_ne hd
    rw [Rat.intCast_add, Rat.intCast_mul, Rat.intCast_mul, Rat.natCast_mul, Rat.intCast_natCast, Rat.intCast_natCast]; grind
  · refine Nat.le_trans (Int.natAbs_add_le _ _) ?_
    rw [Int.natAbs_mul, Int.natAbs_mul]
    exact Nat.add_le_add (Nat.mul_le_mul x (by simpa using u)) (Nat.mul_le_mul z (by simpa using y))
theorem Sm.sub {p q : Rat} {A B C D : Nat} (h : Sm p A B) (k : Sm q C D) : Sm (p - q) (A * D + C * B) (B * D) := by
  rw [Rat.sub_eq_add_neg]; exact h.add k.neg
theorem Sm.inv {q : Rat} {A B : Nat} (h : Sm q A B) (h0 : q ≠ 0) : Sm q⁻¹ B A := by
  obtain ⟨a, b, hb, rfl, x, y⟩ := h
  have ha : a ≠ 0 := by rintro rfl; exact h0 (by grind)
  have h1 := nat_ne hb
  have h2 := int_ne ha
  by_cases hs : 0 < a
  · refine ⟨(b : Int), a.natAbs, by omega, ?_, by simpa using y, x⟩
    have e : ((a.natAbs : Nat) : Rat) = (a : Rat) := by rw [← Rat.intCast_natCast, Int.natAbs_of_nonneg (by omega)]
    rw [e, Rat.intCast_natCast]; grind
  · refine ⟨-(b : Int), a.natAbs, by omega, ?_, by simpa using y, x⟩
    have e : ((a.natAbs : Nat) : Rat) = -(a : Rat) := by
      rw [← Rat.intCast_natCast, show ((a.natAbs : Nat) : Int) = -a by omega, Rat.intCast_neg]
    rw [e, Rat.intCast_neg, Rat.intCast_natCast]; grind
theorem Sm.div {p q : Rat} {A B C D : Nat} (h : Sm p A B) (k : Sm q C D) (h0 : q ≠ 0) : Sm (p / q) (A * D) (B * C) := by
  rw [Rat.div_def]; exact h.mul (k.inv h0)
theorem floor_ratio (a : Int) (b : Nat) (hb : b ≠ 0) : ((a : Rat) / ((b : Nat) : Rat)).floor = a / (b : Int) := by
  have h1 := nat_ne hb
  have hp : (0 : Rat) < ((b : Nat) : Rat) := by
    have : ((0 : Nat) : Rat) < ((b : Nat) : Rat) := by exact_mod_cast (show 0 < b by omega)
    exact this
  have hb' : (0 : Int) < b := by omega
  apply Int.le_antisymm
  · rw [Int.le_ediv_iff_mul_le hb']
    have h := Rat.floor_le ((a : Rat) / ((b : Nat) : Rat))
    have h2 := Rat.mul_le_mul_of_nonneg_right h (Rat.le_of_lt hp)
    rw [Rat.div_mul_cancel h1] at h2
    exact_mod_cast h2
  · rw [Rat.le_floor_iff]
    have h3 : (a / (b : Int)) * (b : Int) ≤ a := Int.ediv_mul_le a (by omega)
    have h4 : ((a / (b : Int) : Int) : Rat) * ((b : Nat) : Rat) ≤ (a : Rat) := by exact_mod_cast h3
    have h5 := Rat.mul_le_mul_of_nonneg_right h4 (Rat.le_of_lt (Rat.inv_pos.2 hp))
    have h6 : ((a / (b : Int) : Int) : Rat) * ((b : Nat) : Rat) * (((b : Nat) : Rat))⁻¹ = ((a / (b : Int) : Int) : Rat) := by grind
    rw [h6] at h5
    rw [Rat.div_def]; exact h5
theorem Sm.floor {q : Rat} {A B : Nat} (h : Sm q A B) : Sm ((q.floor : Int) : Rat) A 1 := by
  obtain ⟨a, b, hb, rfl, x, y⟩ := h
  rw [floor_ratio a b hb]
  exact Sm.int _ (Nat.le_trans (Int.natAbs_ediv_le_natAbs _ _) x)
theorem Sm.abs {q : Rat} {A B : Nat} (h : Sm q A B) : Sm (if q < 0 then -q else q) A B := by
  split
  · exact h.neg
  · exact h
theorem Sm.fits {q : Rat} {A B : Nat} (h : Sm q A B) (h1 : A < 10 ^ 300) (h2 : B < 10 ^ 300) : fits q = true := by
  obtain ⟨a, b, hb, rfl, x, y⟩ := h
  have e := ratio_of a (b : Int) (by omega)
  rw [Rat.intCast_natCast] at e
  rw [← e]
  unfold Num.fits
  have hu : up (ratOf (Num.neg (a : Rat) != Num.neg (((b : Nat) : Int) : Rat)) a.natAbs ((b : Nat) : Int).natAbs) ≤ A := by
    rw [ratOf_up _ _ (by omega)]; exact Nat.le_trans (Nat.div_le_self _ _) x
  have hd : (ratOf (Num.neg (a : Rat) != Num.neg (((b : Nat) : Int) : Rat)) a.natAbs ((b : Nat) : Int).natAbs).den ≤ B := by
    rw [ratOf_den _ _ (by omega)]; exact Nat.le_trans (Nat.div_le_self _ _) (by simpa using y)
  rw [Rat.intCast_natCast] at hu hd
  rw [decide_eq_true (dec_len_of (by decide) (Nat.lt_of_le_of_lt hu h1)), decide_eq_true (dec_len_of (by decide) (Nat.lt_of_le_of_lt hd h2))]; rfl
theorem Sm.ratio (a b : Int) (hb : b ≠ 0) {A B : Nat} (h1 : a.natAbs ≤ A) (h2 : b.natAbs ≤ B) : Sm ((a : Rat) / (b : Rat)) (A * 1) (1 * B) :=
  (Sm.int a h1).div (Sm.int b h2) (int_ne hb)
theorem Sm.hundredths (n : Int) : Sm (hundredths n) 1000000 100 := by
  unfold Num.hundredths
  exact (Sm.ratio _ 100 (by decide) (A := 1000000) (B := 100) (by omega) (by decide)).mono (by decide) (by decide)
end Go.Proofs.YtnlaecjniellpaaGreatDoor.Num
