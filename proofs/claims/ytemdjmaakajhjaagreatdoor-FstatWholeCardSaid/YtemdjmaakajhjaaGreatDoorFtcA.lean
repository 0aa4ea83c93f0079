/- Numbers as texts of digits, fractions, values and the functions of fmath: contracts of the program's functions, joined from smaller texts. Conditions stand at each theorem. -/
import Derived.Test.YtemdjmaakajhjaaGreatDoorFtbA
import Derived.Test.YtemdjmaakajhjaaGreatDoorNumH
import Derived.Below
import Derived.Lib.MinMax
import Derived.Deep.RegionLaw
import Derived.Test.YtemdjmaakajhjaaGreatDoorFtaB
import Derived.Test.YtemdjmaakajhjaaGreatDoorFtaA

/- the laws' own array: at most 12 numbers as one value. Conditions: the tables lie as they are laid. -/
namespace Go.Proofs.YtemdjmaakajhjaaGreatDoor.Num
open Go.RowKit Go.Lib

/-- append to a row of the call's own, as one step of a region that draws -/
theorem step_append_own {P : Program} {ops : Array Oper} {o : Oper} {a : Act} {w : World} {K : Act → World → Prop} {Q : Exit → Act → World → Prop} {E : Prop} (hgd : o.guard = none) (s x : Operand) (t : TypeId)
    (ho : o.op = .call { callee := .builtin .append, args := #[s, x], argTypes := #[t, t] })
    (base : Nat) (e : TypeId) (i : TypeInfo) (z : Value) (size bytes : Nat) (ht : P.underlying t = some (.slice e)) (hi : P.info? e = some i) (hz : i.zero = some z)
    (hsize : i.size = size) (hby : i.bytes = bytes) (hzs : z.cells.size = size) (hsz : 0 < size)
    (v : Value) (n : Nat) (xs : List Value) (hs : a.eval s = v) (hown : w.ownsRow base e size v n xs)
    (ad : Addr) (m c : Nat) (news : List Value) (hx : a.eval x = .slice (some ad) m c) (hl : news.length = m * size) (hnews : ∀ j u, news[j]? = some u → w.cell? (ad.add j) = some u) (h1 : ∀ u ∈ news, u.oneCell' = true)
    (h63 : n + m ≤ maxLen) (hbytes : (n + m) * bytes ≤ 140737488355328) (hbase : base ≤ w.heap.size)
    (hK : ∀ v' w', w'.ownsRow base e size v' (n + m) (xs ++ news) → w.grownBy w' v.ownBlock → K (a.put o.dst v') w') :
    if Region.wanted o (yielded ops a.tmps) = true then Oper.wp P o a w K Q else E := by
  have hw : Region.wanted o (yielded ops a.tmps) = true := by simp [Region.wanted, hgd]
  rw [if_pos hw]
  exact wp_append_own w s x t ho base e i z size bytes ht hi hz hsize hby hzs hsz v n xs hs hown ad m c news hx hl hnews h1 h63 hbytes hbase fun v' w' h2 h3 _ => hK v' w' h2 h3

/-- whole numbers that came in -/
def CameInts (W : World) (A : Addr) (ns : List Int) : Prop := ∀ i (h : i < ns.length), W.cell? (A.add i) = some (.int .i64 ns[i])
theorem CameInts.below {W W' : World} {A : Addr} {ns : List Int} (h : CameInts W A ns) (hb : Below W.heap.size W W') : CameInts W' A ns := fun i hi => cell_below (h i hi) hb

theorem numVals_snoc (qs : List Rat) (q : Rat) : flat (numVals (qs ++ [q])) = flat (numVals qs) ++ (numVal' q).cells := by simp [numVals, flat]

/-- what stays while the values are collected: the result's block, the value's block, the row -/
structure ArrI (w : World) (c : Nat) (bv v : Value) (done : List Rat) (W : World) : Prop where
  res : W.heap[w.heap.size]? = some (.cells #[.int .i64 0, .string { data := #[] }, .string { data := #[] }, .string { data := #[] }, .bool false, .int .i64 0, .int .i64 0, .int .i64 0, .slice none 0 0] 27 (0, 0))
  box : W.heap[w.heap.size + 1]? = some (.cells #[.int .i64 5, .string { data := #[] }, .string { data := #[] }, .string { data := #[] }, .bool false, .int .i64 0, .int .i64 1, .int .i64 (c : Int), bv] 27 (0, 0))
  low : Below w.heap.size w W
  own : W.ownsRow (w.heap.size + 2) 27 9 v done.length (flat (numVals done))
theorem ArrI.step {w W W' : World} {c : Nat} {bv v : Value} {done : List Rat} (h : ArrI w c bv v done W) (hb : Below W.heap.size W W') : ArrI w c bv v done W' :=
  ⟨keep_block h.res hb, keep_block h.box hb, h.low.trans (hb.mono h.low.size), h.own.kept (only_of_below hb none) (by cases v.ownBlock <;> simp)⟩
theorem ArrI.size {w W : World} {c : Nat} {bv v : Value} {done : List Rat} (h : ArrI w c bv v done W) : w.heap.size + 2 ≤ W.heap.size := heap_lt h.box
theorem ArrI.push {w W W' : World} {c : Nat} {bv v v' : Value} {done : List Rat} {q : Rat} (h : ArrI w c bv v done W) (ho : W'.ownsRow (w.heap.size + 2) 27 9 v' (done.length + 1) (flat (numVals done) ++ (numVal' q).cells)) (hg : W.grownBy W' v.ownBlock) : ArrI w c bv v' (done ++ [q]) W' := by
  have hge : ∀ r, v.ownBlock = some r → w.heap.size + 2 ≤ r := owned_lt h.own
  have hother : ∀ k, k < w.heap.size + 2 → W'.heap[k]? = W.heap[k]? := fun k hk => hg.block k (Nat.lt_of_lt_of_le hk h.size) (fun e => by have := hge k e.symm; omega)
  exact ⟨(hother _ (by omega)).trans h.res, (hother _ (by omega)).trans h.box, h.low.grown hg h.low.size (fun r hr => by have := hge r hr; omega), by rw [numVals_snoc, List.length_append]; exact ho⟩
theorem ArrI.store {w W : World} {c : Nat} {bv v : Value} {done : List Rat} (h : ArrI w c bv v done W) : ArrI w c v v done (W.setCell ⟨w.heap.size + 1, 8, none⟩ v) := by
  refine ⟨(Below.heap_setCell _ ⟨w.heap.size + 1, 8, none⟩ v w.heap.size (by simp only []; omega)).trans h.res, ?_, h.low.setCell (p := ⟨w.heap.size + 1, 8, none⟩) (by simp only []; omega) _, ownsRow_setCell_below h.own (a := ⟨w.heap.size + 1, 8, none⟩) (by simp only []; omega) v⟩
  have := heap_setCell_at h.box 8 v
  rw [this]; rfl

set_option maxHeartbeats 8000000 in
set_option maxRecDepth 100000 in
theorem karr_some (A : Addr) (ns : List Int) (L C : Nat) (w : World) (hL : ns.length = L) (h0 : 0 < L) (hm : L ≤ 9223372036854775807) (hLC : L ≤ C) (hn : ∀ n ∈ ns, -9223372036854775808 ≤ n ∧ n ≤ 9223372036854775807) (hc : CameInts w A ns) (hE : Env w) :
    Calls Tryz.prog 6 #[.slice (some A) L C] w fun e w' => ∃ v s, e = .returned v.agg ∧ PArg w' v 1 s ((ns.take 12).map hundredths) ∧ Below w.heap.size w w' := by
  obtain ⟨c, hcv⟩ : ∃ c, (ns.take 12).length = c := ⟨_, rfl⟩
  have hc12 : c ≤ 12 := by rw [← hcv]; simp; omega
  have hc0 : 0 < c := by rw [← hcv]; simp; omega
  have hcL : c ≤ L := by rw [← hcv]; simp; omega
  have hmin : min (L : Int) 12 = (c : Int) := by rw [← hcv]; simp; omega
  have hcz : ((c : Int) == 0) = false := by simp; omega
  have HQ := Lib.hid (show ∀ (k : Nat) (hk : k < c), ∃ (h : k < ns.length), (((ns.take 12).map hundredths).take (k + 1) = ((ns.take 12).map hundredths).take k ++ [hundredths ns[k]]) ∧ (((ns.take 12).map hundredths).take k).length = k by
    intro k hk
    have hk' : k < ns.length := by omega
    have hk2 : k < ((ns.take 12).map hundredths).length := by rw [List.length_map, hcv]; exact hk
    refine ⟨hk', ?_, by rw [List.length_take]; omega⟩
    rw [List.take_succ_eq_append_getElem hk2]
    simp)
  have HQL := Lib.hid (show ((ns.take 12).map hundredths).length = c by rw [List.length_map, hcv])
  obtain ⟨qs, hqs⟩ : ∃ qs, (ns.take 12).map hundredths = qs := ⟨_, rfl⟩
  rw [hqs] at HQ HQL ⊢
  have HN := Lib.hid hn
  have HC := Lib.hid hc
  have HEW := Lib.hid hE
  have hb2 : Below w.heap.size w ((w.alloc (.cells #[.int .i64 0, .string { data := #[] }, .string { data := #[] }, .string { data := #[] }, .bool false, .int .i64 0, .int .i64 0, .int .i64 0, .slice none 0 0] 27)).alloc (.cells #[.int .i64 5, .string { data := #[] }, .string { data := #[] }, .string { data := #[] }, .bool false, .int .i64 0, .int .i64 1, .int .i64 (c : Int), .slice none 0 0] 27)) := ((Below.refl _ _).alloc (Nat.le_refl _) _).alloc (by simp) _
  have HI0 := Lib.hid (show ArrI w c (.slice none 0 0) (.slice none 0 0) [] _ from ⟨keep_block (heap_alloc_new w _) ((Below.refl _ _).alloc (Nat.le_refl _) _), by have := heap_alloc_new (w.alloc (.cells #[.int .i64 0, .string { data := #[] }, .string { data := #[] }, .string { data := #[] }, .bool false, .int .i64 0, .int .i64 0, .int .i64 0, .slice none 0 0] 27)) (.cells #[.int .i64 5, .string { data := #[] }, .string { data := #[] }, .string { data := #[] }, .bool false, .int .i64 0, .int .i64 1, .int .i64 (c : Int), .slice none 0 0] 27); rw [World.size_alloc] at this; exact this, hb2, World.ownsRow_nil _ _ _ _⟩)
  obtain ⟨i0, hi0', hz0, hz1, hz2⟩ := info_val
  clear hb2 hqs hcv hn hc hE
  go_enter Tryz.func6, Tryz.ntmps6
  go_wp2_with fail
  go_loopg [15] c (fun gh v15 wx => ∃ k v, v15 = .int .i64 ((k : Nat) : Int) ∧ k ≤ c ∧ gh = c - k ∧ ArrI w c v v (qs.take k) wx)
  case atStart => exact ⟨0, _, rfl, Nat.zero_le _, rfl, HI0.out⟩
  case round =>
    clear HI0
    obtain ⟨k, v, rfl, hk, rfl, hti⟩ := hrel
    have HTI := Lib.hid hti
    by_cases hlt : k < c
    · have hd : decide ((k : Int) < (c : Int)) = true := decide_eq_true (by omega)
      have hd2 : decide (k < c) = true := decide_eq_true hlt
      obtain ⟨hkn, htk, hdl⟩ := HQ.out k hlt
      have hcell := cell_below (HC.out k hkn) HTI.out.low
      obtain ⟨hb1, hb2⟩ := HN.out _ (List.getElem_mem hkn)
      obtain ⟨z, hz⟩ : ∃ z, ns[k] = z := ⟨_, rfl⟩
      rw [hz] at hcell hb1 hb2 htk
      have TN := Lib.hid (fun W g => knumber_any z hb1 hb2 W g)
      obtain ⟨q, hq⟩ : ∃ q, hundredths z = q := ⟨_, rfl⟩
      rw [hq] at TN htk
      rw [numVal_is q] at TN
      have HTK := Lib.hid htk
      have HDL := Lib.hid hdl
      have hown := hti.own
      rw [hdl] at hown
      obtain ⟨av, cv, hu⟩ := owns_form hown
      subst hu
      have hi0 : (0 : Int) ≤ (k : Int) := by omega
      have hi1 : (k : Int) < (c : Int) := by omega
      have hml : k + 1 ≤ maxLen := by unfold maxLen; omega
      clear hti hown htk hdl hb1 hb2 hz hq hkn
      go_upto_region 5 with fail
      clear hcell
      replace HTI := Lib.hid (HTI.out.step ((Below.refl wr.heap.size wr).drew))
      obtain ⟨⟨x0, x1, x2, x3, x4, x5, x6, x7, x8⟩, y0, y1, y2, y3, y4, y5, y6, y7, y8⟩ := nine_at HTI.out.box
      go_region_law (first
        | (have HT3 := Lib.hid (HT2.out.step ((Below.refl W2.heap.size W2).alloc (Nat.le_refl _) (.cells #[.int .i64 1, .string (numS q), .string (denS q), .string { data := #[] }, .bool false, .int .i64 0, .int .i64 0, .int .i64 0, .slice none 0 0] 27)));
           have HOW := Lib.hid (show (W2.alloc (.cells #[.int .i64 1, .string (numS q), .string (denS q), .string { data := #[] }, .bool false, .int .i64 0, .int .i64 0, .int .i64 0, .slice none 0 0] 27)).ownsRow (w.heap.size + 2) 27 9 (.slice av k cv) k (flat (numVals (qs.take k))) from by have := HT3.out.own; rw [HDL.out] at this; exact this);
           have HNW := Lib.hid (World.news_of_block (cs := #[.int .i64 1, .string (numS q), .string (denS q), .string { data := #[] }, .bool false, .int .i64 0, .int .i64 0, .int .i64 0, .slice none 0 0]) (t := 27) (fr := (0, 0)) (heap_alloc_new W2 (.cells #[.int .i64 1, .string (numS q), .string (denS q), .string { data := #[] }, .bool false, .int .i64 0, .int .i64 0, .int .i64 0, .slice none 0 0] 27)));
           refine step_append_own rfl _ _ 25 rfl (w.heap.size + 2) 27 i0 _ 9 112 Tryz.underlying25 hi0' hz0 hz1 hz2 rfl (by decide) (.slice av k cv) k (flat (numVals (qs.take k))) (by simp [Act.eval]) HOW.out ⟨W2.heap.size, 0, none⟩ 1 1 [.int .i64 1, .string (numS q), .string (denS q), .string { data := #[] }, .bool false, .int .i64 0, .int .i64 0, .int .i64 0, .slice none 0 0] (by simp [Act.eval]) rfl HNW.out (by simp [Value.oneCell']) hml (by omega) HT3.out.size ?_;
           intro v5 w5 hown5 hgrow5;
           obtain ⟨a5, c5, hu5⟩ := owns_form hown5;
           subst hu5;
           have HT5 := Lib.hid (HT3.out.push (by rw [HDL.out]; exact hown5) hgrow5);
           rw [← HTK.out] at HT5;
           clear hown5 hgrow5 HT3 HOW HNW;
           obtain ⟨⟨x0, x1, x2, x3, x4, x5, x6, x7, x8⟩, y0, y1, y2, y3, y4, y5, y6, y7, y8⟩ := nine_at HT5.out.box)
        | (go_simp; go_at_call 7; (with_reducible refine (TN.out _ (HEW.out.below HTI.out.low)).mono ?_); rintro e W2 ⟨rfl, hb⟩; have HT2 := Lib.hid (HTI.out.step hb); clear hb; obtain ⟨⟨x0, x1, x2, x3, x4, x5, x6, x7, x8⟩, y0, y1, y2, y3, y4, y5, y6, y7, y8⟩ := nine_at HT2.out.box; obtain ⟨⟨_, _, _, _, _, _, _, _, z8⟩, _⟩ := nine_at (HT2.out.step ((Below.refl W2.heap.size W2).alloc (Nat.le_refl _) (.cells #[.int .i64 1, .string (numS q), .string (denS q), .string { data := #[] }, .bool false, .int .i64 0, .int .i64 0, .int .i64 0, .slice none 0 0] 27))).box))
      all_goals
        have HT6 := Lib.hid HT5.out.store
        go_wp2
        go_roundg (c - (k + 1))
        case measure => omega
        case rel => exact ⟨k + 1, _, by go_num, by omega, by omega, HT6.out⟩
    · have hd : decide ((k : Int) < (c : Int)) = false := decide_eq_false (by omega)
      have hd2 : decide (k < c) = false := decide_eq_false hlt
      have hkL : k = c := by omega
      have hall : qs.take k = qs := by rw [hkL, ← HQL.out, List.take_length]
      rw [hall] at HTI
      have hown := HTI.out.own
      rw [HQL.out] at hown
      obtain ⟨g, cap, hv, hg, hcap, hva⟩ := vals_of_owns hown (by rw [numVals_len]; exact HQL.out) hc0
      subst hv
      clear hti hall hkL hlt hown
      obtain ⟨⟨x0, x1, x2, x3, x4, x5, x6, x7, x8⟩, y0, y1, y2, y3, y4, y5, y6, y7, y8⟩ := nine_at HTI.out.box
      obtain ⟨⟨r0, r1, r2, r3, r4, r5, r6, r7, r8⟩, g0, g1, g2, g3, g4, g5, g6, g7, g8⟩ := nine_at HTI.out.res
      have HVA := Lib.hid (vals_other hva (set9_other wr w.heap.size (.int .i64 5) (.string { data := #[] }) (.string { data := #[] }) (.string { data := #[] }) (.bool false) (.int .i64 0) (.int .i64 1) (.int .i64 (c : Int)) (.slice (some ⟨g, 0, none⟩) c cap) (show g ≠ w.heap.size by omega)))
      obtain ⟨nb, z0, z1, z2, z3, z4, z5, z6, z7, z8⟩ := nine_end (x0 := (.int .i64 5)) (x1 := (.string { data := #[] })) (x2 := (.string { data := #[] })) (x3 := (.string { data := #[] })) (x4 := (.bool false)) (x5 := (.int .i64 0)) (x6 := (.int .i64 1)) (x7 := (.int .i64 (c : Int))) (x8 := (.slice (some ⟨g, 0, none⟩) c cap)) HTI.out.res HTI.out.low (Nat.le_refl _)
      have NB := Lib.hid nb
      clear hva nb
      go_wp2
      refine bodyPost_ret (v := (arrVal' 1 (c : Int) g c cap).agg) (by simp [arrVal', Val.agg, results, Tryz.results6, go_sem, z0, z1, z2, z3, z4, z5, z6, z7, z8]) rfl ⟨_, (c : Int), rfl, .inr ⟨g, cap, by rw [HQL.out], by decide, by decide, by omega, by omega, by rw [HQL.out]; omega, by rw [HQL.out]; exact hc0, by rw [HQL.out]; omega, HVA.out⟩, NB.out⟩

set_option maxHeartbeats 8000000 in
set_option maxRecDepth 100000 in
/-- a row of no number -/
theorem karr_none (A : Option Addr) (C : Nat) (w : World) (hE : Env w) :
    Calls Tryz.prog 6 #[.slice A 0 C] w fun e w' => e = .returned (numVal (hundredths 0)) ∧ Below w.heap.size w w' := by
  have TN := Lib.hid (fun W g => knumber_any 0 (by decide) (by decide) W g)
  rw [numVal_is (hundredths 0)] at TN ⊢
  have hb2 : Below w.heap.size w ((w.alloc (.cells #[.int .i64 0, .string { data := #[] }, .string { data := #[] }, .string { data := #[] }, .bool false, .int .i64 0, .int .i64 0, .int .i64 0, .slice none 0 0] 27)).alloc (.cells #[.int .i64 5, .string { data := #[] }, .string { data := #[] }, .string { data := #[] }, .bool false, .int .i64 0, .int .i64 1, .int .i64 0, .slice none 0 0] 27)) := ((Below.refl _ _).alloc (Nat.le_refl _) _).alloc (by simp) _
  have HI0 := Lib.hid (show ArrI w 0 (.slice none 0 0) (.slice none 0 0) [] _ from ⟨keep_block (heap_alloc_new w _) ((Below.refl _ _).alloc (Nat.le_refl _) _), by have := heap_alloc_new (w.alloc (.cells #[.int .i64 0, .string { data := #[] }, .string { data := #[] }, .string { data := #[] }, .bool false, .int .i64 0, .int .i64 0, .int .i64 0, .slice none 0 0] 27)) (.cells #[.int .i64 5, .string { data := #[] }, .string { data := #[] }, .string { data := #[] }, .bool false, .int .i64 0, .int .i64 1, .int .i64 0, .slice none 0 0] 27); rw [World.size_alloc] at this; exact this, hb2, World.ownsRow_nil _ _ _ _⟩)
  have HEW := Lib.hid hE
  obtain ⟨⟨x0, x1, x2, x3, x4, x5, x6, x7, x8⟩, y0, y1, y2, y3, y4, y5, y6, y7, y8⟩ := nine_at HI0.out.box
  have hmin : min (0 : Int) 12 = 0 := by decide
  clear hb2 hE
  cases A
  all_goals
    go_enter Tryz.func6, Tryz.ntmps6
    go_wp2_with fail
    refine wp_loop_rounds 1 ?_
    rw [rounds_succ]
    go_wp2_with fail
    refine (TN.out _ (HEW.out.below HI0.out.low)).mono ?_
    rintro e w1 ⟨rfl, hb⟩
    have HTI := Lib.hid (HI0.out.step hb)
    clear hb
    obtain ⟨⟨r0, r1, r2, r3, r4, r5, r6, r7, r8⟩, g0, g1, g2, g3, g4, g5, g6, g7, g8⟩ := nine_at HTI.out.res
    obtain ⟨nb, z0, z1, z2, z3, z4, z5, z6, z7, z8⟩ := nine_end (x0 := (.int .i64 1)) (x1 := (.string (numS (hundredths 0)))) (x2 := (.string (denS (hundredths 0)))) (x3 := (.string { data := #[] })) (x4 := (.bool false)) (x5 := (.int .i64 0)) (x6 := (.int .i64 0)) (x7 := (.int .i64 0)) (x8 := (.slice none 0 0)) HTI.out.res HTI.out.low (Nat.le_refl _)
    have NB := Lib.hid nb
    clear nb
    go_wp2
    refine bodyPost_ret (v := .agg #[.int .i64 1, .string (numS (hundredths 0)), .string (denS (hundredths 0)), .string { data := #[] }, .bool false, .int .i64 0, .int .i64 0, .int .i64 0, .slice none 0 0]) (by simp [results, Tryz.results6, go_sem, z0, z1, z2, z3, z4, z5, z6, z7, z8]) rfl ⟨rfl, NB.out⟩
end Go.Proofs.YtemdjmaakajhjaaGreatDoor.Num

/- Sums of hundredths, of their squares, products and differences: what fits and what is equal. Plain: no program. -/
namespace Go.Proofs.YtemdjmaakajhjaaGreatDoor.Num

def over (c : Nat) (xs : List Int) : List Rat := xs.map fun (x : Int) => (x : Rat) / ((c : Nat) : Rat)
theorem foldl_add (qs : List Rat) : ∀ s : Rat, qs.foldl (· + ·) s = s + sumL qs := by
  unfold sumL
  induction qs with
  | nil => intro s; simp [Rat.add_zero]
  | cons q r ih => intro s; rw [List.foldl_cons, List.foldl_cons, ih, ih (0 + q)]; grind
theorem sumL_cons (q : Rat) (qs : List Rat) : sumL (q :: qs) = q + sumL qs := by
  show (q :: qs).foldl (· + ·) 0 = _
  rw [List.foldl_cons, foldl_add]; grind
theorem sumL_append (a b : List Rat) : sumL (a ++ b) = sumL a + sumL b := by
  show (a ++ b).foldl (· + ·) 0 = _
  rw [List.foldl_append, foldl_add]; rfl
theorem sumL_over (c : Nat) : ∀ xs : List Int, sumL (over c xs) = ((xs.sum : Int) : Rat) / ((c : Nat) : Rat)
  | [] => by show (0 : Rat) = _; simp; grind
  | x :: r => by
    show sumL ((x : Rat) / ((c : Nat) : Rat) :: over c r) = _
    rw [sumL_cons, sumL_over c r, List.sum_cons, Rat.intCast_add]; grind
theorem sum_bound (X : Nat) : ∀ xs : List Int, (∀ x ∈ xs, x.natAbs ≤ X) → xs.sum.natAbs ≤ xs.length * X
  | [], _ => by simp
  | x :: r, h => by
    have h1 := h x (by simp)
    have h2 := sum_bound X r (fun y hy => h y (by simp [hy]))
    rw [List.sum_cons, List.length_cons, Nat.add_mul, Nat.one_mul]
    omega
theorem over_take (c : Nat) (xs : List Int) (k : Nat) : (over c xs).take k = over c (xs.take k) := by simp [over]

theorem fits_over {c X : Nat} {xs : List Int} (hc : c ≠ 0) (hc9 : c ≤ 10000) (hl : xs.length ≤ 24) (hX : X ≤ 1000000000000) (h : ∀ x ∈ xs, x.natAbs ≤ X) (k : Nat) : fits (sumL ((over c xs).take k)) = true := by
  rw [over_take, sumL_over]
  refine Sm.fits (A := 24 * 1000000000000) (B := 10000) ⟨_, c, hc, rfl, ?_, hc9⟩ (by decide +kernel) (by decide +kernel)
  refine Nat.le_trans (sum_bound X _ (fun x hx => h x (List.mem_of_mem_take hx))) (Nat.mul_le_mul ?_ hX)
  rw [List.length_take]; omega

def sq (q : Rat) : Rat := q * q
/-- a row of numbers whose sums and whose squares' sums fit -/
structure Good (qs : List Rat) : Prop where
  pos : 0 < qs.length
  len : qs.length ≤ 24
  each : ∀ q ∈ qs, fits q = true
  sqs : ∀ q ∈ qs, fits (q * q) = true
  sum : ∀ k, fits (sumL (qs.take k)) = true
  sumsq : ∀ k, fits (sumL ((qs.map fun q => q * q).take k)) = true
theorem over_sq (c : Nat) (xs : List Int) : ((over c xs).map fun q => q * q) = over (c * c) (xs.map fun x => x * x) := by
  simp only [over, List.map_map]
  apply List.map_congr_left
  intro x _
  show (x : Rat) / ((c : Nat) : Rat) * ((x : Rat) / ((c : Nat) : Rat)) = ((x * x : Int) : Rat) / ((c * c : Nat) : Rat)
  rw [Rat.intCast_mul, Rat.natCast_mul]
  by_cases h : ((c : Nat) : Rat) = 0
  · rw [h]; grind
  · grind
theorem good_over {xs : List Int} (h0 : 0 < xs.length) (hl : xs.length ≤ 24) (h : ∀ x ∈ xs, x.natAbs ≤ 1000000) : Good (over 100 xs) := by
  have hs : ∀ x ∈ xs.map (fun x => x * x), x.natAbs ≤ 1000000000000 := by
    intro x hx
    obtain ⟨y, hy, rfl⟩ := List.mem_map.1 hx
    rw [Int.natAbs_mul]
    exact Nat.mul_le_mul (h y hy) (h y hy)
  have one : ∀ x ∈ xs, Sm ((x : Rat) / ((100 : Nat) : Rat)) 1000000 100 := fun x hx => ⟨x, 100, by decide, rfl, h x hx, Nat.le_refl _⟩
  refine ⟨by simpa [over] using h0, by simpa [over] using hl, ?_, ?_, ?_, ?_⟩
  · intro q hq
    obtain ⟨x, hx, rfl⟩ := List.mem_map.1 hq
    exact (one x hx).fits (by decide +kernel) (by decide +kernel)
  · intro q hq
    obtain ⟨x, hx, rfl⟩ := List.mem_map.1 hq
    exact ((one x hx).mul (one x hx)).fits (by decide +kernel) (by decide +kernel)
  · exact fits_over (by decide) (by decide) hl (by decide) h
  · rw [over_sq]
    exact fits_over (by decide) (by decide) (by simpa using hl) (by decide) hs
theorem over_append (c : Nat) (xs ys : List Int) : over c (xs ++ ys) = over c xs ++ over c ys := by simp [over]

/-- the numbers of one array of the laws -/
def arrInts (ns : List Int) : List Int := if ns = [] then [0 % 2000001 - 1000000] else (ns.take 12).map fun n => n % 2000001 - 1000000
theorem arrInts_pos (ns : List Int) : 0 < (arrInts ns).length := by
  unfold arrInts
  split
  · simp
  · rename_i h
    have : 0 < ns.length := List.length_pos_iff.2 h
    simp; omega
theorem arrInts_len (ns : List Int) : (arrInts ns).length ≤ 12 := by
  unfold arrInts
  split <;> simp; omega
theorem arrInts_le (ns : List Int) : ∀ x ∈ arrInts ns, x.natAbs ≤ 1000000 := by
  intro x hx
  unfold arrInts at hx
  split at hx
  · simp at hx; omega
  · obtain ⟨n, _, rfl⟩ := List.mem_map.1 hx
    omega
theorem hundredths_over (n : Int) : hundredths n = ((n % 2000001 - 1000000 : Int) : Rat) / ((100 : Nat) : Rat) := by
  unfold hundredths
  rfl
theorem arr_some {ns : List Int} (h : ns ≠ []) : (ns.take 12).map hundredths = over 100 (arrInts ns) := by
  unfold arrInts
  rw [if_neg h]
  simp only [over, List.map_map]
  apply List.map_congr_left
  intro n _
  exact hundredths_over n
theorem arr_none : [hundredths 0] = over 100 (arrInts []) := by
  show [hundredths 0] = [_]
  rw [hundredths_over]
theorem good_arr (ns : List Int) : Good (over 100 (arrInts ns)) := good_over (arrInts_pos ns) (by have := arrInts_len ns; omega) (arrInts_le ns)
theorem good_two (ns ms : List Int) : Good (over 100 (arrInts ns) ++ over 100 (arrInts ms)) := by
  rw [← over_append]
  refine good_over (by have := arrInts_pos ns; rw [List.length_append]; omega) (by have := arrInts_len ns; have := arrInts_len ms; rw [List.length_append]; omega) ?_
  intro x hx
  rcases List.mem_append.1 hx with h | h
  · exact arrInts_le ns x h
  · exact arrInts_le ms x h

end Go.Proofs.YtemdjmaakajhjaaGreatDoor.Num

/- Means and deviations of rows of numbers over one denominator. Plain: no program. -/
namespace Go.Proofs.YtemdjmaakajhjaaGreatDoor.Num

theorem fits_one {c X : Nat} {x : Int} (hc : c ≠ 0) (hc9 : c < 10 ^ 300) (hX : X < 10 ^ 300) (h : x.natAbs ≤ X) : fits ((x : Rat) / ((c : Nat) : Rat)) = true :=
  Sm.fits (A := X) (B := c) ⟨x, c, hc, rfl, h, Nat.le_refl _⟩ hX hc9
theorem fits_big {c X L : Nat} {xs : List Int} (hc : c ≠ 0) (hc9 : c < 10 ^ 300) (hl : xs.length ≤ L) (hX : L * X < 10 ^ 300) (h : ∀ x ∈ xs, x.natAbs ≤ X) (k : Nat) : fits (sumL ((over c xs).take k)) = true := by
  rw [over_take, sumL_over]
  refine fits_one hc hc9 hX (Nat.le_trans (sum_bound X _ (fun x hx => h x (List.mem_of_mem_take hx))) (Nat.mul_le_mul ?_ (Nat.le_refl _)))
  rw [List.length_take]; omega
theorem fits_each {c X : Nat} {xs : List Int} (hc : c ≠ 0) (hc9 : c < 10 ^ 300) (hX : X < 10 ^ 300) (h : ∀ x ∈ xs, x.natAbs ≤ X) : ∀ q ∈ over c xs, fits q = true := by
  intro q hq
  obtain ⟨x, hx, rfl⟩ := List.mem_map.1 hq
  exact fits_one hc hc9 hX (h x hx)
theorem over_len (c : Nat) (xs : List Int) : (over c xs).length = xs.length := by simp [over]

/-- how many there are, as a fraction -/
def lenR (l : List Rat) : Rat := (((l.length : Nat) : Int) : Rat)
def meanR (l : List Rat) : Rat := sumL l / lenR l
/-- the deviations from the mean -/
def devL (l : List Rat) : List Rat := l.map fun x => x - meanR l
def magR (d : Rat) : Rat := if d < 0 then -d else d
def sqR (l : List Rat) : Rat := sumL ((devL l).map fun d => d * d)
def magsR (l : List Rat) : Rat := sumL ((devL l).map magR)
theorem devL_len (l : List Rat) : (devL l).length = l.length := by simp [devL]
/-- n times each number, less the sum -/
def devI (xs : List Int) : List Int := xs.map fun x => (xs.length : Int) * x - xs.sum
theorem devI_len (xs : List Int) : (devI xs).length = xs.length := by simp [devI]

theorem lenR_ne {l : List Rat} (h : 0 < l.length) : lenR l ≠ 0 := int_ne (by omega)
theorem mean_over (c : Nat) (xs : List Int) (hc : c ≠ 0) (h0 : 0 < xs.length) : meanR (over c xs) = ((xs.sum : Int) : Rat) / ((c * xs.length : Nat) : Rat) := by
  have h1 := nat_ne hc
  have h2 := nat_ne (b := xs.length) (by omega)
  unfold meanR lenR
  rw [sumL_over, over_len, Rat.natCast_mul, Rat.intCast_natCast]
  grind
theorem dev_over (c : Nat) (xs : List Int) (hc : c ≠ 0) (h0 : 0 < xs.length) : devL (over c xs) = over (c * xs.length) (devI xs) := by
  have h1 := nat_ne hc
  have h2 := nat_ne (b := xs.length) (by omega)
  unfold devL devI
  rw [mean_over c xs hc h0]
  simp only [over, List.map_map]
  apply List.map_congr_left
  intro x _
  show (x : Rat) / ((c : Nat) : Rat) - ((xs.sum : Int) : Rat) / ((c * xs.length : Nat) : Rat) = (((xs.length : Int) * x - xs.sum : Int) : Rat) / ((c * xs.length : Nat) : Rat)
  rw [Rat.intCast_sub, Rat.intCast_mul, Rat.intCast_natCast, Rat.natCast_mul]
  grind
theorem sum_shift (d : Int) : ∀ xs : List Int, (xs.map (· + d)).sum = xs.sum + (xs.length : Int) * d
  | [] => by simp
  | x :: r => by
    rw [List.map_cons, List.sum_cons, List.sum_cons, sum_shift d r, List.length_cons, Int.natCast_add, Int.add_mul]
    omega
theorem devI_shift (xs : List Int) (d : Int) : devI (xs.map (· + d)) = devI xs := by
  unfold devI
  rw [sum_shift, List.length_map, List.map_map]
  apply List.map_congr_left
  intro x _
  show (xs.length : Int) * (x + d) - _ = _
  rw [Int.mul_add]; omega
theorem over_shift (c : Nat) (xs : List Int) (d : Int) (hc : c ≠ 0) : (over c xs).map (· + (d : Rat) / ((c : Nat) : Rat)) = over c (xs.map (· + d)) := by
  have h1 := nat_ne hc
  simp only [over, List.map_map]
  apply List.map_congr_left
  intro x _
  show (x : Rat) / ((c : Nat) : Rat) + (d : Rat) / ((c : Nat) : Rat) = ((x + d : Int) : Rat) / ((c : Nat) : Rat)
  rw [Rat.intCast_add]; grind
theorem mean_shift (c : Nat) (xs : List Int) (d : Int) (hc : c ≠ 0) (h0 : 0 < xs.length) : meanR (over c (xs.map (· + d))) = meanR (over c xs) + (d : Rat) / ((c : Nat) : Rat) := by
  have h1 := nat_ne hc
  have h2 := nat_ne (b := xs.length) (by omega)
  rw [mean_over c _ hc (by simpa using h0), mean_over c xs hc h0, sum_shift, List.length_map, Rat.intCast_add, Rat.intCast_mul, Rat.intCast_natCast, Rat.natCast_mul]
  grind
theorem dev_shift (c : Nat) (xs : List Int) (d : Int) (hc : c ≠ 0) (h0 : 0 < xs.length) : devL (over c (xs.map (· + d))) = devL (over c xs) := by
  rw [dev_over c _ hc (by simpa using h0), dev_over c xs hc h0, devI_shift, List.length_map]
theorem sq_shift (c : Nat) (xs : List Int) (d : Int) (hc : c ≠ 0) (h0 : 0 < xs.length) : sqR (over c (xs.map (· + d))) = sqR (over c xs) := by
  unfold sqR; rw [dev_shift c xs d hc h0]
theorem mags_shift (c : Nat) (xs : List Int) (d : Int) (hc : c ≠ 0) (h0 : 0 < xs.length) : magsR (over c (xs.map (· + d))) = magsR (over c xs) := by
  unfold magsR; rw [dev_shift c xs d hc h0]
theorem mags_over (c : Nat) (xs : List Int) (hc : c ≠ 0) : (over c xs).map magR = over c (xs.map fun x => (x.natAbs : Int)) := by
  have hp : (0 : Rat) < ((c : Nat) : Rat) := by
    have : ((0 : Nat) : Rat) < ((c : Nat) : Rat) := by exact_mod_cast (show 0 < c by omega)
    exact this
  simp only [over, List.map_map]
  apply List.map_congr_left
  intro x _
  show magR ((x : Rat) / ((c : Nat) : Rat)) = ((x.natAbs : Int) : Rat) / ((c : Nat) : Rat)
  unfold magR
  have hs : (x : Rat) / ((c : Nat) : Rat) < 0 ↔ x < 0 := by
    rw [Rat.div_def]
    constructor
    · intro h
      by_cases hx : 0 ≤ x
      · have h1 : (0 : Rat) ≤ (x : Rat) := Rat.intCast_nonneg.2 hx
        have h2 := Rat.mul_nonneg h1 (Rat.le_of_lt (Rat.inv_pos.2 hp))
        exact absurd h (Rat.not_lt.2 h2)
      · omega
    · intro h
      have h1 : (0 : Rat) < ((-x : Int) : Rat) := Rat.intCast_pos.2 (by omega)
      have h2 := Rat.mul_pos h1 (Rat.inv_pos.2 hp)
      rw [Rat.intCast_neg] at h2
      grind
  by_cases hx : x < 0
  · rw [if_pos (hs.2 hx), show ((x.natAbs : Nat) : Int) = -x by omega, Rat.intCast_neg]; grind
  · rw [if_neg (fun h => hx (hs.1 h)), show ((x.natAbs : Nat) : Int) = x by omega]

/-- numbers over c, at most X each, between 1 and 12 of them: all that is on the way fits -/
structure Row12 (c X : Nat) (xs : List Int) : Prop where
  c0 : c ≠ 0
  c9 : c ≤ 1000000
  pos : 0 < xs.length
  len : xs.length ≤ 30
  le : ∀ x ∈ xs, x.natAbs ≤ X
  X9 : X ≤ 1000000000000
section
variable {c X : Nat} {xs : List Int} (h : Row12 c X xs)
include h
theorem Row12.cn : c * xs.length ≠ 0 := Nat.mul_ne_zero h.c0 (by have := h.pos; omega)
theorem Row12.cn9 : c * xs.length ≤ 30000000 := by
  have := Nat.mul_le_mul h.c9 h.len; omega
theorem Row12.len_pos : 0 < (over c xs).length := by rw [over_len]; exact h.pos
theorem Row12.sumI : xs.sum.natAbs ≤ 30000000000000 := by
  have h1 := sum_bound X xs h.le
  have h2 := Nat.mul_le_mul h.len h.X9
  omega
theorem Row12.devs : ∀ x ∈ devI xs, x.natAbs ≤ 60000000000000 := by
  intro x hx
  obtain ⟨y, hy, rfl⟩ := List.mem_map.1 hx
  have h1 := h.sumI
  have h2 : ((xs.length : Int) * y).natAbs ≤ 30000000000000 := by
    rw [Int.natAbs_mul, Int.natAbs_natCast]
    have h3 := Nat.mul_le_mul h.len (Nat.le_trans (h.le y hy) h.X9)
    omega
  omega
theorem Row12.each : ∀ q ∈ over c xs, fits q = true :=
  fits_each h.c0 (Nat.lt_of_le_of_lt h.c9 (by decide +kernel)) (Nat.lt_of_le_of_lt h.X9 (by decide +kernel)) h.le
theorem Row12.sums (k : Nat) : fits (sumL ((over c xs).take k)) = true :=
  fits_big h.c0 (Nat.lt_of_le_of_lt h.c9 (by decide +kernel)) h.len (Nat.lt_of_le_of_lt (Nat.mul_le_mul (Nat.le_refl _) h.X9) (by decide +kernel)) h.le k
theorem Row12.len_fits : fits (lenR (over c xs)) = true := by
  unfold lenR; rw [over_len]; exact fits_int _ (by have := h.len; omega)
theorem Row12.mean : fits (meanR (over c xs)) = true := by
  rw [mean_over c xs h.c0 h.pos]
  exact fits_one h.cn (Nat.lt_of_le_of_lt h.cn9 (by decide +kernel)) (by decide +kernel) h.sumI
theorem Row12.dev : ∀ q ∈ devL (over c xs), fits q = true := by
  rw [dev_over c xs h.c0 h.pos]
  exact fits_each h.cn (Nat.lt_of_le_of_lt h.cn9 (by decide +kernel)) (by decide +kernel) h.devs
theorem Row12.devm : ∀ q ∈ devL (over c xs), fits (-q) = true := by
  intro q hq
  rw [dev_over c xs h.c0 h.pos] at hq
  obtain ⟨x, hx, rfl⟩ := List.mem_map.1 hq
  have e : -((x : Rat) / ((c * xs.length : Nat) : Rat)) = ((-x : Int) : Rat) / ((c * xs.length : Nat) : Rat) := by rw [Rat.intCast_neg]; grind
  rw [e]
  exact fits_one h.cn (Nat.lt_of_le_of_lt h.cn9 (by decide +kernel)) (X := 60000000000000) (by decide +kernel) (by have := h.devs x hx; omega)
theorem Row12.sqI : ∀ x ∈ (devI xs).map (fun x => x * x), x.natAbs ≤ 3600000000000000000000000000 := by
  intro x hx
  obtain ⟨y, hy, rfl⟩ := List.mem_map.1 hx
  rw [Int.natAbs_mul]
  exact Nat.mul_le_mul (h.devs y hy) (h.devs y hy)
theorem Row12.cn2 : c * xs.length * (c * xs.length) ≤ 900000000000000 := Nat.mul_le_mul h.cn9 h.cn9
theorem Row12.sq : ∀ q ∈ devL (over c xs), fits (q * q) = true := by
  intro q hq
  have h1 : q * q ∈ ((over (c * xs.length) (devI xs)).map fun q => q * q) := List.mem_map.2 ⟨q, by rw [← dev_over c xs h.c0 h.pos]; exact hq, rfl⟩
  rw [over_sq] at h1
  exact fits_each (Nat.mul_ne_zero h.cn h.cn) (Nat.lt_of_le_of_lt h.cn2 (by decide +kernel)) (by decide +kernel) h.sqI _ h1
theorem Row12.sqs (k : Nat) : fits (sumL (((devL (over c xs)).map fun d => d * d).take k)) = true := by
  rw [dev_over c xs h.c0 h.pos, over_sq]
  exact fits_big (L := 30) (Nat.mul_ne_zero h.cn h.cn) (Nat.lt_of_le_of_lt h.cn2 (by decide +kernel)) (by rw [List.length_map, devI_len]; exact h.len) (by decide +kernel) h.sqI k
theorem Row12.sqR_is : sqR (over c xs) = ((((devI xs).map fun x => x * x).sum : Int) : Rat) / ((c * xs.length * (c * xs.length) : Nat) : Rat) := by
  unfold sqR
  rw [dev_over c xs h.c0 h.pos, over_sq, sumL_over]
theorem Row12.sqR_sm : Sm (sqR (over c xs)) (30 * 3600000000000000000000000000) 900000000000000 := by
  rw [h.sqR_is]
  refine ⟨_, _, Nat.mul_ne_zero h.cn h.cn, rfl, ?_, h.cn2⟩
  refine Nat.le_trans (sum_bound _ _ h.sqI) (Nat.mul_le_mul ?_ (Nat.le_refl _))
  rw [List.length_map, devI_len]; exact h.len
theorem Row12.sqR_fits : fits (sqR (over c xs)) = true := h.sqR_sm.fits (by decide +kernel) (by decide +kernel)
theorem Row12.sq_div (n : Int) (h0 : n ≠ 0) (h9 : n.natAbs ≤ 1000) : fits (sqR (over c xs) / (n : Rat)) = true :=
  (h.sqR_sm.div (Sm.int n h9) (int_ne h0)).fits (by decide +kernel) (by decide +kernel)
theorem Row12.mags (k : Nat) : fits (sumL (((devL (over c xs)).map magR).take k)) = true := by
  rw [dev_over c xs h.c0 h.pos, mags_over _ _ h.cn]
  refine fits_big (L := 30) (X := 60000000000000) h.cn (Nat.lt_of_le_of_lt h.cn9 (by decide +kernel)) (by rw [List.length_map, devI_len]; exact h.len) (by decide +kernel) ?_ k
  intro x hx
  obtain ⟨y, hy, rfl⟩ := List.mem_map.1 hx
  have := h.devs y hy
  omega
theorem Row12.mags_sm : Sm (magsR (over c xs)) (30 * 60000000000000) 30000000 := by
  unfold magsR
  rw [dev_over c xs h.c0 h.pos, mags_over _ _ h.cn, sumL_over]
  refine ⟨_, _, h.cn, rfl, ?_, h.cn9⟩
  refine Nat.le_trans (sum_bound 60000000000000 _ ?_) (Nat.mul_le_mul ?_ (Nat.le_refl _))
  · intro x hx
    obtain ⟨y, hy, rfl⟩ := List.mem_map.1 hx
    have := h.devs y hy
    omega
  · rw [List.length_map, devI_len]; exact h.len
theorem Row12.mags_fits : fits (magsR (over c xs)) = true := h.mags_sm.fits (by decide +kernel) (by decide +kernel)
theorem Row12.mags_div : fits (magsR (over c xs) / lenR (over c xs)) = true := by
  unfold lenR; rw [over_len]
  exact (h.mags_sm.div (Sm.int ((xs.length : Nat) : Int) (A := 30) (by have := h.len; omega)) (int_ne (by have := h.pos; omega))).fits (by decide +kernel) (by decide +kernel)
theorem Row12.shift (d : Int) (hd : d.natAbs ≤ X) (hX : 2 * X ≤ 1000000000000) : Row12 c (2 * X) (xs.map (· + d)) :=
  ⟨h.c0, h.c9, by rw [List.length_map]; exact h.pos, by rw [List.length_map]; exact h.len, by
    intro x hx
    obtain ⟨y, hy, rfl⟩ := List.mem_map.1 hx
    have := h.le y hy
    omega, hX⟩
end
end Go.Proofs.YtemdjmaakajhjaaGreatDoor.Num

/- package fstat at rows of numbers over one denominator: sum, mean, devsq, variance, VARP, AVEDEV. Conditions: at most 30 numbers (Row12); the tables lie as they are laid. -/
namespace Go.Proofs.YtemdjmaakajhjaaGreatDoor.Num.Ft
open Go.RowKit Go.Lib Num

theorem take_map_succ (f : Rat → Rat) (l : List Rat) (k : Nat) (h : k < l.length) : sumL ((l.map f).take (k + 1)) = sumL ((l.map f).take k) + f l[k] := by
  have hk : k < (l.map f).length := by rw [List.length_map]; exact h
  rw [List.take_succ_eq_append_getElem hk, sumL_snoc, List.getElem_map]
section
variable {c X : Nat} {xs : List Int} (h : Row12 c X xs)
include h
theorem r_sum : RowF 52 (over c xs) (fracV (sumL (over c xs))) := fun W g C hfa hE =>
  s_sum (over c xs) g C W h.len_pos (by rw [over_len]; have := h.len; omega) hfa h.each (fun k _ => h.sums k) hE
theorem sum_fits : fits (sumL (over c xs)) = true := by
  have := h.sums (over c xs).length
  rwa [List.take_length] at this
theorem len_le : (over c xs).length ≤ 1000000 := by rw [over_len]; have := h.len; omega
theorem c_len : Fun1 29 (.int .i64 ((over c xs).length : Int)) (fracV (lenR (over c xs))) := c_of (by have := len_le h; omega)
theorem r_mean : RowF 163 (over c xs) (fracV (meanR (over c xs))) := fun W g C hfa hE =>
  mean_walk (sumL (over c xs)) (lenR (over c xs)) (meanR (over c xs)) (over c xs) g C W (r_sum h) (c_len h) (c_div (sum_fits h) h.len_fits (lenR_ne h.len_pos) h.mean rfl) (len_le h) hfa hE
theorem dev_at (k : Nat) (hk : k < (over c xs).length) : (over c xs)[k] - meanR (over c xs) = (devL (over c xs)).getD k 0 ∧ fits ((devL (over c xs)).getD k 0) = true := by
  have hk' : k < (devL (over c xs)).length := by rw [devL_len]; exact hk
  have e : (devL (over c xs)).getD k 0 = (devL (over c xs))[k] := by rw [List.getD_eq_getElem?_getD, List.getElem?_eq_getElem hk']; rfl
  rw [e]
  exact ⟨by simp only [devL, List.getElem_map], h.dev _ (List.getElem_mem hk')⟩
omit h in
theorem dev_mem (k : Nat) (hk : k < (over c xs).length) : (devL (over c xs)).getD k 0 ∈ devL (over c xs) := by
  have hk' : k < (devL (over c xs)).length := by rw [devL_len]; exact hk
  rw [List.getD_eq_getElem?_getD, List.getElem?_eq_getElem hk']
  exact List.getElem_mem hk'
omit h in
theorem dev_sum (f : Rat → Rat) (k : Nat) (hk : k < (over c xs).length) : sumL (((devL (over c xs)).map f).take k) + f ((devL (over c xs)).getD k 0) = sumL (((devL (over c xs)).map f).take (k + 1)) := by
  have hk' : k < (devL (over c xs)).length := by rw [devL_len]; exact hk
  rw [take_map_succ f _ k hk', List.getD_eq_getElem?_getD, List.getElem?_eq_getElem hk']
  rfl
theorem r_devsq : RowF 161 (over c xs) (fracV (sqR (over c xs))) := fun W g C hfa hE => by
  have T := devsq_walk (meanR (over c xs)) 0 (fun k => sumL (((devL (over c xs)).map fun d => d * d).take k)) (fun k => (devL (over c xs)).getD k 0) (fun k => (devL (over c xs)).getD k 0 * (devL (over c xs)).getD k 0) (over c xs) g C W
    (r_mean h) (c_of (n := 0) (by decide)) (len_le h) rfl
    (fun k hk => c_sub (h.each _ (List.getElem_mem hk)) h.mean (dev_at h k hk).2 (dev_at h k hk).1)
    (fun k hk => c_mul (dev_at h k hk).2 (dev_at h k hk).2 (h.sq _ (dev_mem k hk)) rfl)
    (fun k hk => c_add (h.sqs k) (h.sq _ (dev_mem k hk)) (h.sqs (k + 1)) (dev_sum (fun d => d * d) k hk)) hfa hE
  have e : sumL (((devL (over c xs)).map fun d => d * d).take (over c xs).length) = sqR (over c xs) := by
    unfold sqR
    rw [List.take_of_length_le (by rw [List.length_map, devL_len]; exact Nat.le_refl _)]
  simp only [e] at T
  exact T
theorem r_var (h2 : 2 ≤ xs.length) : RowF 164 (over c xs) (fracV (sqR (over c xs) / (((xs.length : Int) - 1 : Int) : Rat))) := fun W g C hfa hE => by
  have hl := h.len
  have e : (((over c xs).length : Nat) : Int) - 1 = (xs.length : Int) - 1 := by rw [over_len]
  exact variance_walk (sqR (over c xs)) _ _ (over c xs) g C W (r_devsq h) (by rw [e]; exact c_of (n := (xs.length : Int) - 1) (by omega)) (c_div h.sqR_fits (fits_int _ (by omega)) (int_ne (by omega)) (h.sq_div _ (by omega) (by omega)) rfl) (len_le h) hfa hE
theorem r_varp : RowF 165 (over c xs) (fracV (sqR (over c xs) / lenR (over c xs))) := fun W g C hfa hE =>
  varp_walk (sqR (over c xs)) (lenR (over c xs)) _ (over c xs) g C W (r_devsq h) (c_len h) (c_div h.sqR_fits h.len_fits (lenR_ne h.len_pos) (by unfold lenR; rw [over_len]; exact h.sq_div _ (by have := h.pos; omega) (by have := h.len; omega)) rfl) (len_le h) hfa hE
theorem r_avedev : RowF 162 (over c xs) (fracV (magsR (over c xs) / lenR (over c xs))) := fun W g C hfa hE => by
  have e : sumL (((devL (over c xs)).map magR).take (over c xs).length) = magsR (over c xs) := by
    unfold magsR
    rw [List.take_of_length_le (by rw [List.length_map, devL_len]; exact Nat.le_refl _)]
  have neg : ∀ q : Rat, cmpR q 0 < 0 ↔ q < 0 := by
    intro q
    unfold cmpR
    by_cases e0 : q = 0
    · rw [if_pos e0, e0]; exact ⟨fun h => absurd h (by decide), fun h => absurd h (by decide)⟩
    · rw [if_neg e0]
      by_cases hn : q < 0
      · rw [if_pos hn]; exact ⟨fun _ => hn, fun _ => by decide⟩
      · rw [if_neg hn]; exact ⟨fun h => absurd h (by decide), fun h => absurd h hn⟩
  have fm : ∀ k, k < (over c xs).length → fits (magR ((devL (over c xs)).getD k 0)) = true := by
    intro k hk
    unfold magR
    split
    · exact h.devm _ (dev_mem k hk)
    · exact (dev_at h k hk).2
  exact avedev_walk (meanR (over c xs)) 0 (lenR (over c xs)) _ (fun k => sumL (((devL (over c xs)).map magR).take k)) (fun k => (devL (over c xs)).getD k 0) (fun k => magR ((devL (over c xs)).getD k 0)) (fun k => cmpR ((devL (over c xs)).getD k 0) 0) (over c xs) g C W
    (r_mean h) (c_of (n := 0) (by decide)) (len_le h) rfl
    (fun k hk => c_sub (h.each _ (List.getElem_mem hk)) h.mean (dev_at h k hk).2 (dev_at h k hk).1)
    (fun k hk => c_sign (dev_at h k hk).2)
    (fun k hk => ⟨fun hn => by
      have hn := (neg _).1 hn
      have em : magR ((devL (over c xs)).getD k 0) = -((devL (over c xs)).getD k 0) := if_pos hn
      exact c_sub h.mean (h.each _ (List.getElem_mem hk)) (fm k hk) (by rw [em, ← (dev_at h k hk).1]; grind), fun hn => if_neg (fun hx => hn ((neg _).2 hx))⟩)
    (fun k hk => c_add (h.mags k) (fm k hk) (h.mags (k + 1)) (dev_sum magR k hk))
    (c_len h) (by rw [e]; exact c_div h.mags_fits h.len_fits (lenR_ne h.len_pos) h.mags_div rfl) hfa hE
end
end Go.Proofs.YtemdjmaakajhjaaGreatDoor.Num.Ft

/- package fstat: the law's stat at AVERAGE, VAR, VARP, DEVSQ, AVEDEV of one array. Conditions: a row of at most 30 numbers over one denominator; the tables lie as they are laid. -/
namespace Go.Proofs.YtemdjmaakajhjaaGreatDoor.Num.Ft
open Go.RowKit Go.Lib Go.MapKept Num

theorem fr_of (i : Nat) (hi : i < allRows.length) (h : freshB allRows[i].name (allRows.take i) = true) : ∀ j (hj : j < i), (allRows[i].name == (allRows[j]'(by omega)).name) = false := by
  intro j hj
  have := fresh_of h (allRows[j]'(by omega)) (by
    rw [List.mem_take_iff_getElem]
    exact ⟨j, by omega, rfl⟩)
  exact this

/-- the law's stat at a row over its arguments, at one array -/
theorem stat_n (i : Nat) (r : Row) (hi : i < allRows.length) (hr : allRows[i] = r) (hraw : isRaw r.fn = false) (hkd : r.kinds = { data := #[97] }) (hfr : ∀ j (hj : j < i), (allRows[i].name == (allRows[j]'(by omega)).name) = false) (hnum : r.num = false) (hc1 : r.least = 1) (hc2 : r.most = 255) (eF : ∀ args w, (callFunc r.fn args).run Tryz.prog w = .ok (.enter r.fn args) w) (qs : List Rat) (q : Rat) (rr ss : Int) (gi Ci ab ao C : Nat) (w : World) (hA : AArg w (arrVal' rr ss gi qs.length Ci) qs) (hav : ValsAt w gi 0 (numVals qs)) (h0 : 0 < qs.length) (_ : qs.length ≤ 1000) (hqs : ∀ x ∈ qs, fits x = true) (hq : fits q = true) (hF : ∀ (W : World) (b g cap : Nat), Env W → Past b → ArgsAt W b (some ⟨g, 0, none⟩) 1 cap 0 → ValsAt W g 0 [arrVal' rr ss gi qs.length Ci] → ValsAt W gi 0 (numVals qs) → g ≠ b → gi ≠ b → Calls Tryz.prog r.fn #[.pointer (some ⟨b, 0, none⟩)] W fun e w' => e = .returned (fracV q) ∧ W.grownBy w' (some b)) (hv : ValsAt w ab ao [arrVal' rr ss gi qs.length Ci]) (hE : Env w) :
    Calls Tryz.prog 9 #[.string r.name, .slice (some ⟨ab, ao, none⟩) 1 C] w fun e w' => e = .returned (numVal q) ∧ Below w.heap.size w w' :=
  math_of r.name (.slice (some ⟨ab, ao, none⟩) 1 C) (numVal' q) w ⟨_, _, _, rfl⟩ (fun W b hb hT =>
    run_a_val i r hi hr hraw hkd hfr [arrVal' rr ss gi qs.length Ci] b ab ao C (numVal' q) W (show 0 < 1 by decide) (show 1 ≤ 300 by decide) (by rw [hc1]; exact (show (1 : Int) ≤ ((1 : Nat) : Int) by decide)) (by rw [hc2]; exact (show ((1 : Nat) : Int) ≤ 255 by decide)) (hv.below hb) (hE.below hb) hT ⟨rfl, rfl, rfl, rfl, rfl⟩ (fun W g => check_num q W hq g)
      (fun v hv' W' h => by
        simp only [List.mem_cons, List.not_mem_nil, or_false] at hv'
        subst hv'
        exact (hA.below (hb.trans (h.mono hb.size))).check hqs ((hE.below hb).below h))
      (fun W' e g cap hb' hE' hfn hva => entryn2_val r g cap e [arrVal' rr ss gi qs.length Ci] q W' hnum hfn eF hE' hva hq (fun W'' b' hb'' hE'' hP hbl hlt ha hva' hne =>
        have hB := hb.trans ((hb'.trans (hb''.mono hb'.size)).mono hb.size)
        have hgi : gi ≠ b' := by
          have h2 : gi < w.heap.size := cell_lt (hav.at 0 (by rw [numVals_len]; exact h0)).1
          have h3 := hb.size
          have h4 := hb'.size
          omega
        hF W'' b' g cap hE'' hP ha hva' (hav.below hB) hne hgi) (show 0 < 1 by decide)))
section
variable {c X : Nat} {xs : List Int} (h : Row12 c X xs)
include h
theorem over_1000 : 0 < (over c xs).length ∧ (over c xs).length ≤ 1000 := by
  have h1 := h.len
  have h2 := h.pos
  rw [over_len]
  omega
theorem s_AVERAGE (rr ss : Int) (gi Ci ab ao C : Nat) (w : World) (hA : AArg w (arrVal' rr ss gi (over c xs).length Ci) (over c xs)) (hav : ValsAt w gi 0 (numVals (over c xs))) (hv : ValsAt w ab ao [arrVal' rr ss gi (over c xs).length Ci]) (hE : Env w) :
    Calls Tryz.prog 9 #[.string { data := #[65, 86, 69, 82, 65, 71, 69] }, .slice (some ⟨ab, ao, none⟩) 1 C] w fun e w' => e = .returned (numVal (meanR (over c xs))) ∧ Below w.heap.size w w' :=
  stat_n 3 ⟨{ data := #[65, 86, 69, 82, 65, 71, 69] }, 1, 255, { data := #[97] }, false, 49⟩ (by decide) rfl (by kernel_rfl) rfl (fr_of 3 (by decide) (by kernel_rfl)) rfl rfl rfl (enters_of Tryz.func49 (by kernel_rfl) rfl) (over c xs) (meanR (over c xs)) rr ss gi Ci ab ao C w hA hav (over_1000 h).1 (over_1000 h).2 h.each h.mean (fun W b g cap hE' hP ha hva hav' hne hgi => average_walk b (over c xs) (sumL (over c xs)) (lenR (over c xs)) (meanR (over c xs)) rr ss gi Ci g cap W (r_sum h) (c_len h) (c_div (sum_fits h) h.len_fits (lenR_ne h.len_pos) h.mean rfl) h.each (over_1000 h).1 (over_1000 h).2 ha hva hav' hne hgi hE' hP) hv hE
theorem s_DEVSQ (rr ss : Int) (gi Ci ab ao C : Nat) (w : World) (hA : AArg w (arrVal' rr ss gi (over c xs).length Ci) (over c xs)) (hav : ValsAt w gi 0 (numVals (over c xs))) (hv : ValsAt w ab ao [arrVal' rr ss gi (over c xs).length Ci]) (hE : Env w) :
    Calls Tryz.prog 9 #[.string { data := #[68, 69, 86, 83, 81] }, .slice (some ⟨ab, ao, none⟩) 1 C] w fun e w' => e = .returned (numVal (sqR (over c xs))) ∧ Below w.heap.size w w' :=
  stat_m 18 ⟨{ data := #[68, 69, 86, 83, 81] }, 1, 255, { data := #[97] }, true, 161⟩ (by decide) rfl (by kernel_rfl) rfl (fr_of 18 (by decide) (by kernel_rfl)) rfl rfl rfl (enters_of Tryz.func161 (by kernel_rfl) rfl) (over c xs) (sqR (over c xs)) (r_devsq h) rr ss gi Ci ab ao C w hA hav (over_1000 h).1 (over_1000 h).2 h.each h.sqR_fits hv hE
theorem s_AVEDEV (rr ss : Int) (gi Ci ab ao C : Nat) (w : World) (hA : AArg w (arrVal' rr ss gi (over c xs).length Ci) (over c xs)) (hav : ValsAt w gi 0 (numVals (over c xs))) (hv : ValsAt w ab ao [arrVal' rr ss gi (over c xs).length Ci]) (hE : Env w) :
    Calls Tryz.prog 9 #[.string { data := #[65, 86, 69, 68, 69, 86] }, .slice (some ⟨ab, ao, none⟩) 1 C] w fun e w' => e = .returned (numVal (magsR (over c xs) / lenR (over c xs))) ∧ Below w.heap.size w w' :=
  stat_m 19 ⟨{ data := #[65, 86, 69, 68, 69, 86] }, 1, 255, { data := #[97] }, true, 162⟩ (by decide) rfl (by kernel_rfl) rfl (fr_of 19 (by decide) (by kernel_rfl)) rfl rfl rfl (enters_of Tryz.func162 (by kernel_rfl) rfl) (over c xs) (magsR (over c xs) / lenR (over c xs)) (r_avedev h) rr ss gi Ci ab ao C w hA hav (over_1000 h).1 (over_1000 h).2 h.each h.mags_div hv hE
theorem s_VAR (h2 : 2 ≤ xs.length) (rr ss : Int) (gi Ci ab ao C : Nat) (w : World) (hA : AArg w (arrVal' rr ss gi (over c xs).length Ci) (over c xs)) (hav : ValsAt w gi 0 (numVals (over c xs))) (hv : ValsAt w ab ao [arrVal' rr ss gi (over c xs).length Ci]) (hE : Env w) :
    Calls Tryz.prog 9 #[.string { data := #[86, 65, 82] }, .slice (some ⟨ab, ao, none⟩) 1 C] w fun e w' => e = .returned (numVal (sqR (over c xs) / (((xs.length : Int) - 1 : Int) : Rat))) ∧ Below w.heap.size w w' :=
  stat_m 20 ⟨{ data := #[86, 65, 82] }, 1, 255, { data := #[97] }, true, 164⟩ (by decide) rfl (by kernel_rfl) rfl (fr_of 20 (by decide) (by kernel_rfl)) rfl rfl rfl (enters_of Tryz.func164 (by kernel_rfl) rfl) (over c xs) (sqR (over c xs) / (((xs.length : Int) - 1 : Int) : Rat)) (r_var h h2) rr ss gi Ci ab ao C w hA hav (over_1000 h).1 (over_1000 h).2 h.each (h.sq_div _ (by omega) (by have := h.len; omega)) hv hE
theorem s_VARP (rr ss : Int) (gi Ci ab ao C : Nat) (w : World) (hA : AArg w (arrVal' rr ss gi (over c xs).length Ci) (over c xs)) (hav : ValsAt w gi 0 (numVals (over c xs))) (hv : ValsAt w ab ao [arrVal' rr ss gi (over c xs).length Ci]) (hE : Env w) :
    Calls Tryz.prog 9 #[.string { data := #[86, 65, 82, 80] }, .slice (some ⟨ab, ao, none⟩) 1 C] w fun e w' => e = .returned (numVal (sqR (over c xs) / lenR (over c xs))) ∧ Below w.heap.size w w' :=
  stat_m 21 ⟨{ data := #[86, 65, 82, 80] }, 1, 255, { data := #[97] }, true, 165⟩ (by decide) rfl (by kernel_rfl) rfl (fr_of 21 (by decide) (by kernel_rfl)) rfl rfl rfl (enters_of Tryz.func165 (by kernel_rfl) rfl) (over c xs) (sqR (over c xs) / lenR (over c xs)) (r_varp h) rr ss gi Ci ab ao C w hA hav (over_1000 h).1 (over_1000 h).2 h.each (by unfold lenR; rw [over_len]; exact h.sq_div _ (by have := h.pos; omega) (by have := h.len; omega)) hv hE
end
end Go.Proofs.YtemdjmaakajhjaaGreatDoor.Num.Ft

/- A block of twelve cells: what lies in it, what twelve stores behind one another leave. No conditions. -/
namespace Go.Proofs.YtemdjmaakajhjaaGreatDoor.Num
open Go.RowKit Go.Lib

/-- the cells of a block of twelve, none of them frozen -/
def Twelve (W : World) (b : Nat) (x0 x1 x2 x3 x4 x5 x6 x7 x8 x9 x10 x11 : Value) : Prop :=
  (W.cell? ⟨b, 0, none⟩ = some x0 ∧ W.cell? ⟨b, 1, none⟩ = some x1 ∧ W.cell? ⟨b, 2, none⟩ = some x2 ∧ W.cell? ⟨b, 3, none⟩ = some x3 ∧ W.cell? ⟨b, 4, none⟩ = some x4 ∧ W.cell? ⟨b, 5, none⟩ = some x5 ∧ W.cell? ⟨b, 6, none⟩ = some x6 ∧ W.cell? ⟨b, 7, none⟩ = some x7 ∧ W.cell? ⟨b, 8, none⟩ = some x8 ∧ W.cell? ⟨b, 9, none⟩ = some x9 ∧ W.cell? ⟨b, 10, none⟩ = some x10 ∧ W.cell? ⟨b, 11, none⟩ = some x11) ∧ W.frozen? ⟨b, 0, none⟩ = false ∧ W.frozen? ⟨b, 1, none⟩ = false ∧ W.frozen? ⟨b, 2, none⟩ = false ∧ W.frozen? ⟨b, 3, none⟩ = false ∧ W.frozen? ⟨b, 4, none⟩ = false ∧ W.frozen? ⟨b, 5, none⟩ = false ∧ W.frozen? ⟨b, 6, none⟩ = false ∧ W.frozen? ⟨b, 7, none⟩ = false ∧ W.frozen? ⟨b, 8, none⟩ = false ∧ W.frozen? ⟨b, 9, none⟩ = false ∧ W.frozen? ⟨b, 10, none⟩ = false ∧ W.frozen? ⟨b, 11, none⟩ = false
theorem twelve_at {W : World} {b : Nat} {x0 x1 x2 x3 x4 x5 x6 x7 x8 x9 x10 x11 : Value} {T : TypeId} (h : W.heap[b]? = some (.cells #[x0, x1, x2, x3, x4, x5, x6, x7, x8, x9, x10, x11] T (0, 0))) : Twelve W b x0 x1 x2 x3 x4 x5 x6 x7 x8 x9 x10 x11 :=
  ⟨⟨Lib.cell_of_heap h 0, Lib.cell_of_heap h 1, Lib.cell_of_heap h 2, Lib.cell_of_heap h 3, Lib.cell_of_heap h 4, Lib.cell_of_heap h 5, Lib.cell_of_heap h 6, Lib.cell_of_heap h 7, Lib.cell_of_heap h 8, Lib.cell_of_heap h 9, Lib.cell_of_heap h 10, Lib.cell_of_heap h 11⟩, by rw [Lib.frozen_of_heap h 0], by rw [Lib.frozen_of_heap h 1], by rw [Lib.frozen_of_heap h 2], by rw [Lib.frozen_of_heap h 3], by rw [Lib.frozen_of_heap h 4], by rw [Lib.frozen_of_heap h 5], by rw [Lib.frozen_of_heap h 6], by rw [Lib.frozen_of_heap h 7], by rw [Lib.frozen_of_heap h 8], by rw [Lib.frozen_of_heap h 9], by rw [Lib.frozen_of_heap h 10], by rw [Lib.frozen_of_heap h 11]⟩
theorem set12_at {W : World} {R : Nat} {T : TypeId} {y0 y1 y2 y3 y4 y5 y6 y7 y8 y9 y10 y11 : Value} (hR : W.heap[R]? = some (.cells #[y0, y1, y2, y3, y4, y5, y6, y7, y8, y9, y10, y11] T (0, 0))) (x0 x1 x2 x3 x4 x5 x6 x7 x8 x9 x10 x11 : Value) : ((((((((((((W.setCell ⟨R, 0, none⟩ x0).setCell ⟨R, 1, none⟩ x1).setCell ⟨R, 2, none⟩ x2).setCell ⟨R, 3, none⟩ x3).setCell ⟨R, 4, none⟩ x4).setCell ⟨R, 5, none⟩ x5).setCell ⟨R, 6, none⟩ x6).setCell ⟨R, 7, none⟩ x7).setCell ⟨R, 8, none⟩ x8).setCell ⟨R, 9, none⟩ x9).setCell ⟨R, 10, none⟩ x10).setCell ⟨R, 11, none⟩ x11).heap[R]? = some (.cells #[x0, x1, x2, x3, x4, x5, x6, x7, x8, x9, x10, x11] T (0, 0)) := by
  have h0 := heap_setCell_at hR 0 x0
  have h1 := heap_setCell_at h0 1 x1
  have h2 := heap_setCell_at h1 2 x2
  have h3 := heap_setCell_at h2 3 x3
  have h4 := heap_setCell_at h3 4 x4
  have h5 := heap_setCell_at h4 5 x5
  have h6 := heap_setCell_at h5 6 x6
  have h7 := heap_setCell_at h6 7 x7
  have h8 := heap_setCell_at h7 8 x8
  have h9 := heap_setCell_at h8 9 x9
  have h10 := heap_setCell_at h9 10 x10
  have h11 := heap_setCell_at h10 11 x11
  rw [h11]
  simp
theorem put12_below {B G : Nat} (h : B ≤ G) (W : World) (x0 x1 x2 x3 x4 x5 x6 x7 x8 x9 x10 x11 : Value) : Below B W ((((((((((((W.setCell ⟨G, 0, none⟩ x0).setCell ⟨G, 1, none⟩ x1).setCell ⟨G, 2, none⟩ x2).setCell ⟨G, 3, none⟩ x3).setCell ⟨G, 4, none⟩ x4).setCell ⟨G, 5, none⟩ x5).setCell ⟨G, 6, none⟩ x6).setCell ⟨G, 7, none⟩ x7).setCell ⟨G, 8, none⟩ x8).setCell ⟨G, 9, none⟩ x9).setCell ⟨G, 10, none⟩ x10).setCell ⟨G, 11, none⟩ x11) :=
  ((((((((((((Below.refl _ _).setCell (p := ⟨G, 0, none⟩) h x0).setCell (p := ⟨G, 1, none⟩) h x1).setCell (p := ⟨G, 2, none⟩) h x2).setCell (p := ⟨G, 3, none⟩) h x3).setCell (p := ⟨G, 4, none⟩) h x4).setCell (p := ⟨G, 5, none⟩) h x5).setCell (p := ⟨G, 6, none⟩) h x6).setCell (p := ⟨G, 7, none⟩) h x7).setCell (p := ⟨G, 8, none⟩) h x8).setCell (p := ⟨G, 9, none⟩) h x9).setCell (p := ⟨G, 10, none⟩) h x10).setCell (p := ⟨G, 11, none⟩) h x11
theorem set12_other (W : World) (R : Nat) (x0 x1 x2 x3 x4 x5 x6 x7 x8 x9 x10 x11 : Value) {k : Nat} (hk : k ≠ R) : ((((((((((((W.setCell ⟨R, 0, none⟩ x0).setCell ⟨R, 1, none⟩ x1).setCell ⟨R, 2, none⟩ x2).setCell ⟨R, 3, none⟩ x3).setCell ⟨R, 4, none⟩ x4).setCell ⟨R, 5, none⟩ x5).setCell ⟨R, 6, none⟩ x6).setCell ⟨R, 7, none⟩ x7).setCell ⟨R, 8, none⟩ x8).setCell ⟨R, 9, none⟩ x9).setCell ⟨R, 10, none⟩ x10).setCell ⟨R, 11, none⟩ x11).heap[k]? = W.heap[k]? :=
  (Below.heap_setCell ((((((((((((W).setCell ⟨R, 0, none⟩ x0).setCell ⟨R, 1, none⟩ x1).setCell ⟨R, 2, none⟩ x2).setCell ⟨R, 3, none⟩ x3).setCell ⟨R, 4, none⟩ x4).setCell ⟨R, 5, none⟩ x5).setCell ⟨R, 6, none⟩ x6).setCell ⟨R, 7, none⟩ x7).setCell ⟨R, 8, none⟩ x8).setCell ⟨R, 9, none⟩ x9).setCell ⟨R, 10, none⟩ x10) ⟨R, 11, none⟩ x11 k hk).trans ((Below.heap_setCell (((((((((((W).setCell ⟨R, 0, none⟩ x0).setCell ⟨R, 1, none⟩ x1).setCell ⟨R, 2, none⟩ x2).setCell ⟨R, 3, none⟩ x3).setCell ⟨R, 4, none⟩ x4).setCell ⟨R, 5, none⟩ x5).setCell ⟨R, 6, none⟩ x6).setCell ⟨R, 7, none⟩ x7).setCell ⟨R, 8, none⟩ x8).setCell ⟨R, 9, none⟩ x9) ⟨R, 10, none⟩ x10 k hk).trans ((Below.heap_setCell ((((((((((W).setCell ⟨R, 0, none⟩ x0).setCell ⟨R, 1, none⟩ x1).setCell ⟨R, 2, none⟩ x2).setCell ⟨R, 3, none⟩ x3).setCell ⟨R, 4, none⟩ x4).setCell ⟨R, 5, none⟩ x5).setCell ⟨R, 6, none⟩ x6).setCell ⟨R, 7, none⟩ x7).setCell ⟨R, 8, none⟩ x8) ⟨R, 9, none⟩ x9 k hk).trans ((Below.heap_setCell (((((((((W).setCell ⟨R, 0, none⟩ x0).setCell ⟨R, 1, none⟩ x1).setCell ⟨R, 2, none⟩ x2).setCell ⟨R, 3, none⟩ x3).setCell ⟨R, 4, none⟩ x4).setCell ⟨R, 5, none⟩ x5).setCell ⟨R, 6, none⟩ x6).setCell ⟨R, 7, none⟩ x7) ⟨R, 8, none⟩ x8 k hk).trans ((Below.heap_setCell ((((((((W).setCell ⟨R, 0, none⟩ x0).setCell ⟨R, 1, none⟩ x1).setCell ⟨R, 2, none⟩ x2).setCell ⟨R, 3, none⟩ x3).setCell ⟨R, 4, none⟩ x4).setCell ⟨R, 5, none⟩ x5).setCell ⟨R, 6, none⟩ x6) ⟨R, 7, none⟩ x7 k hk).trans ((Below.heap_setCell (((((((W).setCell ⟨R, 0, none⟩ x0).setCell ⟨R, 1, none⟩ x1).setCell ⟨R, 2, none⟩ x2).setCell ⟨R, 3, none⟩ x3).setCell ⟨R, 4, none⟩ x4).setCell ⟨R, 5, none⟩ x5) ⟨R, 6, none⟩ x6 k hk).trans ((Below.heap_setCell ((((((W).setCell ⟨R, 0, none⟩ x0).setCell ⟨R, 1, none⟩ x1).setCell ⟨R, 2, none⟩ x2).setCell ⟨R, 3, none⟩ x3).setCell ⟨R, 4, none⟩ x4) ⟨R, 5, none⟩ x5 k hk).trans ((Below.heap_setCell (((((W).setCell ⟨R, 0, none⟩ x0).setCell ⟨R, 1, none⟩ x1).setCell ⟨R, 2, none⟩ x2).setCell ⟨R, 3, none⟩ x3) ⟨R, 4, none⟩ x4 k hk).trans ((Below.heap_setCell ((((W).setCell ⟨R, 0, none⟩ x0).setCell ⟨R, 1, none⟩ x1).setCell ⟨R, 2, none⟩ x2) ⟨R, 3, none⟩ x3 k hk).trans ((Below.heap_setCell (((W).setCell ⟨R, 0, none⟩ x0).setCell ⟨R, 1, none⟩ x1) ⟨R, 2, none⟩ x2 k hk).trans ((Below.heap_setCell ((W).setCell ⟨R, 0, none⟩ x0) ⟨R, 1, none⟩ x1 k hk).trans (Below.heap_setCell W ⟨R, 0, none⟩ x0 k hk)))))))))))
end Go.Proofs.YtemdjmaakajhjaaGreatDoor.Num
