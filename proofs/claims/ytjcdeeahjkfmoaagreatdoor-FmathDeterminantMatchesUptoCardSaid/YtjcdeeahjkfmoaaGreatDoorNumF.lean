/- Contracts of the program's functions, joined from smaller texts. Conditions stand at each theorem. -/
import Derived.Test.YtjcdeeahjkfmoaaGreatDoorNumE
import Derived.Lib.MinMax
set_option maxRecDepth 100000
set_option maxHeartbeats 8000000
namespace Go.Proofs.YtjcdeeahjkfmoaaGreatDoor
namespace Num
open Go.RowKit Go.Lib
structure Val where
 k : Int
 n : ByteArray
 d : ByteArray
 t : ByteArray
 on : Bool
 c : Int
 r : Int
 s : Int
 A : Option Addr
 L : Nat
 C : Nat
def Val.cells (v : Val) : List Value := [.int .i64 v.k, .string v.n, .string v.d, .string v.t, .bool v.on, .int .i64 v.c, .int .i64 v.r, .int .i64 v.s, .slice v.A v.L v.C]
def Val.agg (v : Val) : Value := .agg #[.int .i64 v.k, .string v.n, .string v.d, .string v.t, .bool v.on, .int .i64 v.c, .int .i64 v.r, .int .i64 v.s, .slice v.A v.L v.C]
def numVal' (q : Rat) : Val := ⟨1, numS q, denS q, ⟨#[]⟩, false, 0, 0, 0, none, 0, 0⟩
def faultVal' (c : Int) : Val := ⟨4, ⟨#[]⟩, ⟨#[]⟩, ⟨#[]⟩, false, c, 0, 0, none, 0, 0⟩
def flat (vs : List Val) : List Value := vs.flatMap Val.cells
theorem flat_len : ∀ vs : List Val, (flat vs).length = vs.length * 9
 | [] => rfl
 | v :: r => by
  have := flat_len r
  unfold flat at this ⊢
  rw [List.flatMap_cons, List.length_append, this, List.length_cons]
  show 9 + _ = _
  omega
theorem flat_get : ∀ (vs : List Val) (i j : Nat) (h : i < vs.length), j < 9 → (flat vs)[i * 9 + j]? = vs[i].cells[j]?
 | v :: r, 0, j, _, hj => by
  unfold flat
  rw [List.flatMap_cons, Nat.zero_mul, Nat.zero_add, List.getElem?_append_left (by show j < 9; exact hj)]
  rfl
 | v :: r, i + 1, j, h, hj => by
  have := flat_get r i j (by simpa using h) hj
  unfold flat at this ⊢
  rw [List.flatMap_cons, List.getElem?_append_right (by show 9 ≤ _; omega)]
  rw [show (i + 1) * 9 + j - v.cells.length = i * 9 + j by show (i + 1) * 9 + j - 9 = _; omega, this]
  rfl
theorem addr_add (b o j : Nat) : (⟨b, o, none⟩ : Addr).add j = ⟨b, o + j, none⟩ := by
 unfold Addr.add
 split
 ·rename_i h; subst h; rfl
 ·rfl
def ValsAt (w : World) (ab ao : Nat) (vs : List Val) : Prop := ∀ j u, (flat vs)[j]? = some u → w.cell? ((⟨ab, ao, none⟩ : Addr).add j) = some u
theorem ValsAt.below {w w' : World} {ab ao : Nat} {vs : List Val} (h : ValsAt w ab ao vs) (hb : Below w.heap.size w w') : ValsAt w' ab ao vs := fun j u hj => cell_below (h j u hj) hb
theorem ValsAt.at {w : World} {ab ao : Nat} {vs : List Val} (h : ValsAt w ab ao vs) (i : Nat) (hi : i < vs.length) :
  CellsAt w ab (ao + i * 9) (.int .i64 vs[i].k) (.string vs[i].n) (.string vs[i].d) (.string vs[i].t) (.bool vs[i].on) (.int .i64 vs[i].c) (.int .i64 vs[i].r) (.int .i64 vs[i].s) (.slice vs[i].A vs[i].L vs[i].C) := by
 have H : ∀ j (hj : j < 9) u, vs[i].cells[j]? = some u → w.cell? ⟨ab, ao + i * 9 + j, none⟩ = some u := by
  intro j hj u hu
  have := h (i * 9 + j) u (by rw [flat_get vs i j hi hj]; exact hu)
  rw [addr_add] at this
  rw [show ao + i * 9 + j = ao + (i * 9 + j) by omega]
  exact this
 exact ⟨H 0 (by decide) _ rfl, H 1 (by decide) _ rfl, H 2 (by decide) _ rfl, H 3 (by decide) _ rfl, H 4 (by decide) _ rfl, H 5 (by decide) _ rfl, H 6 (by decide) _ rfl, H 7 (by decide) _ rfl, H 8 (by decide) _ rfl⟩
theorem flat_one (vs : List Val) : ∀ u ∈ flat vs, u.oneCell' = true := by
 intro u hu
 unfold flat at hu
 obtain ⟨v, _, hv⟩ := List.mem_flatMap.1 hu
 simp only [Val.cells, List.mem_cons, List.not_mem_nil, or_false] at hv
 rcases hv with rfl | rfl | rfl | rfl | rfl | rfl | rfl | rfl | rfl <;> rfl
theorem vals_of_owns {w : World} {B n : Nat} {T : TypeId} {v : Value} {vs : List Val} (h : w.ownsRow B T 9 v n (flat vs)) (hn : vs.length = n) (h0 : 0 < n) : ∃ g cap, v = .slice (some ⟨g, 0, none⟩) n cap ∧ B ≤ g ∧ n ≤ cap ∧ ValsAt w g 0 vs := by
 rcases h.2 with ⟨_, h0'⟩ | ⟨g, cap, cur, rfl, hb, hg, hc1, hc2, hcs, htk⟩
 ·omega
 ·refine ⟨g, cap, rfl, hb, hc1, fun j u hj => ?_⟩
  have hlt : j < (flat vs).length := (List.getElem?_eq_some_iff.1 hj).1
  rw [← htk] at hj
  have hl : j < n * 9 := by rw [flat_len] at hlt; omega
  rw [List.getElem?_take_of_lt hl] at hj
  rw [addr_add, Nat.zero_add]
  rw [Lib.cell_of_heap hg j]
  simpa using hj
theorem letter_one (c : UInt8) (i : Nat) (hi : i ≤ 1000000) (w : World) : Calls Tryz.prog 199 #[.string ⟨#[c]⟩, .int .i64 (i : Int)] w fun e w' => e = .returned (.int .u8 (c.toNat : Int)) ∧ w' = w := by
 have hm : min (i : Int) 0 = 0 := by omega
 go_enter Tryz.func199, Tryz.ntmps199
 go_wp2
 go_ret
 exact ⟨by first | rfl | simp, rfl⟩
end Num
namespace Num
open Go.RowKit Go.Lib
def LiftI (w : World) (ab ao : Nat) (vs : List Val) (W : World) : Prop := W.heap[w.heap.size]? = some (.cells #[.int .i64 0, .string ⟨#[]⟩, .string ⟨#[]⟩, .string ⟨#[]⟩, .bool false, .int .i64 0, .int .i64 0, .int .i64 0, .slice none 0 0] 32 (0, 0)) ∧ ValsAt W ab ao vs ∧ Env W ∧ Below w.heap.size w W
theorem LiftI.step {w W W' : World} {ab ao : Nat} {vs : List Val} (h : LiftI w ab ao vs W) (hb : Below W.heap.size W W') : LiftI w ab ao vs W' := ⟨keep_block h.1 hb, h.2.1.below hb, h.2.2.1.below hb, h.2.2.2.trans (hb.mono h.2.2.2.size)⟩
theorem info_val : ∃ i, Tryz.prog.info? 32 = some i ∧ i.zero = some (.agg #[.int .i64 0, .string ⟨#[]⟩, .string ⟨#[]⟩, .string ⟨#[]⟩, .bool false, .int .i64 0, .int .i64 0, .int .i64 0, .slice none 0 0]) ∧ i.size = 9 ∧ i.bytes = 112 := info_parts (by kernel_rfl : (Tryz.prog.info? 32).map (fun i => (i.zero, i.size, i.bytes)) = some (some (.agg #[.int .i64 0, .string ⟨#[]⟩, .string ⟨#[]⟩, .string ⟨#[]⟩, .bool false, .int .i64 0, .int .i64 0, .int .i64 0, .slice none 0 0]), 9, 112))
theorem lift_a (vs : List Val) (ab ao C pb : Nat) (q : Val) (w : World) (h0 : 0 < vs.length) (h9 : vs.length ≤ 300) (hv : ValsAt w ab ao vs) (hE : Env w) (hq : q.A = none ∧ q.L = 0 ∧ q.C = 0)
  (hC : ∀ v ∈ vs, ∀ W, Below w.heap.size w W → Calls Tryz.prog 198 #[v.agg] W fun e w' => e = .returned (.int .i64 0) ∧ Below W.heap.size W w')
  (hO : ∀ W, Env W → Calls Tryz.prog 198 #[q.agg] W fun e w' => e = .returned (.int .i64 0) ∧ Below W.heap.size W w')
  (hF : ∀ W g cap, Below w.heap.size w W → ValsAt W g 0 vs → Calls Tryz.prog 111 #[.slice (some ⟨g, 0, none⟩) vs.length cap, .pointer (some ⟨pb, 0, none⟩)] W fun e w' => e = .returned q.agg ∧ Below W.heap.size W w') :
  Calls Tryz.prog 110 #[.string ⟨#[97]⟩, .slice (some ⟨ab, ao, none⟩) vs.length C, .func (.func 111) #[] #[.pointer (some ⟨pb, 0, none⟩)]] w fun e w' => e = .returned (.tuple #[q.agg, .int .i64 0]) ∧ Below w.heap.size w w' := by
 obtain ⟨qk, qn, qd, qt, qon, qc, qr, qs, qA, qL, qC⟩ := q
 obtain ⟨rfl, rfl, rfl⟩ := hq
 have hb : Below w.heap.size w (w.alloc (.cells #[.int .i64 0, .string ⟨#[]⟩, .string ⟨#[]⟩, .string ⟨#[]⟩, .bool false, .int .i64 0, .int .i64 0, .int .i64 0, .slice none 0 0] 32)) := (Below.refl _ _).alloc (Nat.le_refl _) _
 have HR := hid (heap_alloc_new w (.cells #[.int .i64 0, .string ⟨#[]⟩, .string ⟨#[]⟩, .string ⟨#[]⟩, .bool false, .int .i64 0, .int .i64 0, .int .i64 0, .slice none 0 0] 32))
 have HV := hid (hv.below hb)
 have HE := hid (hE.below hb)
 have HL := hid hb
 have HC := hid hC
 have HO := hid (fun W g => valid_of qk qn qd qt qon qc qr qs none 0 0 W hO g)
 have HF := hid hF
 obtain ⟨L, hL⟩ : ∃ L, vs.length = L := ⟨_, rfl⟩
 have HLL := hid hL
 rw [hL] at h0 h9 HF ⊢
 have htr := fun W => Any.strings_Trim_laid Tryz.lays160 (by kernel_rfl) ⟨#[97]⟩ ⟨#[115, 97]⟩ W (by decide) (by decide) (ascii_of_all (by decide))
 rw [show Lib.trimS (⟨#[97]⟩ : ByteArray).data.toList (⟨#[115, 97]⟩ : ByteArray).data.toList = [] from by decide] at htr
 have HTR := hid htr
 have hem : (⟨#[]⟩ : ByteArray).toList.isEmpty = true := by rw [Lib.toList_data]; rfl
 obtain ⟨B, hB⟩ : ∃ B, w.heap.size = B := ⟨_, rfl⟩
 have HB := hid hB
 clear hb hv hE hC hO hF hL htr hB
 go_enter Tryz.func110, Tryz.ntmps110
 go_wp2_with fail
 refine (HTR.out _).mono ?_
 rintro e w1 ⟨rfl, hb⟩
 replace HR := hid (keep_block HR.out hb)
 replace HV := hid (HV.out.below hb)
 replace HE := hid (HE.out.below hb)
 replace HL := hid (HL.out.trans (hb.mono HL.out.size))
 clear hb
 have LI := hid (show LiftI w ab ao vs w1 from ⟨HR.out, HV.out, HE.out, HL.out⟩)
 clear HR HV HE HL
 go_wp2_with fail
 go_loopg [29] L (fun g v29 wx => ∃ i : Nat, v29 = .int .i64 (i : Int) ∧ i ≤ L ∧ g = L - i ∧ LiftI w ab ao vs wx)
 case atStart => exact ⟨0, rfl, Nat.zero_le _, rfl, LI.out⟩
 case round =>
  obtain ⟨i, rfl, hi, rfl, hli⟩ := hrel
  have HLI := hid hli
  clear hli LI
  by_cases hlt : i < L
  ·have hd : decide ((i : Int) < (L : Int)) = true := decide_eq_true (by omega)
   have hd2 : decide (i < L) = true := decide_eq_true hlt
   have hii : i < vs.length := by rw [HLL.out]; exact hlt
   obtain ⟨c0, c1, c2, c3, c4, c5, c6, c7, c8⟩ := HLI.out.2.1.at i hii
   have hi0 : (0 : Int) ≤ (i : Int) := by omega
   have hi1 : (i : Int) < (L : Int) := by omega
   have TC := hid (HC.out vs[i] (List.getElem_mem hii))
   have HA := hid (HLI.out.2.2.2.trans ((Below.refl wr.heap.size wr).alloc (Nat.le_refl _) (.cells #[.int .i64 vs[i].k, .string vs[i].n, .string vs[i].d, .string vs[i].t, .bool vs[i].on, .int .i64 vs[i].c, .int .i64 vs[i].r, .int .i64 vs[i].s, .slice vs[i].A vs[i].L vs[i].C] 32) |>.mono HLI.out.2.2.2.size))
   go_wp2_with fail
   refine (TC.out _ HA.out).mono ?_
   rintro e w2 ⟨rfl, hb⟩
   have HLI2 := hid ((HLI.out.step ((Below.refl wr.heap.size wr).alloc (Nat.le_refl _) (.cells #[.int .i64 vs[i].k, .string vs[i].n, .string vs[i].d, .string vs[i].t, .bool vs[i].on, .int .i64 vs[i].c, .int .i64 vs[i].r, .int .i64 vs[i].s, .slice vs[i].A vs[i].L vs[i].C] 32))).step hb)
   clear hb c0 c1 c2 c3 c4 c5 c6 c7 c8
   go_wp2
   go_roundg (L - (i + 1))
   case measure => omega
   case rel => exact ⟨i + 1, by go_num, by omega, by omega, HLI2.out⟩
  ·have hd : decide ((i : Int) < (L : Int)) = false := decide_eq_false (by omega)
   have hd2 : decide (i < L) = false := decide_eq_false hlt
   clear hlt
   go_wp2_with fail
   go_loopg [11, 12, 42] L (fun g v11 v12 v42 wx => ∃ i : Nat, v11 = .int .i64 0 ∧ v12 = .int .i64 0 ∧ v42 = .int .i64 (i : Int) ∧ i ≤ L ∧ g = L - i ∧ LiftI w ab ao vs wx)
   case atStart => exact ⟨0, rfl, rfl, rfl, Nat.zero_le _, rfl, HLI.out⟩
   case round =>
    clear HLI hd hd2 hi
    obtain ⟨i, rfl, rfl, rfl, hi, rfl, hli⟩ := hrel
    have HLI := hid hli
    clear hli
    by_cases hlt : i < L
    ·have hd : decide ((i : Int) < (L : Int)) = true := decide_eq_true (by omega)
     have hd2 : decide (i < L) = true := decide_eq_true hlt
     have hii : i < vs.length := by rw [HLL.out]; exact hlt
     obtain ⟨c0, c1, c2, c3, c4, c5, c6, c7, c8⟩ := HLI.out.2.1.at i hii
     have hi0 : (0 : Int) ≤ (i : Int) := by omega
     have hi1 : (i : Int) < (L : Int) := by omega
     skip
     go_wp2_with fail
     refine (letter_one 97 i (by omega) _).mono ?_
     rintro e w2 ⟨rfl, rfl⟩
     have HLI2 := hid (HLI.out.step ((Below.refl wr.heap.size wr).alloc (Nat.le_refl _) (.cells #[.int .i64 vs[i].k, .string vs[i].n, .string vs[i].d, .string vs[i].t, .bool vs[i].on, .int .i64 vs[i].c, .int .i64 vs[i].r, .int .i64 vs[i].s, .slice vs[i].A vs[i].L vs[i].C] 32)))
     go_wp2
     go_roundg (L - (i + 1))
     case measure => omega
     case rel => exact ⟨i + 1, rfl, rfl, by go_num, by omega, by omega, HLI2.out⟩
    ·have hd : decide ((i : Int) < (L : Int)) = false := decide_eq_false (by omega)
     have hd2 : decide (i < L) = false := decide_eq_false hlt
     clear hlt
     obtain ⟨i0, hi0', hz0, hz1, hz2⟩ := info_val
     have hfl : (flat vs).length = L * 9 := by rw [flat_len, HLL.out]
     have hvals := HLI.out.2.1
     have hml : 0 + L ≤ maxLen := by unfold maxLen; omega
     clear hi
     go_wp2_with (at_builtin; refine wpList_append_own _ rfl _ _ 22 rfl w.heap.size 32 i0 _ 9 112 Tryz.underlying22 hi0' hz0 hz1 hz2 rfl (by decide) (.slice none 0 0) 0 [] rfl (World.ownsRow_nil _ _ _ _) ⟨ab, ao, none⟩ L C (flat vs) rfl hfl hvals (flat_one vs) hml (by omega) HLI.out.2.2.2.size ?_)
     intro v5 w5 hown5 hgrow5 _
     obtain ⟨g, cap, rfl, hg, hcap, hva⟩ := vals_of_owns hown5 HLL.out h0
     have HLI5 := hid (HLI.out.step (below_none hgrow5))
     have HVA := hid hva
     clear hown5 hgrow5 hg hcap hva hvals hfl hml hi0' hz0 hz1 hz2
     go_wp2_with fail
     refine (HF.out _ g cap HLI5.out.2.2.2 HVA.out).mono ?_
     rintro e w6 ⟨rfl, hb⟩
     have HLI6 := hid (HLI5.out.step hb)
     clear hb
     unfold Val.agg
     simp only []
     go_wp2_with fail
     refine (HO.out _ HLI6.out.2.2.1).mono ?_
     rintro e w7 ⟨rfl, hb⟩
     have HLI7 := hid (HLI6.out.step hb)
     clear hb
     have HLI8 := hid (HLI7.out.step ((Below.refl w7.heap.size w7).alloc (Nat.le_refl _) (.cells #[.int .i64 qk, .string qn, .string qd, .string qt, .bool qon, .int .i64 qc, .int .i64 qr, .int .i64 qs, .slice none 0 0] 32)))
     obtain ⟨⟨a0, a1, a2, a3, a4, a5, a6, a7, a8⟩, b0, b1, b2, b3, b4, b5, b6, b7, b8⟩ := nine_at HLI7.out.1
     obtain ⟨⟨r0, r1, r2, r3, r4, r5, r6, r7, r8⟩, g0, g1, g2, g3, g4, g5, g6, g7, g8⟩ := nine_at HLI8.out.1
     have hlt7 := heap_lt HLI7.out.1
     have HF1 := hid (set9_at HLI7.out.1 (.int .i64 qk) (.string qn) (.string qd) (.string qt) (.bool qon) (.int .i64 qc) (.int .i64 qr) (.int .i64 qs) (.slice none 0 0))
     have HF2 := hid ((Below.heap_alloc _ (.cells #[.int .i64 qk, .string qn, .string qd, .string qt, .bool qon, .int .i64 qc, .int .i64 qr, .int .i64 qs, .slice none 0 0] 32) _ (heap_lt HF1.out)).trans HF1.out)
     have HB2 := hid (nine_end (x0 := (.int .i64 qk)) (x1 := (.string qn)) (x2 := (.string qd)) (x3 := (.string qt)) (x4 := (.bool qon)) (x5 := (.int .i64 qc)) (x6 := (.int .i64 qr)) (x7 := (.int .i64 qs)) (x8 := (.slice none 0 0)) HLI7.out.1 HLI7.out.2.2.2 (Nat.le_refl _)).1
     have HZ2 := hid (HB2.out.alloc HB2.out.size (.cells #[.int .i64 qk, .string qn, .string qd, .string qt, .bool qon, .int .i64 qc, .int .i64 qr, .int .i64 qs, .slice none 0 0] 32))
     obtain ⟨⟨e0, e1, e2, e3, e4, e5, e6, e7, e8⟩, _⟩ := nine_at HF2.out
     go_wp2
     refine bodyPost_ret (v := .tuple #[.agg #[.int .i64 qk, .string qn, .string qd, .string qt, .bool qon, .int .i64 qc, .int .i64 qr, .int .i64 qs, .slice none 0 0], .int .i64 0]) (by simp [results, Tryz.results110, go_sem, e0, e1, e2, e3, e4, e5, e6, e7, e8]) rfl ⟨rfl, HZ2.out⟩
end Num
namespace Num
open Go.RowKit Go.Lib
def FnAt (W : World) (e : Nat) (r : Row) : Prop :=
 if r.num then ∃ f, W.cell? ⟨e, 0, none⟩ = some (.func (.func 134) #[] #[.pointer (some ⟨f, 0, none⟩)]) ∧ W.cell? ⟨f, 0, none⟩ = some (.func (.func r.fn) #[] #[])
 else W.cell? ⟨e, 0, none⟩ = some (.func (.func r.fn) #[] #[])
theorem rowFn_at {w : World} {v : Value} {r : Row} (h : RowFn w v r) : ∃ e, v = .func (.func 154) #[] #[.pointer (some ⟨e, 0, none⟩)] ∧ FnAt w e r := by
 unfold RowFn at h
 unfold FnAt
 split at h
 ·rename_i hn
  obtain ⟨e, f, h1, h2, h3⟩ := h
  exact ⟨e, h1, by rw [if_pos hn]; exact ⟨f, h2, h3⟩⟩
 ·rename_i hn
  obtain ⟨e, h1, h2⟩ := h
  exact ⟨e, h1, by rw [if_neg hn]; exact h2⟩
theorem FnAt.below {w w' : World} {e : Nat} {r : Row} (h : FnAt w e r) (hb : Below w.heap.size w w') : FnAt w' e r := by
 unfold FnAt at h ⊢
 split at h
 ·rename_i hn
  obtain ⟨f, h1, h2⟩ := h
  rw [if_pos hn]
  exact ⟨f, cell_below h1 hb, cell_below h2 hb⟩
 ·rename_i hn
  rw [if_neg hn]
  exact cell_below h hb
attribute [local go_sem] run_store_func
theorem run_a_val (i : Nat) (r : Row) (hi : i < allRows.length) (hr : allRows[i] = r) (hkd : r.kinds = ⟨#[97]⟩) (hfr : ∀ j (hj : j < i), (allRows[i].name == (allRows[j]'(by omega)).name) = false) (vs : List Val) (b ab ao C : Nat) (q : Val) (w : World) (h0 : 0 < vs.length) (h9 : vs.length ≤ 300) (hc1 : r.least ≤ vs.length) (hc2 : (vs.length : Int) ≤ r.most) (hv : ValsAt w ab ao vs) (hE : Env w) (hT : TableAt w b allRows) (hq : q.A = none ∧ q.L = 0 ∧ q.C = 0 ∧ q.r = 0 ∧ q.s = 0)
  (hO : ∀ W, Env W → Calls Tryz.prog 198 #[q.agg] W fun e w' => e = .returned (.int .i64 0) ∧ Below W.heap.size W w') 
  (hC : ∀ v ∈ vs, ∀ W, Below w.heap.size w W → Calls Tryz.prog 198 #[v.agg] W fun e w' => e = .returned (.int .i64 0) ∧ Below W.heap.size W w')
  (hK : ∀ W e g cap, Below w.heap.size w W → Env W → FnAt W e r → ValsAt W g 0 vs → Calls Tryz.prog 154 #[.slice (some ⟨g, 0, none⟩) vs.length cap, .pointer (some ⟨e, 0, none⟩)] W fun e w' => e = .returned q.agg ∧ Below W.heap.size W w') :
  Calls Tryz.prog 27 #[.map (some b), .string r.name, .slice (some ⟨ab, ao, none⟩) vs.length C] w fun e w' => e = .returned (.tuple #[(q).agg, .int .i64 0]) ∧ Below w.heap.size w w' := by
 have hb : Below w.heap.size w (w.alloc (.cells #[.int .i64 0, .string ⟨#[]⟩, .string ⟨#[]⟩, .string ⟨#[]⟩, .bool false, .int .i64 0, .int .i64 0, .int .i64 0, .slice none 0 0] 32)) := (Below.refl _ _).alloc (Nat.le_refl _) _
 have HR := hid (heap_alloc_new w (.cells #[.int .i64 0, .string ⟨#[]⟩, .string ⟨#[]⟩, .string ⟨#[]⟩, .bool false, .int .i64 0, .int .i64 0, .int .i64 0, .slice none 0 0] 32))
 obtain ⟨v, hrf, hrun⟩ := (hT.below hb).look i hi hfr Tryz.underlying53 Tryz.underlying9
 rw [hr] at hrf hrun
 obtain ⟨e0, rfl, hfn⟩ := rowFn_at hrf
 obtain ⟨name, least, most, kinds, num, F⟩ := r
 simp only at hkd hc1 hc2
 subst hkd
 simp only at hrun ⊢
 have HV := hid (hv.below hb)
 have HE := hid (hE.below hb)
 have HL := hid hb
 have HFN := hid hfn
 have d1 : decide ((vs.length : Int) < least) = false := decide_eq_false (by omega)
 have d2 : decide (most < (vs.length : Int)) = false := decide_eq_false (by omega)
 have hmf : ∀ (fn : Fn) (first cap : Array Value) (w : World), (Instr.makeFunc fn first cap).run Tryz.prog w = .ok (.func fn first cap) w := fun _ _ _ _ => rfl
 have hb : Below (w.alloc (.cells #[.int .i64 0, .string ⟨#[]⟩, .string ⟨#[]⟩, .string ⟨#[]⟩, .bool false, .int .i64 0, .int .i64 0, .int .i64 0, .slice none 0 0] 32)).heap.size (w.alloc (.cells #[.int .i64 0, .string ⟨#[]⟩, .string ⟨#[]⟩, .string ⟨#[]⟩, .bool false, .int .i64 0, .int .i64 0, .int .i64 0, .slice none 0 0] 32)) ((w.alloc (.cells #[.int .i64 0, .string ⟨#[]⟩, .string ⟨#[]⟩, .string ⟨#[]⟩, .bool false, .int .i64 0, .int .i64 0, .int .i64 0, .slice none 0 0] 32)).alloc (.cells #[.int .i64 least, .int .i64 most, .string ⟨#[97]⟩, .func (.func 154) #[] #[.pointer (some ⟨e0, 0, none⟩)]] 99)) := (Below.refl _ _).alloc (Nat.le_refl _) _
 have HX := hid (Lib.cell_of_heap (heap_alloc_new (w.alloc (.cells #[.int .i64 0, .string ⟨#[]⟩, .string ⟨#[]⟩, .string ⟨#[]⟩, .bool false, .int .i64 0, .int .i64 0, .int .i64 0, .slice none 0 0] 32)) (.cells #[.int .i64 least, .int .i64 most, .string ⟨#[97]⟩, .func (.func 154) #[] #[.pointer (some ⟨e0, 0, none⟩)]] 99)) 3)
 replace HR := hid (keep_block HR.out hb)
 replace HV := hid (HV.out.below hb)
 replace HE := hid (HE.out.below hb)
 replace HL := hid (HL.out.trans (hb.mono HL.out.size))
 replace HFN := hid (HFN.out.below hb)
 have hpos : (w.alloc (.cells #[.int .i64 0, .string ⟨#[]⟩, .string ⟨#[]⟩, .string ⟨#[]⟩, .bool false, .int .i64 0, .int .i64 0, .int .i64 0, .slice none 0 0] 32)).heap.size = w.heap.size + 1 := by simp
 rw [hpos] at HX
 have TL := hid (lift_a vs ab ao C (w.heap.size + 1) (q) ((w.alloc (.cells #[.int .i64 0, .string ⟨#[]⟩, .string ⟨#[]⟩, .string ⟨#[]⟩, .bool false, .int .i64 0, .int .i64 0, .int .i64 0, .slice none 0 0] 32)).alloc (.cells #[.int .i64 least, .int .i64 most, .string ⟨#[97]⟩, .func (.func 154) #[] #[.pointer (some ⟨e0, 0, none⟩)]] 99)) h0 h9 HV.out HE.out ⟨hq.1, hq.2.1, hq.2.2.1⟩
  (fun v hv W h => hC v hv W (HL.out.trans (h.mono HL.out.size))) (hO)
  (fun W g cap hbw hva => by
   have h := run1_value (w.heap.size + 1) 0 e0 (.slice (some ⟨g, 0, none⟩) vs.length cap) q.k q.n q.d q.t q.on q.c q.A q.L q.C W ⟨_, _, _, rfl⟩ (cell_below HX.out hbw) (HE.out.below hbw) (fun W' hb' => by
    have h2 := hK W' e0 g cap (HL.out.trans ((hbw.trans (hb'.mono hbw.size)).mono HL.out.size)) (HE.out.below (hbw.trans (hb'.mono hbw.size))) (HFN.out.below (hbw.trans (hb'.mono hbw.size))) (hva.below hb')
    unfold Val.agg at h2
    rw [hq.2.2.2.1, hq.2.2.2.2] at h2
    exact h2)
   unfold Val.agg
   rw [hq.2.2.2.1, hq.2.2.2.2]
   exact h))
 obtain ⟨qq, hqq⟩ : ∃ z, (q) = z := ⟨_, rfl⟩
 rw [hqq] at TL ⊢
 clear hqq hb hv hE hT hC hK hrf hfn hpos hfr hr hi h0 h9 hc1 hc2
 go_enter Tryz.func27, Tryz.ntmps27
 unfold Val.agg at TL ⊢
 go_wp2_with fail
 refine TL.out.mono ?_
 rintro e w2 ⟨rfl, hb2⟩
 replace HR := hid (keep_block HR.out hb2)
 replace HL := hid (HL.out.trans (hb2.mono HL.out.size))
 clear hb2
 obtain ⟨⟨r0, r1, r2, r3, r4, r5, r6, r7, r8⟩, g0, g1, g2, g3, g4, g5, g6, g7, g8⟩ := nine_at HR.out
 obtain ⟨nb, z0, z1, z2, z3, z4, z5, z6, z7, z8⟩ := nine_end (x0 := (.int .i64 qq.k)) (x1 := (.string qq.n)) (x2 := (.string qq.d)) (x3 := (.string qq.t)) (x4 := (.bool qq.on)) (x5 := (.int .i64 qq.c)) (x6 := (.int .i64 qq.r)) (x7 := (.int .i64 qq.s)) (x8 := (.slice qq.A qq.L qq.C)) HR.out HL.out (Nat.le_refl _)
 go_wp2
 refine bodyPost_ret (v := .tuple #[.agg #[.int .i64 qq.k, .string qq.n, .string qq.d, .string qq.t, .bool qq.on, .int .i64 qq.c, .int .i64 qq.r, .int .i64 qq.s, .slice qq.A qq.L qq.C], .int .i64 0]) (by simp [results, Tryz.results27, go_sem, z0, z1, z2, z3, z4, z5, z6, z7, z8]) rfl ⟨rfl, nb⟩
theorem run_a_stop (i : Nat) (r : Row) (hi : i < allRows.length) (hr : allRows[i] = r) (hkd : r.kinds = ⟨#[97]⟩) (hfr : ∀ j (hj : j < i), (allRows[i].name == (allRows[j]'(by omega)).name) = false) (vs : List Val) (b ab ao C : Nat) (c : Int) (w : World) (h0 : 0 < vs.length) (h9 : vs.length ≤ 300) (hc1 : r.least ≤ vs.length) (hc2 : (vs.length : Int) ≤ r.most) (hv : ValsAt w ab ao vs) (hE : Env w) (hT : TableAt w b allRows) (h1 : 1 ≤ c) (h2 : c ≤ 8) 
  (hC : ∀ v ∈ vs, ∀ W, Below w.heap.size w W → Calls Tryz.prog 198 #[v.agg] W fun e w' => e = .returned (.int .i64 0) ∧ Below W.heap.size W w')
  (hK : ∀ W e g cap, Below w.heap.size w W → Env W → FnAt W e r → ValsAt W g 0 vs → Calls Tryz.prog 154 #[.slice (some ⟨g, 0, none⟩) vs.length cap, .pointer (some ⟨e, 0, none⟩)] W fun e w' => e = stopped c ∧ Below W.heap.size W w') :
  Calls Tryz.prog 27 #[.map (some b), .string r.name, .slice (some ⟨ab, ao, none⟩) vs.length C] w fun e w' => e = .returned (.tuple #[(faultVal' c).agg, .int .i64 0]) ∧ Below w.heap.size w w' := by
 have hb : Below w.heap.size w (w.alloc (.cells #[.int .i64 0, .string ⟨#[]⟩, .string ⟨#[]⟩, .string ⟨#[]⟩, .bool false, .int .i64 0, .int .i64 0, .int .i64 0, .slice none 0 0] 32)) := (Below.refl _ _).alloc (Nat.le_refl _) _
 have HR := hid (heap_alloc_new w (.cells #[.int .i64 0, .string ⟨#[]⟩, .string ⟨#[]⟩, .string ⟨#[]⟩, .bool false, .int .i64 0, .int .i64 0, .int .i64 0, .slice none 0 0] 32))
 obtain ⟨v, hrf, hrun⟩ := (hT.below hb).look i hi hfr Tryz.underlying53 Tryz.underlying9
 rw [hr] at hrf hrun
 obtain ⟨e0, rfl, hfn⟩ := rowFn_at hrf
 obtain ⟨name, least, most, kinds, num, F⟩ := r
 simp only at hkd hc1 hc2
 subst hkd
 simp only at hrun ⊢
 have HV := hid (hv.below hb)
 have HE := hid (hE.below hb)
 have HL := hid hb
 have HFN := hid hfn
 have d1 : decide ((vs.length : Int) < least) = false := decide_eq_false (by omega)
 have d2 : decide (most < (vs.length : Int)) = false := decide_eq_false (by omega)
 have hmf : ∀ (fn : Fn) (first cap : Array Value) (w : World), (Instr.makeFunc fn first cap).run Tryz.prog w = .ok (.func fn first cap) w := fun _ _ _ _ => rfl
 have hb : Below (w.alloc (.cells #[.int .i64 0, .string ⟨#[]⟩, .string ⟨#[]⟩, .string ⟨#[]⟩, .bool false, .int .i64 0, .int .i64 0, .int .i64 0, .slice none 0 0] 32)).heap.size (w.alloc (.cells #[.int .i64 0, .string ⟨#[]⟩, .string ⟨#[]⟩, .string ⟨#[]⟩, .bool false, .int .i64 0, .int .i64 0, .int .i64 0, .slice none 0 0] 32)) ((w.alloc (.cells #[.int .i64 0, .string ⟨#[]⟩, .string ⟨#[]⟩, .string ⟨#[]⟩, .bool false, .int .i64 0, .int .i64 0, .int .i64 0, .slice none 0 0] 32)).alloc (.cells #[.int .i64 least, .int .i64 most, .string ⟨#[97]⟩, .func (.func 154) #[] #[.pointer (some ⟨e0, 0, none⟩)]] 99)) := (Below.refl _ _).alloc (Nat.le_refl _) _
 have HX := hid (Lib.cell_of_heap (heap_alloc_new (w.alloc (.cells #[.int .i64 0, .string ⟨#[]⟩, .string ⟨#[]⟩, .string ⟨#[]⟩, .bool false, .int .i64 0, .int .i64 0, .int .i64 0, .slice none 0 0] 32)) (.cells #[.int .i64 least, .int .i64 most, .string ⟨#[97]⟩, .func (.func 154) #[] #[.pointer (some ⟨e0, 0, none⟩)]] 99)) 3)
 replace HR := hid (keep_block HR.out hb)
 replace HV := hid (HV.out.below hb)
 replace HE := hid (HE.out.below hb)
 replace HL := hid (HL.out.trans (hb.mono HL.out.size))
 replace HFN := hid (HFN.out.below hb)
 have hpos : (w.alloc (.cells #[.int .i64 0, .string ⟨#[]⟩, .string ⟨#[]⟩, .string ⟨#[]⟩, .bool false, .int .i64 0, .int .i64 0, .int .i64 0, .slice none 0 0] 32)).heap.size = w.heap.size + 1 := by simp
 rw [hpos] at HX
 have TL := hid (lift_a vs ab ao C (w.heap.size + 1) (faultVal' c) ((w.alloc (.cells #[.int .i64 0, .string ⟨#[]⟩, .string ⟨#[]⟩, .string ⟨#[]⟩, .bool false, .int .i64 0, .int .i64 0, .int .i64 0, .slice none 0 0] 32)).alloc (.cells #[.int .i64 least, .int .i64 most, .string ⟨#[97]⟩, .func (.func 154) #[] #[.pointer (some ⟨e0, 0, none⟩)]] 99)) h0 h9 HV.out HE.out ⟨rfl, rfl, rfl⟩
  (fun v hv W h => hC v hv W (HL.out.trans (h.mono HL.out.size))) (fun W g => check_fault c W h1 h2 g)
  (fun W g cap hbw hva => run1_stop (w.heap.size + 1) e0 (.slice (some ⟨g, 0, none⟩) vs.length cap) c W ⟨_, _, _, rfl⟩ h1 h2 (cell_below HX.out hbw) (HE.out.below hbw) (fun W' hb' => hK W' e0 g cap (HL.out.trans ((hbw.trans (hb'.mono hbw.size)).mono HL.out.size)) (HE.out.below (hbw.trans (hb'.mono hbw.size))) (HFN.out.below (hbw.trans (hb'.mono hbw.size))) (hva.below hb'))))
 obtain ⟨qq, hqq⟩ : ∃ z, (faultVal' c) = z := ⟨_, rfl⟩
 rw [hqq] at TL ⊢
 clear hqq hb hv hE hT hC hK hrf hfn hpos hfr hr hi h0 h9 hc1 hc2
 go_enter Tryz.func27, Tryz.ntmps27
 unfold Val.agg at TL ⊢
 go_wp2_with fail
 refine TL.out.mono ?_
 rintro e w2 ⟨rfl, hb2⟩
 replace HR := hid (keep_block HR.out hb2)
 replace HL := hid (HL.out.trans (hb2.mono HL.out.size))
 clear hb2
 obtain ⟨⟨r0, r1, r2, r3, r4, r5, r6, r7, r8⟩, g0, g1, g2, g3, g4, g5, g6, g7, g8⟩ := nine_at HR.out
 obtain ⟨nb, z0, z1, z2, z3, z4, z5, z6, z7, z8⟩ := nine_end (x0 := (.int .i64 qq.k)) (x1 := (.string qq.n)) (x2 := (.string qq.d)) (x3 := (.string qq.t)) (x4 := (.bool qq.on)) (x5 := (.int .i64 qq.c)) (x6 := (.int .i64 qq.r)) (x7 := (.int .i64 qq.s)) (x8 := (.slice qq.A qq.L qq.C)) HR.out HL.out (Nat.le_refl _)
 go_wp2
 refine bodyPost_ret (v := .tuple #[.agg #[.int .i64 qq.k, .string qq.n, .string qq.d, .string qq.t, .bool qq.on, .int .i64 qq.c, .int .i64 qq.r, .int .i64 qq.s, .slice qq.A qq.L qq.C], .int .i64 0]) (by simp [results, Tryz.results27, go_sem, z0, z1, z2, z3, z4, z5, z6, z7, z8]) rfl ⟨rfl, nb⟩
end Num
namespace Num
open Go.RowKit Go.Lib
theorem call_of (name : ByteArray) (sl : Value) (q : Val) (w : World) (hs : ∃ a l c, sl = .slice a l c)
  (hRun : ∀ W b, Below w.heap.size w W → TableAt W b allRows → Calls Tryz.prog 27 #[.map (some b), .string name, sl] W fun e w' => e = .returned (.tuple #[q.agg, .int .i64 0]) ∧ Below W.heap.size W w') :
  Calls Tryz.prog 12 #[.string name, sl] w fun e w' => e = .returned (.tuple #[q.agg, .int .i64 0]) ∧ Below w.heap.size w w' := by
 obtain ⟨sa, slen, sc, rfl⟩ := hs
 have hb : Below w.heap.size w (w.alloc (.cells #[.int .i64 0, .string ⟨#[]⟩, .string ⟨#[]⟩, .string ⟨#[]⟩, .bool false, .int .i64 0, .int .i64 0, .int .i64 0, .slice none 0 0] 32)) := (Below.refl _ _).alloc (Nat.le_refl _) _
 have HR := hid (heap_alloc_new w (.cells #[.int .i64 0, .string ⟨#[]⟩, .string ⟨#[]⟩, .string ⟨#[]⟩, .bool false, .int .i64 0, .int .i64 0, .int .i64 0, .slice none 0 0] 32))
 have HL := hid hb
 have TR := hid hRun
 unfold Val.agg at TR ⊢
 clear hRun hb
 go_enter Tryz.func12, Tryz.ntmps12
 go_wp2_with fail
 refine (table_any _).mono ?_
 rintro e W1 ⟨b, rfl, ht, hb⟩
 have HT := hid ht
 clear ht
 replace HR := hid (keep_block HR.out hb)
 replace HL := hid (HL.out.trans (hb.mono HL.out.size))
 clear hb
 go_wp2_with fail
 refine (TR.out _ _ HL.out HT.out).mono ?_
 rintro e W2 ⟨rfl, hb⟩
 replace HR := hid (keep_block HR.out hb)
 replace HL := hid (HL.out.trans (hb.mono HL.out.size))
 clear hb
 obtain ⟨⟨r0, r1, r2, r3, r4, r5, r6, r7, r8⟩, g0, g1, g2, g3, g4, g5, g6, g7, g8⟩ := nine_at HR.out
 obtain ⟨nb, z0, z1, z2, z3, z4, z5, z6, z7, z8⟩ := nine_end (x0 := (.int .i64 q.k)) (x1 := (.string q.n)) (x2 := (.string q.d)) (x3 := (.string q.t)) (x4 := (.bool q.on)) (x5 := (.int .i64 q.c)) (x6 := (.int .i64 q.r)) (x7 := (.int .i64 q.s)) (x8 := (.slice q.A q.L q.C)) HR.out HL.out (Nat.le_refl _)
 go_wp2
 refine bodyPost_ret (v := .tuple #[.agg #[.int .i64 q.k, .string q.n, .string q.d, .string q.t, .bool q.on, .int .i64 q.c, .int .i64 q.r, .int .i64 q.s, .slice q.A q.L q.C], .int .i64 0]) (by simp [results, Tryz.results12, go_sem, z0, z1, z2, z3, z4, z5, z6, z7, z8]) rfl ⟨rfl, nb⟩
theorem num1_val (b f : Nat) (F : FuncId) (q : Rat) (w : World) (hf : w.cell? ⟨f, 0, none⟩ = some (.func (.func F) #[] #[])) (eF : ∀ args w, (callFunc F args).run Tryz.prog w = .ok (.enter F args) w) (hE : Env w) (hP : Past b) (hq : fits q = true) (hne : b < w.heap.size)
  (hF : ∀ W, Below w.heap.size w W → Calls Tryz.prog F #[.pointer (some ⟨b, 0, none⟩)] W fun e w' => e = .returned (fracV q) ∧ W.grownBy w' (some b)) :
  Calls Tryz.prog 134 #[.pointer (some ⟨b, 0, none⟩), .pointer (some ⟨f, 0, none⟩)] w fun e w' => e = .returned (numVal q) ∧ w.grownBy w' (some b) := by
 have hb : Below w.heap.size w (w.alloc (.cells #[.int .i64 0, .string ⟨#[]⟩, .string ⟨#[]⟩, .string ⟨#[]⟩, .bool false, .int .i64 0, .int .i64 0, .int .i64 0, .slice none 0 0] 32)) := (Below.refl _ _).alloc (Nat.le_refl _) _
 have HR := hid (heap_alloc_new w (.cells #[.int .i64 0, .string ⟨#[]⟩, .string ⟨#[]⟩, .string ⟨#[]⟩, .bool false, .int .i64 0, .int .i64 0, .int .i64 0, .slice none 0 0] 32))
 have HL := hid hb
 have HX := hid (cell_below hf hb)
 obtain x0 := HX.out
 have TF := hid (hF _ hb)
 have TN := hid (fun W g => number_any q W hq g)
 rw [numVal_is q] at TN ⊢
 rw [fracV_is q] at TN TF
 have NE := hid (show w.heap.size ≠ b from Nat.ne_of_gt hne)
 have HE := hid (hE.below hb)
 have HP := hid hP
 clear hf hF hb hE hP hne hq
 go_enter Tryz.func134, Tryz.ntmps134
 go_wp2_with fail
 refine TF.out.mono ?_
 rintro e W1 ⟨rfl, hg⟩
 have HG := hid (kept_trans (kept_below (b := b) HL.out) hg)
 replace HR := hid (kept_block HR.out hg NE.out)
 replace HE := hid (HE.out.kept hg HP.out)
 clear hg x0 HX
 go_wp2_with fail
 refine (TN.out _ HE.out).mono ?_
 rintro e W2 ⟨rfl, hb⟩
 replace HG := hid (kept_trans HG.out (kept_below hb))
 replace HR := hid (keep_block HR.out hb)
 clear hb
 obtain ⟨⟨r0, r1, r2, r3, r4, r5, r6, r7, r8⟩, g0, g1, g2, g3, g4, g5, g6, g7, g8⟩ := nine_at HR.out
 have HF := hid (set9_at HR.out (.int .i64 1) (.string (numS q)) (.string (denS q)) (.string ⟨#[]⟩) (.bool false) (.int .i64 0) (.int .i64 0) (.int .i64 0) (.slice none 0 0))
 have HG2 := hid (kept_set9 HG.out (Nat.le_refl _) (.int .i64 1) (.string (numS q)) (.string (denS q)) (.string ⟨#[]⟩) (.bool false) (.int .i64 0) (.int .i64 0) (.int .i64 0) (.slice none 0 0))
 obtain ⟨⟨z0, z1, z2, z3, z4, z5, z6, z7, z8⟩, _⟩ := nine_at HF.out
 go_wp2
 refine bodyPost_ret (v := .agg #[.int .i64 1, .string (numS q), .string (denS q), .string ⟨#[]⟩, .bool false, .int .i64 0, .int .i64 0, .int .i64 0, .slice none 0 0]) (by simp [results, Tryz.results134, go_sem, z0, z1, z2, z3, z4, z5, z6, z7, z8]) rfl ⟨rfl, HG2.out⟩
theorem num1_stop (b f : Nat) (F : FuncId) (c : Int) (w : World) (hf : w.cell? ⟨f, 0, none⟩ = some (.func (.func F) #[] #[])) (eF : ∀ args w, (callFunc F args).run Tryz.prog w = .ok (.enter F args) w) (_ : Env w) (_ : Past b)
  (hF : ∀ W, Below w.heap.size w W → Calls Tryz.prog F #[.pointer (some ⟨b, 0, none⟩)] W fun e w' => e = stopped c ∧ W.grownBy w' (some b)) :
  Calls Tryz.prog 134 #[.pointer (some ⟨b, 0, none⟩), .pointer (some ⟨f, 0, none⟩)] w fun e w' => e = stopped c ∧ w.grownBy w' (some b) := by
 have hb : Below w.heap.size w (w.alloc (.cells #[.int .i64 0, .string ⟨#[]⟩, .string ⟨#[]⟩, .string ⟨#[]⟩, .bool false, .int .i64 0, .int .i64 0, .int .i64 0, .slice none 0 0] 32)) := (Below.refl _ _).alloc (Nat.le_refl _) _
 have HR := hid (heap_alloc_new w (.cells #[.int .i64 0, .string ⟨#[]⟩, .string ⟨#[]⟩, .string ⟨#[]⟩, .bool false, .int .i64 0, .int .i64 0, .int .i64 0, .slice none 0 0] 32))
 have HL := hid hb
 have HX := hid (cell_below hf hb)
 obtain x0 := HX.out
 have TF := hid (hF _ hb)
 clear hf hF hb
 go_enter Tryz.func134, Tryz.ntmps134
 go_wp2_with fail
 refine TF.out.mono ?_
 rintro e W1 ⟨rfl, hg⟩
 have HG := hid (kept_trans (kept_below (b := b) HL.out) hg)
 clear hg
 unfold stopped
 go_wp2
 exact ⟨rfl, rfl, HG.out⟩
end Num
namespace Num
open Go.RowKit Go.Lib
theorem Env.past {w : World} (h : Env w) {b : Nat} (hb : w.heap.size ≤ b) : Past b := ⟨Nat.lt_of_lt_of_le h.room.1 hb, Nat.lt_of_lt_of_le h.room.2 hb⟩
theorem entry1_val (r : Row) (g cap e : Nat) (vs : List Val) (q : Rat) (w : World) (hr : r.num = true) (hfn : FnAt w e r) (eF : ∀ args w, (callFunc r.fn args).run Tryz.prog w = .ok (.enter r.fn args) w) (hE : Env w) (hv : ValsAt w g 0 vs) (hq : fits q = true)
  (hF : ∀ W b, Below w.heap.size w W → Env W → Past b → b < W.heap.size → ArgsAt W b (some ⟨g, 0, none⟩) vs.length cap 0 → ValsAt W g 0 vs → g ≠ b → Calls Tryz.prog r.fn #[.pointer (some ⟨b, 0, none⟩)] W fun e w' => e = .returned (fracV q) ∧ W.grownBy w' (some b)) (hv0 : 0 < vs.length) :
  Calls Tryz.prog 154 #[.slice (some ⟨g, 0, none⟩) vs.length cap, .pointer (some ⟨e, 0, none⟩)] w fun e w' => e = .returned (numVal q) ∧ Below w.heap.size w w' := by
 unfold FnAt at hfn
 rw [if_pos hr] at hfn
 obtain ⟨f, he, hf⟩ := hfn
 obtain ⟨hR, hB, hb⟩ := two_new w (.cells #[.int .i64 0, .string ⟨#[]⟩, .string ⟨#[]⟩, .string ⟨#[]⟩, .bool false, .int .i64 0, .int .i64 0, .int .i64 0, .slice none 0 0] 32) (.cells #[.slice (some ⟨g, 0, none⟩) vs.length cap, .int .i64 0] 146)
 have HR := hid hR
 have HL := hid hb
 have HX := hid (cell_below he ((Below.refl w.heap.size w).alloc (Nat.le_refl _) (.cells #[.int .i64 0, .string ⟨#[]⟩, .string ⟨#[]⟩, .string ⟨#[]⟩, .bool false, .int .i64 0, .int .i64 0, .int .i64 0, .slice none 0 0] 32)))
 have hgl : g < w.heap.size := cell_lt (hv.at 0 hv0).1
 have TN := hid (num1_val (w.heap.size + 1) f r.fn q ((w.alloc (.cells #[.int .i64 0, .string ⟨#[]⟩, .string ⟨#[]⟩, .string ⟨#[]⟩, .bool false, .int .i64 0, .int .i64 0, .int .i64 0, .slice none 0 0] 32)).alloc (.cells #[.slice (some ⟨g, 0, none⟩) vs.length cap, .int .i64 0] 146)) (cell_below hf hb) eF (hE.below hb) (hE.past (Nat.le_succ _)) hq (by simp)
  (fun W h => hF W (w.heap.size + 1) (hb.trans (h.mono hb.size)) ((hE.below hb).below h) (hE.past (Nat.le_succ _)) (by have := h.size; simp at this; omega) (keep_block hB h) ((hv.below hb).below h) (by omega)))
 rw [numVal_is q] at TN ⊢
 clear hR hB hb he hf hF hE hv hgl eF
 obtain x0 := HX.out
 go_enter Tryz.func154, Tryz.ntmps154
 go_wp2_with fail
 refine TN.out.mono ?_
 rintro e W1 ⟨rfl, hg⟩
 replace HR := hid (kept_block HR.out hg (by omega))
 have HG := hid (below_map HL.out (Nat.le_succ _) hg)
 clear hg
 obtain ⟨⟨r0, r1, r2, r3, r4, r5, r6, r7, r8⟩, g0, g1, g2, g3, g4, g5, g6, g7, g8⟩ := nine_at HR.out
 obtain ⟨nb, z0, z1, z2, z3, z4, z5, z6, z7, z8⟩ := nine_end (x0 := (.int .i64 1)) (x1 := (.string (numS q))) (x2 := (.string (denS q))) (x3 := (.string ⟨#[]⟩)) (x4 := (.bool false)) (x5 := (.int .i64 0)) (x6 := (.int .i64 0)) (x7 := (.int .i64 0)) (x8 := (.slice none 0 0)) HR.out HG.out (Nat.le_refl _)
 go_wp2
 refine bodyPost_ret (v := .agg #[.int .i64 1, .string (numS q), .string (denS q), .string ⟨#[]⟩, .bool false, .int .i64 0, .int .i64 0, .int .i64 0, .slice none 0 0]) (by simp [results, Tryz.results154, go_sem, z0, z1, z2, z3, z4, z5, z6, z7, z8]) rfl ⟨rfl, nb⟩
theorem entry1_stop (r : Row) (g cap e : Nat) (vs : List Val) (c : Int) (w : World) (hr : r.num = true) (hfn : FnAt w e r) (eF : ∀ args w, (callFunc r.fn args).run Tryz.prog w = .ok (.enter r.fn args) w) (hE : Env w) (hv : ValsAt w g 0 vs)
  (hF : ∀ W b, Below w.heap.size w W → Env W → Past b → b < W.heap.size → ArgsAt W b (some ⟨g, 0, none⟩) vs.length cap 0 → ValsAt W g 0 vs → g ≠ b → Calls Tryz.prog r.fn #[.pointer (some ⟨b, 0, none⟩)] W fun e w' => e = stopped c ∧ W.grownBy w' (some b)) (hv0 : 0 < vs.length) :
  Calls Tryz.prog 154 #[.slice (some ⟨g, 0, none⟩) vs.length cap, .pointer (some ⟨e, 0, none⟩)] w fun e w' => e = stopped c ∧ Below w.heap.size w w' := by
 unfold FnAt at hfn
 rw [if_pos hr] at hfn
 obtain ⟨f, he, hf⟩ := hfn
 obtain ⟨hR, hB, hb⟩ := two_new w (.cells #[.int .i64 0, .string ⟨#[]⟩, .string ⟨#[]⟩, .string ⟨#[]⟩, .bool false, .int .i64 0, .int .i64 0, .int .i64 0, .slice none 0 0] 32) (.cells #[.slice (some ⟨g, 0, none⟩) vs.length cap, .int .i64 0] 146)
 have HR := hid hR
 have HL := hid hb
 have HX := hid (cell_below he ((Below.refl w.heap.size w).alloc (Nat.le_refl _) (.cells #[.int .i64 0, .string ⟨#[]⟩, .string ⟨#[]⟩, .string ⟨#[]⟩, .bool false, .int .i64 0, .int .i64 0, .int .i64 0, .slice none 0 0] 32)))
 have hgl : g < w.heap.size := cell_lt (hv.at 0 hv0).1
 have TN := hid (num1_stop (w.heap.size + 1) f r.fn c ((w.alloc (.cells #[.int .i64 0, .string ⟨#[]⟩, .string ⟨#[]⟩, .string ⟨#[]⟩, .bool false, .int .i64 0, .int .i64 0, .int .i64 0, .slice none 0 0] 32)).alloc (.cells #[.slice (some ⟨g, 0, none⟩) vs.length cap, .int .i64 0] 146)) (cell_below hf hb) eF (hE.below hb) (hE.past (Nat.le_succ _))
  (fun W h => hF W (w.heap.size + 1) (hb.trans (h.mono hb.size)) ((hE.below hb).below h) (hE.past (Nat.le_succ _)) (by have := h.size; simp at this; omega) (keep_block hB h) ((hv.below hb).below h) (by omega)))
 clear hR hB hb he hf hF hE hv hgl eF
 obtain x0 := HX.out
 go_enter Tryz.func154, Tryz.ntmps154
 go_wp2_with fail
 refine TN.out.mono ?_
 rintro e W1 ⟨rfl, hg⟩
 have HG := hid (below_map HL.out (Nat.le_succ _) hg)
 clear hg
 unfold stopped
 go_wp2
 exact ⟨rfl, rfl, HG.out⟩
end Num
namespace Num
open Go.RowKit Go.Lib
theorem cells2 {W : World} {p : Nat} {x y : Value} {T : TypeId} (h : W.heap[p]? = some (.cells #[x, y] T (0, 0))) : W.cell? ⟨p, 0, none⟩ = some x ∧ W.cell? ⟨p, 1, none⟩ = some y := ⟨Lib.cell_of_heap h 0, Lib.cell_of_heap h 1⟩
theorem set2_other (W : World) (b : Nat) (x y : Value) {k : Nat} (hk : k ≠ b) : ((W.setCell ⟨b, 0, none⟩ x).setCell ⟨b, 1, none⟩ y).heap[k]? = W.heap[k]? :=
 (Below.heap_setCell _ ⟨b, 1, none⟩ y k hk).trans (Below.heap_setCell W ⟨b, 0, none⟩ x k hk)
theorem fm_sub (p q : Rat) (w : World) (hp : fits p = true) (hq : fits q = true) (hr : fits (p - q) = true) (hE : Env w) : Calls Tryz.prog 150 #[fracV p, fracV q] w fun e w' => e = .returned (fracV (p - q)) ∧ Below w.heap.size w w' := by
 have T1 := hid (fun W g => sub_any p q W hp hq g)
 have T2 := hid (fun W => must_ok (p - q) W)
 rw [wroteV_ok hr] at T1
 rw [fracV_is (p - q)] at T1 T2 ⊢
 rw [fracV_is p, fracV_is q] at T1 ⊢
 obtain ⟨_, _, hr', hb⟩ := three_new w (.cells #[.string (numS p), .string (denS p)] 30) (.cells #[.string (numS q), .string (denS q)] 30) (.cells #[.string ⟨#[]⟩, .string ⟨#[]⟩] 30)
 have HR := hid hr'
 have HL := hid hb
 have HE := hid (hE.below hb)
 clear hr' hb hE hp hq hr
 go_enter Tryz.func150, Tryz.ntmps150
 go_wp2_with fail
 refine (T1.out _ HE.out.tab).mono ?_
 rintro e W1 ⟨rfl, hb⟩
 replace HR := hid (keep_block HR.out hb)
 replace HL := hid (HL.out.trans (hb.mono HL.out.size))
 clear hb
 go_wp2_with fail
 refine (T2.out _).mono ?_
 rintro e W2 ⟨rfl, hb⟩
 replace HR := hid (keep_block HR.out hb)
 replace HL := hid (HL.out.trans (hb.mono HL.out.size))
 clear hb
 obtain ⟨⟨r0, r1⟩, rf0, rf1⟩ := two_at HR.out
 obtain ⟨nb, e0, e1⟩ := frac_end (x := .string (numS (p - q))) (y := .string (denS (p - q))) HR.out HL.out (by omega)
 go_wp2
 refine bodyPost_ret (v := .agg #[.string (numS (p - q)), .string (denS (p - q))]) (by simp [results, Tryz.results150, go_sem, e0, e1]) rfl ⟨rfl, nb⟩
theorem fm_mul (p q : Rat) (w : World) (hp : fits p = true) (hq : fits q = true) (hr : fits (p * q) = true) (hE : Env w) : Calls Tryz.prog 147 #[fracV p, fracV q] w fun e w' => e = .returned (fracV (p * q)) ∧ Below w.heap.size w w' := by
 have T1 := hid (fun W g => mul_any p q W hp hq g)
 have T2 := hid (fun W => must_ok (p * q) W)
 rw [wroteV_ok hr] at T1
 rw [fracV_is (p * q)] at T1 T2 ⊢
 rw [fracV_is p, fracV_is q] at T1 ⊢
 obtain ⟨_, _, hr', hb⟩ := three_new w (.cells #[.string (numS p), .string (denS p)] 30) (.cells #[.string (numS q), .string (denS q)] 30) (.cells #[.string ⟨#[]⟩, .string ⟨#[]⟩] 30)
 have HR := hid hr'
 have HL := hid hb
 have HE := hid (hE.below hb)
 clear hr' hb hE hp hq hr
 go_enter Tryz.func147, Tryz.ntmps147
 go_wp2_with fail
 refine (T1.out _ HE.out.tab).mono ?_
 rintro e W1 ⟨rfl, hb⟩
 replace HR := hid (keep_block HR.out hb)
 replace HL := hid (HL.out.trans (hb.mono HL.out.size))
 clear hb
 go_wp2_with fail
 refine (T2.out _).mono ?_
 rintro e W2 ⟨rfl, hb⟩
 replace HR := hid (keep_block HR.out hb)
 replace HL := hid (HL.out.trans (hb.mono HL.out.size))
 clear hb
 obtain ⟨⟨r0, r1⟩, rf0, rf1⟩ := two_at HR.out
 obtain ⟨nb, e0, e1⟩ := frac_end (x := .string (numS (p * q))) (y := .string (denS (p * q))) HR.out HL.out (by omega)
 go_wp2
 refine bodyPost_ret (v := .agg #[.string (numS (p * q)), .string (denS (p * q))]) (by simp [results, Tryz.results147, go_sem, e0, e1]) rfl ⟨rfl, nb⟩
theorem fm_div (p q : Rat) (w : World) (hp : fits p = true) (hq : fits q = true) (h0 : q ≠ 0) (hr : fits (p / q) = true) (hE : Env w) : Calls Tryz.prog 100 #[fracV p, fracV q] w fun e w' => e = .returned (fracV (p / q)) ∧ Below w.heap.size w w' := by
 have T1 := hid (fun W g => div_any p q W hp hq h0 g)
 have T2 := hid (fun W => must_ok (p / q) W)
 rw [wroteV_ok hr] at T1
 rw [fracV_is (p / q)] at T1 T2 ⊢
 rw [fracV_is p, fracV_is q] at T1 ⊢
 obtain ⟨_, _, hr', hb⟩ := three_new w (.cells #[.string (numS p), .string (denS p)] 30) (.cells #[.string (numS q), .string (denS q)] 30) (.cells #[.string ⟨#[]⟩, .string ⟨#[]⟩] 30)
 have HR := hid hr'
 have HL := hid hb
 have HE := hid (hE.below hb)
 clear hr' hb hE hp hq hr
 go_enter Tryz.func100, Tryz.ntmps100
 go_wp2_with fail
 refine (T1.out _ HE.out.tab).mono ?_
 rintro e W1 ⟨rfl, hb⟩
 replace HR := hid (keep_block HR.out hb)
 replace HL := hid (HL.out.trans (hb.mono HL.out.size))
 clear hb
 go_wp2_with fail
 refine (T2.out _).mono ?_
 rintro e W2 ⟨rfl, hb⟩
 replace HR := hid (keep_block HR.out hb)
 replace HL := hid (HL.out.trans (hb.mono HL.out.size))
 clear hb
 obtain ⟨⟨r0, r1⟩, rf0, rf1⟩ := two_at HR.out
 obtain ⟨nb, e0, e1⟩ := frac_end (x := .string (numS (p / q))) (y := .string (denS (p / q))) HR.out HL.out (by omega)
 go_wp2
 refine bodyPost_ret (v := .agg #[.string (numS (p / q)), .string (denS (p / q))]) (by simp [results, Tryz.results100, go_sem, e0, e1]) rfl ⟨rfl, nb⟩
theorem fm_neg (q : Rat) (w : World) (hq : fits q = true) (hE : Env w) : Calls Tryz.prog 136 #[fracV q] w fun e w' => e = .returned (fracV (-q)) ∧ Below w.heap.size w w' := by
 have T1 := hid (fun W g => neg_any q W hq g)
 have T2 := hid (fun W => must_ok (-q) W)
 rw [fracV_is (-q)] at T1 T2 ⊢
 rw [fracV_is q] at T1 ⊢
 obtain ⟨_, hr', hb⟩ := two_new w (.cells #[.string (numS q), .string (denS q)] 30) (.cells #[.string ⟨#[]⟩, .string ⟨#[]⟩] 30)
 have HR := hid hr'
 have HL := hid hb
 have HE := hid (hE.below hb)
 clear hr' hb hE
 go_enter Tryz.func136, Tryz.ntmps136
 go_wp2_with fail
 refine (T1.out _ HE.out.tab).mono ?_
 rintro e W1 ⟨rfl, hb⟩
 replace HR := hid (keep_block HR.out hb)
 replace HL := hid (HL.out.trans (hb.mono HL.out.size))
 clear hb
 go_wp2_with fail
 refine (T2.out _).mono ?_
 rintro e W2 ⟨rfl, hb⟩
 replace HR := hid (keep_block HR.out hb)
 replace HL := hid (HL.out.trans (hb.mono HL.out.size))
 clear hb
 obtain ⟨⟨r0, r1⟩, rf0, rf1⟩ := two_at HR.out
 obtain ⟨nb, e0, e1⟩ := frac_end (x := .string (numS (-q))) (y := .string (denS (-q))) HR.out HL.out (by omega)
 go_wp2
 refine bodyPost_ret (v := .agg #[.string (numS (-q)), .string (denS (-q))]) (by simp [results, Tryz.results136, go_sem, e0, e1]) rfl ⟨rfl, nb⟩
theorem fm_sign (q : Rat) (w : World) (hq : fits q = true) (hE : Env w) : Calls Tryz.prog 80 #[fracV q] w fun e w' => e = .returned (.int .i64 (cmpR q 0)) ∧ Below w.heap.size w w' := by
 have T1 := hid (fun W g => of_any 0 W (by decide) (by decide) g)
 have T2 := hid (fun W => compare_q q 0 W hq fits_zero)
 rw [show ((0 : Int) : Rat) = 0 from rfl, fracV_is 0] at T1
 rw [fracV_is q, fracV_is 0] at T2
 rw [fracV_is q]
 obtain ⟨cc, hcc⟩ : ∃ c, cmpR q 0 = c := ⟨_, rfl⟩
 rw [hcc] at T2 ⊢
 have hb : Below w.heap.size w (w.alloc (.cells #[.string (numS q), .string (denS q)] 30)) := (Below.refl _ _).alloc (Nat.le_refl _) _
 have HX := hid (drew_block (heap_alloc_new w (.cells #[.string (numS q), .string (denS q)] 30)))
 have HL := hid hb.drew
 have HE := hid (hE.below hb.drew)
 obtain ⟨W0, hW0⟩ : ∃ W0, w.alloc (.cells #[.string (numS q), .string (denS q)] 30) = W0 := ⟨_, rfl⟩
 rw [hW0] at HX HL HE
 have HW := hid hW0
 clear hb hE hq hcc hW0
 go_enter Tryz.func80, Tryz.ntmps80
 go_wp2_with fail
 rw [HW.out]
 go_region_held3 (fun W => W.cell? ⟨w.heap.size, 0, none⟩ = some (.string (numS q)) ∧ W.cell? ⟨w.heap.size, 1, none⟩ = some (.string (denS q)))
  (first | (with_reducible exact cells2 HX.out) | fail)
  ((first | (go_at_call 79; (with_reducible refine (T1.out _ HE.out.tab).mono ?_); rintro e W1 ⟨rfl, hb⟩; replace HX := hid (keep_block HX.out hb); replace HL := hid (HL.out.trans (hb.mono HL.out.size)); clear hb) | (go_at_call 141; (with_reducible refine (T2.out _).mono ?_); rintro e W2 ⟨rfl, hb⟩; replace HX := hid (keep_block HX.out hb); replace HL := hid (HL.out.trans (hb.mono HL.out.size)); clear hb)))
 all_goals
  go_wp2
  go_ret
  exact ⟨rfl, HL.out⟩
end Num
namespace Num
open Go.RowKit Go.Lib
end Num
end Go.Proofs.YtjcdeeahjkfmoaaGreatDoor
