/- The walk of csv.Parse. Conditions: the text has at most 400 bytes. -/
import Derived.Test.YtjndiielolphgaaDoorCsvFieldAll
import Derived.Test.YtjndiielolphgaaDoorCsvRows
namespace Go.Proofs.YtjndiielolphgaaDoor
open Go.RowKit

theorem Tryd.infoStr : (Tryd.prog.info? 9).map (fun i => (i.zero, i.size, i.bytes)) = some (some (.string { data := #[] }), 1, 16) := by kernel_rfl
theorem Tryd.infoStrs : (Tryd.prog.info? 35).map (fun i => (i.zero, i.size, i.bytes)) = some (some (.slice none 0 0), 1, 24) := by kernel_rfl

/-- what holds at the head of a round of the loop over fields: place p, fields so far acc in v; W0: the world in which the record began -/
structure FInv (s : ByteArray) (sep : Int) (c : UInt8) (K : Nat) (W0 : World) (R : Option (List Csv.Bytes × Nat)) (p : Nat) (acc : List Csv.Bytes) (v : Value) (wx : World) : Prop where
  le : p ≤ s.size
  heap : wx.heap[K]? = some (.cells #[.string s, .int .i64 p, .int .u8 sep] 78 (0, 0))
  only : W0.grownBy wx (some K)
  own : OwnStrs 9 W0.heap.size v acc wx
  len : acc.length ≤ p
  val : ∃ fuel, s.size < p + fuel ∧ Csv.record c fuel (s.data.toList.drop p) p acc = R

/-- what holds at the head of a round of the loop over records -/
structure PInv (s : ByteArray) (sep : Int) (c : UInt8) (K : Nat) (w : World) (R : Csv.Res) (p : Nat) (rows : List (List Csv.Bytes)) (v : Value) (wx : World) : Prop where
  le : p ≤ s.size
  heap : wx.heap[K]? = some (.cells #[.string s, .int .i64 p, .int .u8 sep] 78 (0, 0))
  below : Below K w wx
  own : OwnRows 35 9 K v rows wx
  len : rows.length ≤ p
  val : ∃ fuel, s.size < p + fuel ∧ Csv.parse c s.data.toList fuel p rows = R

def ParsePost (w : World) (R : Csv.Res) (e : Ending) (w' : World) : Prop :=
  Below w.heap.size w w' ∧
  match R with
  | .ok rows => ∃ v, e = .returned (.tuple #[v, .int .i64 0, .int .i64 0]) ∧ OwnRows 35 9 w.heap.size v rows w' ∧ rows.length ≤ 4000000000
  | .bad at_ => e = .returned (.tuple #[.slice none 0 0, .int .i64 at_, .int .i64 10])

theorem kind_reader {S : TypeId} (hS : 78 ≠ S) {a b : World} {K : Nat} {cs : Array Value} (h : a.grownBy b (some K)) (hk : a.heap[K]? = some (.cells cs 78 (0, 0))) : KeepKind S a b :=
  KeepKind.only h (fun g e _ => by cases e; exact ⟨_, _, hk⟩) hS

theorem ends_facts (l : Csv.Bytes) (k : Nat) (h : Csv.ends l = some k) : (k = 0 → l = []) ∧ k ≤ l.length := by
  cases l with
  | nil => simp [Csv.ends] at h; exact ⟨fun _ => rfl, by omega⟩
  | cons c r =>
    simp only [Csv.ends] at h
    split at h
    · simp at h; exact ⟨fun h0 => by omega, by simp; omega⟩
    · split at h
      · rename_i hh
        simp at h
        refine ⟨fun h0 => by omega, ?_⟩
        cases r with
        | nil => simp at hh
        | cons d t => simp; omega
      · cases h

theorem record_stop {c : UInt8} {fuel : Nat} {s : Csv.Bytes} {q n : Nat} {acc : List Csv.Bytes} {v : Csv.Bytes} {R1 : Option (List Csv.Bytes × Nat)} {N : Nat} (hN : N < q + fuel) (hq : q ≤ N)
    (h : Csv.record c fuel s q acc = R1) (hf : Csv.field c s = some (v, n)) (hh : (s.drop n).head? ≠ some c) : R1 = some (acc ++ [v], q + n) := by
  obtain ⟨f, rfl⟩ : ∃ f, fuel = f + 1 := ⟨fuel - 1, by omega⟩
  rw [← h]
  simp only [Csv.record, hf, hh, if_false]

theorem record_go {c : UInt8} {fuel : Nat} {s : Csv.Bytes} {q n : Nat} {acc : List Csv.Bytes} {v : Csv.Bytes} {R1 : Option (List Csv.Bytes × Nat)} {N : Nat} (hN : N < q + fuel) (hq : q ≤ N)
    (h : Csv.record c fuel s q acc = R1) (hf : Csv.field c s = some (v, n)) (hh : (s.drop n).head? = some c) : ∃ f, N < q + n + 1 + f ∧ Csv.record c f (s.drop (n + 1)) (q + n + 1) (acc ++ [v]) = R1 := by
  obtain ⟨f, rfl⟩ : ∃ f, fuel = f + 1 := ⟨fuel - 1, by omega⟩
  refine ⟨f, by omega, ?_⟩
  rw [← h]
  simp only [Csv.record, hf, hh, if_true]

theorem record_none {c : UInt8} {fuel : Nat} {s : Csv.Bytes} {q : Nat} {acc : List Csv.Bytes} {R1 : Option (List Csv.Bytes × Nat)} {N : Nat} (hN : N < q + fuel) (hq : q ≤ N)
    (h : Csv.record c fuel s q acc = R1) (hf : Csv.field c s = none) : R1 = none := by
  obtain ⟨f, rfl⟩ : ∃ f, fuel = f + 1 := ⟨fuel - 1, by omega⟩
  rw [← h]
  simp only [Csv.record, hf]

theorem parse_none {c : UInt8} {fuel : Nat} {l : Csv.Bytes} {p : Nat} {rows : List (List Csv.Bytes)} {R : Csv.Res} {N : Nat} (hN : N < p + fuel) (hp : p < N) (hl : l.length = N)
    (h : Csv.parse c l fuel p rows = R) (hr : Csv.record c (N + 1) (l.drop p) p [] = none) : R = .bad N := by
  obtain ⟨f, rfl⟩ : ∃ f, fuel = f + 1 := ⟨fuel - 1, by omega⟩
  subst hl
  rw [← h]
  simp only [Csv.parse, hp, if_true, hr]

theorem parse_bad {c : UInt8} {fuel : Nat} {l : Csv.Bytes} {p m : Nat} {row : List Csv.Bytes} {rows : List (List Csv.Bytes)} {R : Csv.Res} {N : Nat} (hN : N < p + fuel) (hp : p < N) (hl : l.length = N)
    (h : Csv.parse c l fuel p rows = R) (hr : Csv.record c (N + 1) (l.drop p) p [] = some (row, m)) (he : Csv.ends (l.drop m) = none) : R = .bad (if (l.drop m).head? = some 13 then m + 1 else m) := by
  obtain ⟨f, rfl⟩ : ∃ f, fuel = f + 1 := ⟨fuel - 1, by omega⟩
  subst hl
  rw [← h]
  simp only [Csv.parse, hp, if_true, hr, he]

theorem parse_go {c : UInt8} {fuel : Nat} {l : Csv.Bytes} {p m k : Nat} {row : List Csv.Bytes} {rows : List (List Csv.Bytes)} {R : Csv.Res} {N : Nat} (hN : N < p + fuel) (hp : p < N) (hl : l.length = N) (hpm : p ≤ m) (hm : m ≤ N)
    (h : Csv.parse c l fuel p rows = R) (hr : Csv.record c (N + 1) (l.drop p) p [] = some (row, m)) (he : Csv.ends (l.drop m) = some k) :
    p < m + k ∧ m + k ≤ N ∧ ∃ f, N < m + k + f ∧ Csv.parse c l f (m + k) (rows ++ [row]) = R := by
  obtain ⟨f, rfl⟩ : ∃ f, fuel = f + 1 := ⟨fuel - 1, by omega⟩
  subst hl
  obtain ⟨e1, e2⟩ := ends_facts _ _ he
  have hgt : p < m + k := by
    rcases Nat.eq_zero_or_pos k with h0 | h0
    · have := congrArg List.length (e1 h0); simp at this; omega
    · omega
  simp at e2
  refine ⟨hgt, by omega, f, by omega, ?_⟩
  rw [← h]
  simp only [Csv.parse, hp, if_true, hr, he]

theorem parse_done {c : UInt8} {fuel : Nat} {l : Csv.Bytes} {p : Nat} {rows : List (List Csv.Bytes)} {R : Csv.Res} {N : Nat} (hN : N < p + fuel) (hp : ¬ p < N) (hp2 : p ≤ N) (hl : l.length = N)
    (h : Csv.parse c l fuel p rows = R) : R = .ok rows := by
  obtain ⟨f, rfl⟩ : ∃ f, fuel = f + 1 := ⟨fuel - 1, by omega⟩
  subst hl
  rw [← h]
  simp only [Csv.parse, hp, if_false]

set_option maxHeartbeats 4000000 in
set_option maxRecDepth 100000 in
theorem parse_any (s : ByteArray) (sep : Int) (c : UInt8) (w : World) (hs : s.size ≤ 4000000000) (hc : SepFacts sep c) (hc2 : c.toNat < 128) (hsep : isSep sep = true) (R : Csv.Res)
    (hR : Csv.parse c s.data.toList (s.size + 1) 0 [] = R) :
    Calls Tryd.prog 20 #[.string s, .int .u8 sep] w (ParsePost w R) := by
  have HC := Lib.hid hc; clear hc
  have HR := Lib.hid hR; clear hR
  have HS := Lib.hid hsep; clear hsep
  obtain ⟨K, hK⟩ : ∃ K, w.heap.size = K := ⟨_, rfl⟩
  have HK := Lib.hid hK
  go_enter Tryd.func20, Tryd.ntmps20
  go_wp2_with (go_at_call 28; refine (csvSep_any _ _).mono ?_; rintro e w' ⟨rfl, hw⟩; rw [hw, HS.out])
  go_loopg [8] s.size (fun g v wx => ∃ (p : Nat) (rows : List (List Csv.Bytes)), s.size ≤ p + g ∧ PInv s sep c K w R p rows v wx)
  case atStart =>
    refine ⟨0, [], by omega, ⟨by omega, ?_, ?_, OwnRows.nil _ _ _ _, by simp, s.size + 1, by omega, HR.out⟩⟩
    · exact alloc_at _ _ _ HK.out
    · rw [← HK.out]; exact (Below.refl _ _).alloc (Nat.le_refl _) _
  case round =>
    obtain ⟨p, rows, hp, hinv⟩ := hrel
    have HI := Lib.hid hinv
    have c0 := Lib.cell_of_heap hinv.heap 0
    have c1 := Lib.cell_of_heap hinv.heap 1
    have cf := Lib.frozen_of_heap hinv.heap 1
    have hle := hinv.le
    simp at c0 c1
    clear hinv
    by_cases hlt : p < s.size
    · obtain ⟨R1, hR1⟩ : ∃ R1, Csv.record c (s.size + 1) (s.data.toList.drop p) p [] = R1 := ⟨_, rfl⟩
      have HR1 := Lib.hid hR1; clear hR1
      have hp' : s.size ≤ p + s.size := by omega
      go_wp2
      obtain ⟨gkO, rfl⟩ : ∃ g : Nat, g = gk := ⟨_, rfl⟩
      obtain ⟨W0, rfl⟩ : ∃ W0 : World, W0 = wr := ⟨_, rfl⟩
      obtain ⟨H0, hH0⟩ : ∃ H0, W0.heap.size = H0 := ⟨_, rfl⟩
      have HH0 := Lib.hid hH0; clear hH0
      have hKH0 : K < H0 := by rw [← HH0.out]; exact heap_lt HI.out.heap
      go_loopg [9] s.size (fun g v2 wx => ∃ (q : Nat) (acc : List Csv.Bytes), s.size ≤ q + g ∧ p ≤ q ∧ FInv s sep c K W0 R1 q acc v2 wx)
      case atStart => exact ⟨p, [], hp', Nat.le_refl _, ⟨hle, HI.out.heap, only_refl _ _, OwnStrs.nil _ _ _, by simp, s.size + 1, by omega, HR1.out⟩⟩
      case round =>
        obtain ⟨q, acc, hq, hpq, hinv2⟩ := hrel
        have HF := Lib.hid hinv2
        have hK1 : K < wr.heap.size := heap_lt hinv2.heap
        have hqle := hinv2.le
        have halen := hinv2.len
        clear hinv2 c0 c1 cf
        cases hfe : Csv.field c (s.data.toList.drop q) with
        | none =>
          have HE := Lib.hid hfe; clear hfe
          go_wp2_with fail
          refine (field_any s q sep c K _ hs hqle HC.out hc2 (by exact HF.out.heap)).mono ?_
          rintro e w1 hpost
          rw [HE.out] at hpost
          obtain ⟨ho, rfl⟩ := hpost
          have hr1 : R1 = none := by
            obtain ⟨fuel, h1, h2⟩ := HF.out.val
            exact record_none h1 hqle h2 HE.out
          have hr2 : R = .bad s.size := by
            obtain ⟨fuel, h1, h2⟩ := HI.out.val
            exact parse_none h1 hlt (by simp) h2 (HR1.out.trans hr1)
          have HQ := Lib.hid hr2; clear hr1 hr2
          go_wp2
          go_ret3
          unfold ParsePost
          rw [HQ.out]
          have hb2 : Below K W0 w1 := below_of_only (only_trans HF.out.only ho) (Nat.le_refl _) (by rw [HH0.out]; omega)
          exact ⟨by rw [HK.out]; exact HI.out.below.trans hb2, rfl⟩
        | some x =>
          obtain ⟨v, n⟩ := x
          have HE := Lib.hid hfe; clear hfe
          have hn : n ≤ (s.data.toList.drop q).length := Csv.field_le c _ v n HE.out
          simp only [List.length_drop, Array.length_toList] at hn
          have hn : q + n ≤ s.size := by
            have : s.data.size = s.size := rfl
            omega
          obtain ⟨m, hm⟩ : ∃ m, q + n = m := ⟨_, rfl⟩
          have hqm : q ≤ m := by omega
          rw [hm] at hn
          go_wp2_with fail
          refine (field_any s q sep c K _ hs hqle HC.out hc2 (by exact HF.out.heap)).mono ?_
          rintro e w1 hpost
          rw [HE.out] at hpost
          obtain ⟨ho, rfl, hh⟩ := hpost
          simp only [hm] at hh
          have HM := Lib.hid hm; clear hm
          have HO := Lib.hid ho
          have hw1 : K < w1.heap.size := Nat.lt_of_lt_of_le hK1 ho.size
          have hH01 : H0 ≤ w1.heap.size := by rw [← HH0.out]; exact Nat.le_trans HF.out.only.size ho.size
          clear ho
          have hown1 : w1.ownsRow H0 9 1 u9 acc.length (strCells acc) := by
            have := HF.out.own.keep (kind_reader (by decide) HO.out HF.out.heap)
            rw [HH0.out] at this; exact this
          have HOwn1 := Lib.hid hown1
          have hnb : ∀ g, u9.ownBlock = some g → H0 ≤ g := fun g e => (hown1.lt g e).1
          have HNB := Lib.hid hnb; clear hnb
          have d0 := Lib.cell_of_heap hh 0
          have d1 := Lib.cell_of_heap hh 1
          have df := Lib.frozen_of_heap hh 1
          simp at d0 d1
          have HH := Lib.hid hh; clear hh
          obtain ⟨i0, hi, hz0, hz1, hz2⟩ := info_parts Tryd.infoStr
          go_wp2_with (at_builtin; refine wpList_append_own _ rfl _ _ 35 rfl H0 9 i0 (.string { data := #[] }) 1 16 Tryd.underlying35 hi hz0 hz1 hz2 rfl (by decide) u9 acc.length (strCells acc) rfl (hown1.alloc _) ⟨w1.heap.size, 0, none⟩ 1 1 [strV v] rfl rfl ?c1 ?c2 ?c3 ?c4 ?c5 ?_)
          case c1 => exact cell_one_new _ _ _
          case c2 => intro u hu; simp only [List.mem_singleton] at hu; subst hu; rfl
          case c3 => unfold maxLen; omega
          case c4 => omega
          case c5 => simp; omega
          intro v' w3 hown3 hgrow _
          have hw3K : w3.heap[K]? = some (.cells #[.string s, .int .i64 m, .int .u8 sep] 78 (0, 0)) := by
            rw [hgrow.block K (by simp; omega) (fun e => by have := HNB.out K e.symm; omega), Below.heap_alloc _ _ _ hw1]
            exact HH.out
          have hO3 : W0.grownBy w3 (some K) := by
            refine only_then (only_alloc (only_trans HF.out.only HO.out) _) hgrow (fun g e => .inr ?_)
            have := HNB.out g e; rw [HH0.out]; exact this
          have hown3' : OwnStrs 9 H0 v' (acc ++ [v]) w3 := by
            unfold OwnStrs; rw [strCells_snoc]; simpa using hown3
          have e0 := Lib.cell_of_heap hw3K 0
          have e1 := Lib.cell_of_heap hw3K 1
          have ef := Lib.frozen_of_heap hw3K 1
          simp at e0 e1
          clear hown1 hown3 hgrow d0 d1 df hi hz0 hz1 hz2
          have HW3 := Lib.hid hw3K; clear hw3K
          have HO3 := Lib.hid hO3; clear hO3
          have HOwn3 := Lib.hid hown3'; clear hown3'
          by_cases hms : m < s.size
          · obtain ⟨y, hy⟩ : ∃ y : UInt8, s[m]'hms = y := ⟨_, rfl⟩
            have hme : (m == s.size) = false := by rw [beq_eq_false_iff_ne]; omega
            by_cases hyc : y = c
            · have hyb : ((y.toNat : Int) != sep) = false := by rw [HC.out.num, hyc]; simp
              have HV : Hid (∃ fuel, s.size < m + 1 + fuel ∧ Csv.record c fuel (s.data.toList.drop (m + 1)) (m + 1) (acc ++ [v]) = R1) := by
                obtain ⟨fuel, h1, h2⟩ := HF.out.val
                obtain ⟨f, g1, g2⟩ := record_go h1 hqle h2 HE.out (by rw [Csv.drop_add, HM.out, drop_cons s m hms, hy, hyc]; rfl)
                rw [Csv.drop_add, HM.out, show q + (n + 1) = m + 1 by have := HM.out; omega] at g2
                rw [HM.out] at g1
                exact ⟨f, g1, g2⟩
              clear hyc
              have HY := Lib.hid hy
              go_wp2
              go_roundg (gk - 1)
              case measure => omega
              case rel =>
                have hqm : q + n = m := HM.out
                refine ⟨m + 1, acc ++ [v], by omega, by omega, ⟨by omega, ?_, ?_, ?_, by simp; omega, HV.out⟩⟩
                · exact (heap_setCell_at HW3.out 1 _).trans (by simp)
                · exact only_setCell HO3.out (.inl rfl) _
                · rw [HH0.out]
                  refine HOwn3.out.keep (kind_reader (by decide) (only_setCell (only_refl _ _) (.inl rfl) _) HW3.out)
            · have hyb : ((y.toNat : Int) != sep) = true := by
                rw [HC.out.num, bne_iff_ne]; intro h; exact hyc (UInt8.toNat_inj.1 (by omega))
              have hR1s : R1 = some (acc ++ [v], m) := by
                obtain ⟨fuel, h1, h2⟩ := HF.out.val
                rw [record_stop h1 hqle h2 HE.out (by rw [Csv.drop_add, HM.out, drop_cons s m hms, hy]; simpa using hyc), HM.out]
              have HRS := Lib.hid hR1s; clear hR1s hyc
              cases hen : Csv.ends (s.data.toList.drop m) with
              | none =>
                have hbad : R = .bad (if y = 13 then m + 1 else m) := by
                  obtain ⟨fuel, h1, h2⟩ := HI.out.val
                  rw [parse_bad h1 hlt (by simp) h2 (HR1.out.trans HRS.out) hen, drop_cons s m hms, hy]
                  simp
                have HBAD := Lib.hid hbad; clear hbad
                have HEN := Lib.hid hen; clear hen
                go_wp2_with fail
                clear e0 e1 ef
                refine (end_any s m sep K _ hs hn (by exact HW3.out)).mono ?_
                rintro e w4 hpost4
                rw [HEN.out] at hpost4
                obtain ⟨ho4, rfl, hh4⟩ := hpost4
                have f0 := Lib.cell_of_heap hh4 0
                have f1 := Lib.cell_of_heap hh4 1
                have ff := Lib.frozen_of_heap hh4 1
                simp at f0 f1
                have hB4 : Below K w w4 := HI.out.below.trans (below_of_only (only_trans HO3.out ho4) (Nat.le_refl _) (by rw [HH0.out]; omega))
                have HB4 := Lib.hid hB4; clear hB4 ho4 hh4
                by_cases hy13 : y = 13
                · have hyb : ((y.toNat : Int) == 13) = true := by subst hy13; rfl
                  rw [if_pos hy13] at HBAD
                  clear hy13
                  go_wp2
                  go_quiet (fail)
                  go_wp2
                  go_ret3
                  unfold ParsePost
                  rw [HBAD.out, HK.out]
                  exact ⟨below_drewN (HB4.out.setCell (by exact Nat.le_refl _) _) _, rfl⟩
                · have hyb : ((y.toNat : Int) == 13) = false := by
                    rw [beq_eq_false_iff_ne]; intro h; exact hy13 (UInt8.toNat_inj.1 (by show y.toNat = 13; omega))
                  rw [if_neg hy13] at HBAD
                  clear hy13
                  go_wp2
                  go_quiet (fail)
                  go_wp2
                  go_ret3
                  unfold ParsePost
                  rw [HBAD.out, HK.out]
                  exact ⟨below_drewN HB4.out _, rfl⟩
              | some k =>
                have hgo : p < m + k ∧ m + k ≤ s.size ∧ ∃ f, s.size < m + k + f ∧ Csv.parse c s.data.toList f (m + k) (rows ++ [acc ++ [v]]) = R := by
                  obtain ⟨fuel, h1, h2⟩ := HI.out.val
                  exact parse_go h1 hlt (by simp) (by omega) hn h2 (HR1.out.trans HRS.out) hen
                obtain ⟨hg1, hg2, hg3⟩ := hgo
                have HG := Lib.hid hg3; clear hg3
                have HEN := Lib.hid hen; clear hen
                have hrlen := HI.out.len
                go_wp2_with fail
                clear e0 e1 ef
                refine (end_any s m sep K _ hs hn (by exact HW3.out)).mono ?_
                rintro e w4 hpost4
                rw [HEN.out] at hpost4
                obtain ⟨ho4, rfl, hh4⟩ := hpost4
                have hk31 : KeepKind 35 W0 w4 := kind_reader (by decide) (only_trans HO3.out ho4) HI.out.heap
                have hk9 : KeepKind 9 W0 w4 := kind_reader (by decide) (only_trans HO3.out ho4) HI.out.heap
                have hB4 : Below K w w4 := HI.out.below.trans (below_of_only (only_trans HO3.out ho4) (Nat.le_refl _) (by rw [HH0.out]; omega))
                have hown4 : OwnStrs 9 H0 v' (acc ++ [v]) w4 := HOwn3.out.keep (kind_reader (by decide) ho4 HW3.out)
                obtain ⟨vs, hv1, hv2⟩ := HI.out.own
                have hv3 := hk31.owns hv1
                have hv4 := hv2.keep hk9
                have hu : v'.oneCell' = true := owns_oneCell hown4
                have hK4 : K < w4.heap.size := heap_lt hh4
                have HU := Lib.hid hu; clear hu
                have HV3 := Lib.hid hv3
                have HV4 := Lib.hid hv4
                have HOwn4 := Lib.hid hown4
                have HB4 := Lib.hid hB4
                have HH4 := Lib.hid hh4
                have hform : ∃ a cap, v' = .slice a (acc.length + 1) cap := by
                  have := owns_form hown4; simpa using this
                obtain ⟨av, cv, hvform⟩ := hform
                subst hvform
                clear hk31 hk9 hB4 hown4 hv1 hv2 hv4 ho4 hh4
                obtain ⟨i1, hi, hz0, hz1, hz2⟩ := info_parts Tryd.infoStrs
                go_wp2_with (at_builtin; refine wpList_append_own _ rfl _ _ 31 rfl K 35 i1 (.slice none 0 0) 1 24 Tryd.underlying31 hi hz0 hz1 hz2 rfl (by decide) u8 rows.length vs rfl (hv3.alloc _) ⟨w4.heap.size, 0, none⟩ 1 1 [.slice av (acc.length + 1) cv] rfl rfl ?c1 ?c2 ?c3 ?c4 ?c5 ?_)
                case c1 => exact cell_one_new _ _ _
                case c2 => intro u hu; simp only [List.mem_singleton] at hu; subst hu; exact HU.out
                case c3 => unfold maxLen; omega
                case c4 => omega
                case c5 => simp; omega
                intro v5 w5 hown5 hgrow5 _
                have hb5 : ∀ g, u8.ownBlock = some g → K ≤ g ∧ ∃ c fz, (w4.alloc (.cells #[.slice av (acc.length + 1) cv] 35)).heap[g]? = some (.cells c 35 fz) := fun g e => ⟨(HV3.out.lt g e).1, owns_kind (HV3.out.alloc _) g e⟩
                have hk9' : KeepKind 9 w4 w5 := by
                  refine KeepKind.trans (b := w4.alloc (.cells #[.slice av (acc.length + 1) cv] 35)) (fun k c fz h => (Below.heap_alloc _ _ _ (heap_lt h)).trans h) ?_
                  exact KeepKind.only hgrow5 (fun g e _ => (hb5 g e).2) (by decide)
                have hh5 : w5.heap[K]? = some (.cells #[.string s, .int .i64 (m + k : Nat), .int .u8 sep] 78 (0, 0)) := by
                  rw [hgrow5.block K (by simp; omega) (fun e => by
                    obtain ⟨_, c, fz, h⟩ := hb5 K e.symm
                    rw [Below.heap_alloc _ _ _ hK4, HH4.out] at h
                    simp at h), Below.heap_alloc _ _ _ hK4]
                  exact HH4.out
                have hB5 : Below K w w5 := (HB4.out.alloc (Nat.le_of_lt hK4) _).grown hgrow5 (by simp; omega) (fun g e => (hb5 g e).1)
                have hO5 : OwnRows 35 9 K v5 (rows ++ [acc ++ [v]]) w5 :=
                  ⟨vs ++ [.slice av (acc.length + 1) cv], by simpa using hown5, RowsHold.snoc ((HOwn4.out.keep hk9').mono (Nat.le_of_lt hKH0)) (HV4.out.keep hk9')⟩
                have HP : Hid (PInv s sep c K w R (m + k) (rows ++ [acc ++ [v]]) v5 w5) := ⟨hg2, hh5, hB5, hO5, by simp; omega, HG.out⟩
                clear hown5 hgrow5 hb5 hk9' hh5 hB5 hO5 hi hz0 hz1 hz2
                go_wp2
                go_roundg (gkO - 1)
                case measure => omega
                case rel => exact ⟨m + k, rows ++ [acc ++ [v]], by omega, HP.out⟩
          · obtain rfl : m = s.size := by omega
            have hR1s : R1 = some (acc ++ [v], s.size) := by
              obtain ⟨fuel, h1, h2⟩ := HF.out.val
              rw [record_stop h1 hqle h2 HE.out (by rw [Csv.drop_add, HM.out, List.drop_of_length_le (by simp)]; simp), HM.out]
            have HRS := Lib.hid hR1s; clear hR1s
            cases hen : Csv.ends (s.data.toList.drop s.size) with
            | none =>
              rw [List.drop_of_length_le (by simp)] at hen
              simp [Csv.ends] at hen
            | some k =>
              have hgo : p < s.size + k ∧ s.size + k ≤ s.size ∧ ∃ f, s.size < s.size + k + f ∧ Csv.parse c s.data.toList f (s.size + k) (rows ++ [acc ++ [v]]) = R := by
                obtain ⟨fuel, h1, h2⟩ := HI.out.val
                exact parse_go h1 hlt (by simp) (by omega) hn h2 (HR1.out.trans HRS.out) hen
              obtain ⟨hg1, hg2, hg3⟩ := hgo
              have HG := Lib.hid hg3; clear hg3
              have HEN := Lib.hid hen; clear hen
              have hrlen := HI.out.len
              go_wp2_with fail
              clear e0 e1 ef
              refine (end_any s s.size sep K _ hs hn (by exact HW3.out)).mono ?_
              rintro e w4 hpost4
              rw [HEN.out] at hpost4
              obtain ⟨ho4, rfl, hh4⟩ := hpost4
              have hk31 : KeepKind 35 W0 w4 := kind_reader (by decide) (only_trans HO3.out ho4) HI.out.heap
              have hk9 : KeepKind 9 W0 w4 := kind_reader (by decide) (only_trans HO3.out ho4) HI.out.heap
              have hB4 : Below K w w4 := HI.out.below.trans (below_of_only (only_trans HO3.out ho4) (Nat.le_refl _) (by rw [HH0.out]; omega))
              have hown4 : OwnStrs 9 H0 v' (acc ++ [v]) w4 := HOwn3.out.keep (kind_reader (by decide) ho4 HW3.out)
              obtain ⟨vs, hv1, hv2⟩ := HI.out.own
              have hv3 := hk31.owns hv1
              have hv4 := hv2.keep hk9
              have hu : v'.oneCell' = true := owns_oneCell hown4
              have hK4 : K < w4.heap.size := heap_lt hh4
              have HU := Lib.hid hu; clear hu
              have HV3 := Lib.hid hv3
              have HV4 := Lib.hid hv4
              have HOwn4 := Lib.hid hown4
              have HB4 := Lib.hid hB4
              have HH4 := Lib.hid hh4
              have hform : ∃ a cap, v' = .slice a (acc.length + 1) cap := by
                have := owns_form hown4; simpa using this
              obtain ⟨av, cv, hvform⟩ := hform
              subst hvform
              clear hk31 hk9 hB4 hown4 hv1 hv2 hv4 ho4 hh4
              obtain ⟨i1, hi, hz0, hz1, hz2⟩ := info_parts Tryd.infoStrs
              go_wp2_with (at_builtin; refine wpList_append_own _ rfl _ _ 31 rfl K 35 i1 (.slice none 0 0) 1 24 Tryd.underlying31 hi hz0 hz1 hz2 rfl (by decide) u8 rows.length vs rfl (hv3.alloc _) ⟨w4.heap.size, 0, none⟩ 1 1 [.slice av (acc.length + 1) cv] rfl rfl ?c1 ?c2 ?c3 ?c4 ?c5 ?_)
              case c1 => exact cell_one_new _ _ _
              case c2 => intro u hu; simp only [List.mem_singleton] at hu; subst hu; exact HU.out
              case c3 => unfold maxLen; omega
              case c4 => omega
              case c5 => simp; omega
              intro v5 w5 hown5 hgrow5 _
              have hb5 : ∀ g, u8.ownBlock = some g → K ≤ g ∧ ∃ c fz, (w4.alloc (.cells #[.slice av (acc.length + 1) cv] 35)).heap[g]? = some (.cells c 35 fz) := fun g e => ⟨(HV3.out.lt g e).1, owns_kind (HV3.out.alloc _) g e⟩
              have hk9' : KeepKind 9 w4 w5 := by
                refine KeepKind.trans (b := w4.alloc (.cells #[.slice av (acc.length + 1) cv] 35)) (fun k c fz h => (Below.heap_alloc _ _ _ (heap_lt h)).trans h) ?_
                exact KeepKind.only hgrow5 (fun g e _ => (hb5 g e).2) (by decide)
              have hh5 : w5.heap[K]? = some (.cells #[.string s, .int .i64 (s.size + k : Nat), .int .u8 sep] 78 (0, 0)) := by
                rw [hgrow5.block K (by simp; omega) (fun e => by
                  obtain ⟨_, c, fz, h⟩ := hb5 K e.symm
                  rw [Below.heap_alloc _ _ _ hK4, HH4.out] at h
                  simp at h), Below.heap_alloc _ _ _ hK4]
                exact HH4.out
              have hB5 : Below K w w5 := (HB4.out.alloc (Nat.le_of_lt hK4) _).grown hgrow5 (by simp; omega) (fun g e => (hb5 g e).1)
              have hO5 : OwnRows 35 9 K v5 (rows ++ [acc ++ [v]]) w5 :=
                ⟨vs ++ [.slice av (acc.length + 1) cv], by simpa using hown5, RowsHold.snoc ((HOwn4.out.keep hk9').mono (Nat.le_of_lt hKH0)) (HV4.out.keep hk9')⟩
              have HP : Hid (PInv s sep c K w R (s.size + k) (rows ++ [acc ++ [v]]) v5 w5) := ⟨hg2, hh5, hB5, hO5, by simp; omega, HG.out⟩
              clear hown5 hgrow5 hb5 hk9' hh5 hB5 hO5 hi hz0 hz1 hz2
              go_wp2
              go_roundg (gkO - 1)
              case measure => omega
              case rel => exact ⟨s.size + k, rows ++ [acc ++ [v]], by omega, HP.out⟩
    · have hlt' : decide ((p : Int) < (s.size : Int)) = false := decide_eq_false (by omega)
      have hdone : R = .ok rows := by
        obtain ⟨fuel, h1, h2⟩ := HI.out.val
        exact parse_done h1 hlt hle (by simp) h2
      have HD := Lib.hid hdone; clear hdone
      go_wp2
      go_ret3
      unfold ParsePost
      rw [HD.out, HK.out]
      exact ⟨HI.out.below, _, rfl, HI.out.own, by have := HI.out.len; omega⟩
end Go.Proofs.YtjndiielolphgaaDoor
