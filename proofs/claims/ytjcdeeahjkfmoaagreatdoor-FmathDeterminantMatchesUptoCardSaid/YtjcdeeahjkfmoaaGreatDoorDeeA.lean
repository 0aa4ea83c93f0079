/- Contracts of the program's functions, joined from smaller texts. Conditions stand at each theorem. -/
import Derived.Test.YtjcdeeahjkfmoaaGreatDoorDedB
import Derived.Deep.DeepCutAuto
import Derived.Test.YtjcdeeahjkfmoaaGreatDoorNumF
set_option linter.unusedVariables false
set_option linter.unusedSimpArgs false
set_option maxRecDepth 100000
set_option maxHeartbeats 16000000
namespace Go.Proofs.YtjcdeeahjkfmoaaGreatDoor
namespace Num
open Go.RowKit Go.Lib
structure FormOk (v : Val) : Prop where
 k0 : 0 ≤ v.k
 k5 : v.k ≤ 5
 num : v.k = 1 ∨ (v.n = ⟨#[]⟩ ∧ v.d = ⟨#[]⟩)
 text : v.k = 2 ∨ v.t = ⟨#[]⟩
 on : v.k = 3 ∨ v.on = false
 code : v.k = 4 ∨ v.c = 0
 items : v.k = 5 ∨ (v.r = 0 ∧ v.s = 0 ∧ v.L = 0)
theorem or_split {p : Prop} [Decidable p] {z : Bool} (h : (decide p || z) = true) : p ∨ z = true := by
 by_cases hp : p
 ·exact .inl hp
 ·rw [decide_eq_false hp, Bool.false_or] at h; exact .inr h
structure SingleOk (v : Val) : Prop where
 form : FormOk v
 one : v.k ≠ 5
 num : v.k = 1 → ∃ q, fits q = true ∧ v.n = numS q ∧ v.d = denS q
 text : v.k = 2 → TextGood v.t
 code : v.k = 4 → 1 ≤ v.c ∧ v.c ≤ 8
structure ValOk (v : Val) (vs : List Val) : Prop where
 form : FormOk v
 single : v.k ≠ 5 → SingleOk v
 size : v.k = 5 → 1 ≤ v.r ∧ v.r ≤ 100000 ∧ 1 ≤ v.s ∧ v.s ≤ 100000 ∧ v.r * v.s = (v.L : Int)
 items : v.k = 5 → ∀ x ∈ vs, SingleOk x
theorem ValOk.of_single {v : Val} {vs : List Val} (h : SingleOk v) : ValOk v vs := ⟨h.form, fun _ => h, fun e => absurd e h.one, fun e => absurd e h.one⟩
theorem single_num {v : Val} (hf : FormOk v) (hk : v.k = 1) (h : ∃ q, fits q = true ∧ v.n = numS q ∧ v.d = denS q) : SingleOk v := ⟨hf, by omega, fun _ => h, fun e => by omega, fun e => by omega⟩
theorem single_text {v : Val} (hf : FormOk v) (hk : v.k = 2) (h : TextGood v.t) : SingleOk v := ⟨hf, by omega, fun e => by omega, fun _ => h, fun e => by omega⟩
theorem single_code {v : Val} (hf : FormOk v) (hk : v.k = 4) (h : 1 ≤ v.c ∧ v.c ≤ 8) : SingleOk v := ⟨hf, by omega, fun e => by omega, fun e => by omega, fun _ => h⟩
theorem single_other {v : Val} (hf : FormOk v) (h1 : ¬ v.k = 1) (h2 : ¬ v.k = 2) (h4 : ¬ v.k = 4) (h5 : ¬ v.k = 5) : SingleOk v := ⟨hf, h5, fun e => absurd e h1, fun e => absurd e h2, fun e => absurd e h4⟩
def VRet (w : World) (P : Prop) : Ending → World → Prop := fun e w' => ∃ c : Int, e = .returned (.int .i64 c) ∧ Below w.heap.size w w' ∧ (c = 0 → P)
theorem VRet.no {w w' : World} {P : Prop} {c : Int} (hc : c ≠ 0) (hb : Below w.heap.size w w') : VRet w P (.returned (.int .i64 c)) w' := ⟨c, rfl, hb, fun h => absurd h hc⟩
def ItemsAt (w : World) (v : Val) (vs : List Val) : Prop := 0 < v.L → ∃ g o, v.A = some ⟨g, o, none⟩ ∧ vs.length = v.L ∧ ValsAt w g o vs
theorem ItemsAt.below {w w' : World} {v : Val} {vs : List Val} (h : ItemsAt w v vs) (hb : Below w.heap.size w w') : ItemsAt w' v vs := fun h0 => by
 obtain ⟨g, o, h1, h2, h3⟩ := h h0
 exact ⟨g, o, h1, h2, h3.below hb⟩
theorem ba_empty {s : ByteArray} (h : s.toList = []) : s = ⟨#[]⟩ := by
 rw [ByteArray.toList_eq] at h
 exact ByteArray.ext (Array.toList_inj.1 h)
theorem ba_isEmpty {s : ByteArray} (h : s.toList.isEmpty = true) : s = ⟨#[]⟩ := ba_empty (List.isEmpty_iff.1 h)
theorem only_any (i k : Int) (z : Bool) (p : Nat) (w : World) (hk : w.cell? ⟨p, 0, none⟩ = some (.int .i64 k)) :
  Calls Tryz.prog 46 #[.int .i64 i, .bool z, .pointer (some ⟨p, 0, none⟩)] w fun e w' => e = .returned (.bool (decide (k = i) || z)) ∧ w' = w := by
 by_cases h : k = i
 ·subst h
  have q : decide (k = k) = true := decide_eq_true rfl
  rw [q, Bool.true_or]
  go_enter Tryz.func46, Tryz.ntmps46
  go_wp2
  go_ret
  exact ⟨rfl, rfl⟩
 ·have q : decide (k = i) = false := decide_eq_false h
  have q2 : (k == i) = false := by rw [beq_eq_false_iff_ne]; exact h
  rw [q, Bool.false_or]
  go_enter Tryz.func46, Tryz.ntmps46
  go_wp2
  go_ret
  exact ⟨rfl, rfl⟩
theorem rval_gen0 (k : Int) (n d t : ByteArray) (on : Bool) (c r s : Int) (A : Option Addr) (L C : Nat) (vs : List Val) (w : World) (k0 : 0 ≤ k) (k5 : k ≤ 5) (hn9 : n.size ≤ 1000000000) (hd9 : d.size ≤ 1000000000) (ht9 : t.size ≤ 1000000000) (hE : EnvR w) (hv : k = 5 → ItemsAt w ⟨k, n, d, t, on, c, r, s, A, L, C⟩ vs) (hT : ∀ x ∈ vs, x.k ≠ 5 → ∀ W, EnvR W → Calls Tryz.prog 16 #[x.agg] W (VRet W (SingleOk x))) :
  Calls Tryz.prog 16 #[.agg #[.int .i64 k, .string n, .string d, .string t, .bool on, .int .i64 c, .int .i64 r, .int .i64 s, .slice A L C]] w (VRet w (ValOk ⟨k, n, d, t, on, c, r, s, A, L, C⟩ vs)) := by
 have T1 := hid (fun W => fracErr_any n d W hn9 hd9)
 have T2 := hid (fun W => rtextErr_any t W ht9)
 have HT := hid hT
 have HVV := hid hv
 clear hn9 hd9 ht9 hT hv
 have q0 : decide (k < 0) = false := decide_eq_false (by omega)
 have q5 : decide (5 < k) = false := decide_eq_false (by omega)
 obtain ⟨qHX, hb⟩ := rone_new w (.cells #[.int .i64 k, .string n, .string d, .string t, .bool on, .int .i64 c, .int .i64 r, .int .i64 s, .slice A L C] 32)
 have HX := hid qHX
 have HE := hid ((hE).below hb)
 have HL := hid hb
 clear hb qHX hE
 obtain ⟨W0, hW0⟩ : ∃ W0, (w.alloc (.cells #[.int .i64 k, .string n, .string d, .string t, .bool on, .int .i64 c, .int .i64 r, .int .i64 s, .slice A L C] 32)) = W0 := ⟨_, rfl⟩
 rw [hW0] at HL HX HE
 have HW := hid hW0
 clear hW0
 go_enter Tryz.func16, Tryz.ntmps16
 go_upto_region 1 with fail
 rw [HW.out]
 obtain ⟨⟨cHX0, cHX1, cHX2, cHX3, cHX4, cHX5, cHX6, cHX7, cHX8⟩, fHX0, fHX1, fHX2, fHX3, fHX4, fHX5, fHX6, fHX7, fHX8⟩ := nine_at HX.out
 go_upto_region 4 with fail
 go_cut [65] (fun v65 wx => ∃ b : Bool, v65 = .bool b ∧ (b = false → FormOk ⟨k, n, d, t, on, c, r, s, A, L, C⟩) ∧ wx = W0)
 case first =>
  by_cases hn : n.toList = []
  ·by_cases hd : d.toList = []
   ·have HND : Hid (n = ⟨#[]⟩ ∧ d = ⟨#[]⟩) := ⟨ba_empty hn, ba_empty hd⟩
    obtain ⟨b1, hb1⟩ : ∃ b, (decide (k = 1) || true) = b := ⟨_, rfl⟩
    have T1 := hid (only_any 1 k (true) w.heap.size W0 cHX0)
    rw [hb1] at T1
    have HB1 := hid hb1
    clear hb1
    go_wp2_with fail
    refine (T1.out).mono ?_
    rintro e wr ⟨rfl, hwr⟩
    have hwr2 := hwr.symm
    subst hwr2
    clear hwr
    cases b1 with
    | false =>
     go_wp2
     go_meet
     case rel => exact ⟨true, rfl, fun h => Bool.noConfusion h, rfl⟩
    | true =>
     obtain ⟨b2, hb2⟩ : ∃ b, (decide (k = 2) || t.toList.isEmpty) = b := ⟨_, rfl⟩
     have T2 := hid (only_any 2 k (t.toList.isEmpty) w.heap.size W0 cHX0)
     rw [hb2] at T2
     have HB2 := hid hb2
     clear hb2
     go_wp2_with fail
     refine (T2.out).mono ?_
     rintro e wr ⟨rfl, hwr⟩
     have hwr2 := hwr.symm
     subst hwr2
     clear hwr
     cases b2 with
     | false =>
      go_wp2
      go_meet
      case rel => exact ⟨true, rfl, fun h => Bool.noConfusion h, rfl⟩
     | true =>
      obtain ⟨b3, hb3⟩ : ∃ b, (decide (k = 3) || (!on)) = b := ⟨_, rfl⟩
      have T3 := hid (only_any 3 k ((!on)) w.heap.size W0 cHX0)
      rw [hb3] at T3
      have HB3 := hid hb3
      clear hb3
      go_wp2_with fail
      refine (T3.out).mono ?_
      rintro e wr ⟨rfl, hwr⟩
      have hwr2 := hwr.symm
      subst hwr2
      clear hwr
      cases b3 with
      | false =>
       go_wp2
       go_meet
       case rel => exact ⟨true, rfl, fun h => Bool.noConfusion h, rfl⟩
      | true =>
       obtain ⟨b4, hb4⟩ : ∃ b, (decide (k = 4) || (c == 0)) = b := ⟨_, rfl⟩
       have T4 := hid (only_any 4 k ((c == 0)) w.heap.size W0 cHX0)
       rw [hb4] at T4
       have HB4 := hid hb4
       clear hb4
       go_wp2_with fail
       refine (T4.out).mono ?_
       rintro e wr ⟨rfl, hwr⟩
       have hwr2 := hwr.symm
       subst hwr2
       clear hwr
       cases b4 with
       | false =>
        go_wp2
        go_meet
        case rel => exact ⟨true, rfl, fun h => Bool.noConfusion h, rfl⟩
       | true =>
        by_cases hr : r = 0
        ·have qr : (r == 0) = true := by rw [hr]; rfl
         by_cases hs : s = 0
         ·have qs : (s == 0) = true := by rw [hs]; rfl
          by_cases hl : L = 0
          ·have ql : ((L : Int) == 0) = true := by rw [hl]; rfl
           have qln : (L == 0) = true := by rw [hl]; rfl
           have HRS : Hid (r = 0 ∧ s = 0 ∧ L = 0) := ⟨hr, hs, hl⟩
           clear hr hs hl
           obtain ⟨b5, hb5⟩ : ∃ b, (decide (k = 5) || true) = b := ⟨_, rfl⟩
           have T5 := hid (only_any 5 k (true) w.heap.size W0 cHX0)
           rw [hb5] at T5
           have HB5 := hid hb5
           clear hb5
           go_wp2_with fail
           refine (T5.out).mono ?_
           rintro e wr ⟨rfl, hwr⟩
           have hwr2 := hwr.symm
           subst hwr2
           clear hwr
           cases b5 with
           | false =>
            go_wp2
            go_meet
            case rel => exact ⟨true, rfl, fun h => Bool.noConfusion h, rfl⟩
           | true =>
            go_wp2
            go_meet
            case rel => exact ⟨false, rfl, fun _ => ⟨k0, k5, (or_split HB1.out).imp id (fun h => HND.out), (or_split HB2.out).imp id (fun h => ba_isEmpty h), (or_split HB3.out).imp id (fun h => by rw [Bool.not_eq_true'] at h; exact h), (or_split HB4.out).imp id (fun h => eq_of_beq h), (or_split HB5.out).imp id (fun h => HRS.out)⟩, rfl⟩
          ·have ql : ((L : Int) == 0) = false := by rw [beq_eq_false_iff_ne]; omega
           have qln : (L == 0) = false := by rw [beq_eq_false_iff_ne]; exact hl
           clear hr hs hl
           obtain ⟨b5, hb5⟩ : ∃ b, (decide (k = 5) || false) = b := ⟨_, rfl⟩
           have T5 := hid (only_any 5 k (false) w.heap.size W0 cHX0)
           rw [hb5] at T5
           have HB5 := hid hb5
           clear hb5
           go_wp2_with fail
           refine (T5.out).mono ?_
           rintro e wr ⟨rfl, hwr⟩
           have hwr2 := hwr.symm
           subst hwr2
           clear hwr
           cases b5 with
           | false =>
            go_wp2
            go_meet
            case rel => exact ⟨true, rfl, fun h => Bool.noConfusion h, rfl⟩
           | true =>
            go_wp2
            go_meet
            case rel => exact ⟨false, rfl, fun _ => ⟨k0, k5, (or_split HB1.out).imp id (fun h => HND.out), (or_split HB2.out).imp id (fun h => ba_isEmpty h), (or_split HB3.out).imp id (fun h => by rw [Bool.not_eq_true'] at h; exact h), (or_split HB4.out).imp id (fun h => eq_of_beq h), (or_split HB5.out).imp id (fun h => Bool.noConfusion h)⟩, rfl⟩
         ·have qs : (s == 0) = false := by rw [beq_eq_false_iff_ne]; exact hs
          clear hr hs
          obtain ⟨b5, hb5⟩ : ∃ b, (decide (k = 5) || false) = b := ⟨_, rfl⟩
          have T5 := hid (only_any 5 k (false) w.heap.size W0 cHX0)
          rw [hb5] at T5
          have HB5 := hid hb5
          clear hb5
          go_wp2_with fail
          refine (T5.out).mono ?_
          rintro e wr ⟨rfl, hwr⟩
          have hwr2 := hwr.symm
          subst hwr2
          clear hwr
          cases b5 with
          | false =>
           go_wp2
           go_meet
           case rel => exact ⟨true, rfl, fun h => Bool.noConfusion h, rfl⟩
          | true =>
           go_wp2
           go_meet
           case rel => exact ⟨false, rfl, fun _ => ⟨k0, k5, (or_split HB1.out).imp id (fun h => HND.out), (or_split HB2.out).imp id (fun h => ba_isEmpty h), (or_split HB3.out).imp id (fun h => by rw [Bool.not_eq_true'] at h; exact h), (or_split HB4.out).imp id (fun h => eq_of_beq h), (or_split HB5.out).imp id (fun h => Bool.noConfusion h)⟩, rfl⟩
        ·have qr : (r == 0) = false := by rw [beq_eq_false_iff_ne]; exact hr
         clear hr
         obtain ⟨b5, hb5⟩ : ∃ b, (decide (k = 5) || false) = b := ⟨_, rfl⟩
         have T5 := hid (only_any 5 k (false) w.heap.size W0 cHX0)
         rw [hb5] at T5
         have HB5 := hid hb5
         clear hb5
         go_wp2_with fail
         refine (T5.out).mono ?_
         rintro e wr ⟨rfl, hwr⟩
         have hwr2 := hwr.symm
         subst hwr2
         clear hwr
         cases b5 with
         | false =>
          go_wp2
          go_meet
          case rel => exact ⟨true, rfl, fun h => Bool.noConfusion h, rfl⟩
         | true =>
          go_wp2
          go_meet
          case rel => exact ⟨false, rfl, fun _ => ⟨k0, k5, (or_split HB1.out).imp id (fun h => HND.out), (or_split HB2.out).imp id (fun h => ba_isEmpty h), (or_split HB3.out).imp id (fun h => by rw [Bool.not_eq_true'] at h; exact h), (or_split HB4.out).imp id (fun h => eq_of_beq h), (or_split HB5.out).imp id (fun h => Bool.noConfusion h)⟩, rfl⟩
   ·obtain ⟨b1, hb1⟩ : ∃ b, (decide (k = 1) || false) = b := ⟨_, rfl⟩
    have T1 := hid (only_any 1 k (false) w.heap.size W0 cHX0)
    rw [hb1] at T1
    have HB1 := hid hb1
    clear hb1
    go_wp2_with fail
    refine (T1.out).mono ?_
    rintro e wr ⟨rfl, hwr⟩
    have hwr2 := hwr.symm
    subst hwr2
    clear hwr
    cases b1 with
    | false =>
     go_wp2
     go_meet
     case rel => exact ⟨true, rfl, fun h => Bool.noConfusion h, rfl⟩
    | true =>
     obtain ⟨b2, hb2⟩ : ∃ b, (decide (k = 2) || t.toList.isEmpty) = b := ⟨_, rfl⟩
     have T2 := hid (only_any 2 k (t.toList.isEmpty) w.heap.size W0 cHX0)
     rw [hb2] at T2
     have HB2 := hid hb2
     clear hb2
     go_wp2_with fail
     refine (T2.out).mono ?_
     rintro e wr ⟨rfl, hwr⟩
     have hwr2 := hwr.symm
     subst hwr2
     clear hwr
     cases b2 with
     | false =>
      go_wp2
      go_meet
      case rel => exact ⟨true, rfl, fun h => Bool.noConfusion h, rfl⟩
     | true =>
      obtain ⟨b3, hb3⟩ : ∃ b, (decide (k = 3) || (!on)) = b := ⟨_, rfl⟩
      have T3 := hid (only_any 3 k ((!on)) w.heap.size W0 cHX0)
      rw [hb3] at T3
      have HB3 := hid hb3
      clear hb3
      go_wp2_with fail
      refine (T3.out).mono ?_
      rintro e wr ⟨rfl, hwr⟩
      have hwr2 := hwr.symm
      subst hwr2
      clear hwr
      cases b3 with
      | false =>
       go_wp2
       go_meet
       case rel => exact ⟨true, rfl, fun h => Bool.noConfusion h, rfl⟩
      | true =>
       obtain ⟨b4, hb4⟩ : ∃ b, (decide (k = 4) || (c == 0)) = b := ⟨_, rfl⟩
       have T4 := hid (only_any 4 k ((c == 0)) w.heap.size W0 cHX0)
       rw [hb4] at T4
       have HB4 := hid hb4
       clear hb4
       go_wp2_with fail
       refine (T4.out).mono ?_
       rintro e wr ⟨rfl, hwr⟩
       have hwr2 := hwr.symm
       subst hwr2
       clear hwr
       cases b4 with
       | false =>
        go_wp2
        go_meet
        case rel => exact ⟨true, rfl, fun h => Bool.noConfusion h, rfl⟩
       | true =>
        by_cases hr : r = 0
        ·have qr : (r == 0) = true := by rw [hr]; rfl
         by_cases hs : s = 0
         ·have qs : (s == 0) = true := by rw [hs]; rfl
          by_cases hl : L = 0
          ·have ql : ((L : Int) == 0) = true := by rw [hl]; rfl
           have qln : (L == 0) = true := by rw [hl]; rfl
           have HRS : Hid (r = 0 ∧ s = 0 ∧ L = 0) := ⟨hr, hs, hl⟩
           clear hr hs hl
           obtain ⟨b5, hb5⟩ : ∃ b, (decide (k = 5) || true) = b := ⟨_, rfl⟩
           have T5 := hid (only_any 5 k (true) w.heap.size W0 cHX0)
           rw [hb5] at T5
           have HB5 := hid hb5
           clear hb5
           go_wp2_with fail
           refine (T5.out).mono ?_
           rintro e wr ⟨rfl, hwr⟩
           have hwr2 := hwr.symm
           subst hwr2
           clear hwr
           cases b5 with
           | false =>
            go_wp2
            go_meet
            case rel => exact ⟨true, rfl, fun h => Bool.noConfusion h, rfl⟩
           | true =>
            go_wp2
            go_meet
            case rel => exact ⟨false, rfl, fun _ => ⟨k0, k5, (or_split HB1.out).imp id (fun h => Bool.noConfusion h), (or_split HB2.out).imp id (fun h => ba_isEmpty h), (or_split HB3.out).imp id (fun h => by rw [Bool.not_eq_true'] at h; exact h), (or_split HB4.out).imp id (fun h => eq_of_beq h), (or_split HB5.out).imp id (fun h => HRS.out)⟩, rfl⟩
          ·have ql : ((L : Int) == 0) = false := by rw [beq_eq_false_iff_ne]; omega
           have qln : (L == 0) = false := by rw [beq_eq_false_iff_ne]; exact hl
           clear hr hs hl
           obtain ⟨b5, hb5⟩ : ∃ b, (decide (k = 5) || false) = b := ⟨_, rfl⟩
           have T5 := hid (only_any 5 k (false) w.heap.size W0 cHX0)
           rw [hb5] at T5
           have HB5 := hid hb5
           clear hb5
           go_wp2_with fail
           refine (T5.out).mono ?_
           rintro e wr ⟨rfl, hwr⟩
           have hwr2 := hwr.symm
           subst hwr2
           clear hwr
           cases b5 with
           | false =>
            go_wp2
            go_meet
            case rel => exact ⟨true, rfl, fun h => Bool.noConfusion h, rfl⟩
           | true =>
            go_wp2
            go_meet
            case rel => exact ⟨false, rfl, fun _ => ⟨k0, k5, (or_split HB1.out).imp id (fun h => Bool.noConfusion h), (or_split HB2.out).imp id (fun h => ba_isEmpty h), (or_split HB3.out).imp id (fun h => by rw [Bool.not_eq_true'] at h; exact h), (or_split HB4.out).imp id (fun h => eq_of_beq h), (or_split HB5.out).imp id (fun h => Bool.noConfusion h)⟩, rfl⟩
         ·have qs : (s == 0) = false := by rw [beq_eq_false_iff_ne]; exact hs
          clear hr hs
          obtain ⟨b5, hb5⟩ : ∃ b, (decide (k = 5) || false) = b := ⟨_, rfl⟩
          have T5 := hid (only_any 5 k (false) w.heap.size W0 cHX0)
          rw [hb5] at T5
          have HB5 := hid hb5
          clear hb5
          go_wp2_with fail
          refine (T5.out).mono ?_
          rintro e wr ⟨rfl, hwr⟩
          have hwr2 := hwr.symm
          subst hwr2
          clear hwr
          cases b5 with
          | false =>
           go_wp2
           go_meet
           case rel => exact ⟨true, rfl, fun h => Bool.noConfusion h, rfl⟩
          | true =>
           go_wp2
           go_meet
           case rel => exact ⟨false, rfl, fun _ => ⟨k0, k5, (or_split HB1.out).imp id (fun h => Bool.noConfusion h), (or_split HB2.out).imp id (fun h => ba_isEmpty h), (or_split HB3.out).imp id (fun h => by rw [Bool.not_eq_true'] at h; exact h), (or_split HB4.out).imp id (fun h => eq_of_beq h), (or_split HB5.out).imp id (fun h => Bool.noConfusion h)⟩, rfl⟩
        ·have qr : (r == 0) = false := by rw [beq_eq_false_iff_ne]; exact hr
         clear hr
         obtain ⟨b5, hb5⟩ : ∃ b, (decide (k = 5) || false) = b := ⟨_, rfl⟩
         have T5 := hid (only_any 5 k (false) w.heap.size W0 cHX0)
         rw [hb5] at T5
         have HB5 := hid hb5
         clear hb5
         go_wp2_with fail
         refine (T5.out).mono ?_
         rintro e wr ⟨rfl, hwr⟩
         have hwr2 := hwr.symm
         subst hwr2
         clear hwr
         cases b5 with
         | false =>
          go_wp2
          go_meet
          case rel => exact ⟨true, rfl, fun h => Bool.noConfusion h, rfl⟩
         | true =>
          go_wp2
          go_meet
          case rel => exact ⟨false, rfl, fun _ => ⟨k0, k5, (or_split HB1.out).imp id (fun h => Bool.noConfusion h), (or_split HB2.out).imp id (fun h => ba_isEmpty h), (or_split HB3.out).imp id (fun h => by rw [Bool.not_eq_true'] at h; exact h), (or_split HB4.out).imp id (fun h => eq_of_beq h), (or_split HB5.out).imp id (fun h => Bool.noConfusion h)⟩, rfl⟩
  ·obtain ⟨b1, hb1⟩ : ∃ b, (decide (k = 1) || false) = b := ⟨_, rfl⟩
   have T1 := hid (only_any 1 k (false) w.heap.size W0 cHX0)
   rw [hb1] at T1
   have HB1 := hid hb1
   clear hb1
   go_wp2_with fail
   refine (T1.out).mono ?_
   rintro e wr ⟨rfl, hwr⟩
   have hwr2 := hwr.symm
   subst hwr2
   clear hwr
   cases b1 with
   | false =>
    go_wp2
    go_meet
    case rel => exact ⟨true, rfl, fun h => Bool.noConfusion h, rfl⟩
   | true =>
    obtain ⟨b2, hb2⟩ : ∃ b, (decide (k = 2) || t.toList.isEmpty) = b := ⟨_, rfl⟩
    have T2 := hid (only_any 2 k (t.toList.isEmpty) w.heap.size W0 cHX0)
    rw [hb2] at T2
    have HB2 := hid hb2
    clear hb2
    go_wp2_with fail
    refine (T2.out).mono ?_
    rintro e wr ⟨rfl, hwr⟩
    have hwr2 := hwr.symm
    subst hwr2
    clear hwr
    cases b2 with
    | false =>
     go_wp2
     go_meet
     case rel => exact ⟨true, rfl, fun h => Bool.noConfusion h, rfl⟩
    | true =>
     obtain ⟨b3, hb3⟩ : ∃ b, (decide (k = 3) || (!on)) = b := ⟨_, rfl⟩
     have T3 := hid (only_any 3 k ((!on)) w.heap.size W0 cHX0)
     rw [hb3] at T3
     have HB3 := hid hb3
     clear hb3
     go_wp2_with fail
     refine (T3.out).mono ?_
     rintro e wr ⟨rfl, hwr⟩
     have hwr2 := hwr.symm
     subst hwr2
     clear hwr
     cases b3 with
     | false =>
      go_wp2
      go_meet
      case rel => exact ⟨true, rfl, fun h => Bool.noConfusion h, rfl⟩
     | true =>
      obtain ⟨b4, hb4⟩ : ∃ b, (decide (k = 4) || (c == 0)) = b := ⟨_, rfl⟩
      have T4 := hid (only_any 4 k ((c == 0)) w.heap.size W0 cHX0)
      rw [hb4] at T4
      have HB4 := hid hb4
      clear hb4
      go_wp2_with fail
      refine (T4.out).mono ?_
      rintro e wr ⟨rfl, hwr⟩
      have hwr2 := hwr.symm
      subst hwr2
      clear hwr
      cases b4 with
      | false =>
       go_wp2
       go_meet
       case rel => exact ⟨true, rfl, fun h => Bool.noConfusion h, rfl⟩
      | true =>
       by_cases hr : r = 0
       ·have qr : (r == 0) = true := by rw [hr]; rfl
        by_cases hs : s = 0
        ·have qs : (s == 0) = true := by rw [hs]; rfl
         by_cases hl : L = 0
         ·have ql : ((L : Int) == 0) = true := by rw [hl]; rfl
          have qln : (L == 0) = true := by rw [hl]; rfl
          have HRS : Hid (r = 0 ∧ s = 0 ∧ L = 0) := ⟨hr, hs, hl⟩
          clear hr hs hl
          obtain ⟨b5, hb5⟩ : ∃ b, (decide (k = 5) || true) = b := ⟨_, rfl⟩
          have T5 := hid (only_any 5 k (true) w.heap.size W0 cHX0)
          rw [hb5] at T5
          have HB5 := hid hb5
          clear hb5
          go_wp2_with fail
          refine (T5.out).mono ?_
          rintro e wr ⟨rfl, hwr⟩
          have hwr2 := hwr.symm
          subst hwr2
          clear hwr
          cases b5 with
          | false =>
           go_wp2
           go_meet
           case rel => exact ⟨true, rfl, fun h => Bool.noConfusion h, rfl⟩
          | true =>
           go_wp2
           go_meet
           case rel => exact ⟨false, rfl, fun _ => ⟨k0, k5, (or_split HB1.out).imp id (fun h => Bool.noConfusion h), (or_split HB2.out).imp id (fun h => ba_isEmpty h), (or_split HB3.out).imp id (fun h => by rw [Bool.not_eq_true'] at h; exact h), (or_split HB4.out).imp id (fun h => eq_of_beq h), (or_split HB5.out).imp id (fun h => HRS.out)⟩, rfl⟩
         ·have ql : ((L : Int) == 0) = false := by rw [beq_eq_false_iff_ne]; omega
          have qln : (L == 0) = false := by rw [beq_eq_false_iff_ne]; exact hl
          clear hr hs hl
          obtain ⟨b5, hb5⟩ : ∃ b, (decide (k = 5) || false) = b := ⟨_, rfl⟩
          have T5 := hid (only_any 5 k (false) w.heap.size W0 cHX0)
          rw [hb5] at T5
          have HB5 := hid hb5
          clear hb5
          go_wp2_with fail
          refine (T5.out).mono ?_
          rintro e wr ⟨rfl, hwr⟩
          have hwr2 := hwr.symm
          subst hwr2
          clear hwr
          cases b5 with
          | false =>
           go_wp2
           go_meet
           case rel => exact ⟨true, rfl, fun h => Bool.noConfusion h, rfl⟩
          | true =>
           go_wp2
           go_meet
           case rel => exact ⟨false, rfl, fun _ => ⟨k0, k5, (or_split HB1.out).imp id (fun h => Bool.noConfusion h), (or_split HB2.out).imp id (fun h => ba_isEmpty h), (or_split HB3.out).imp id (fun h => by rw [Bool.not_eq_true'] at h; exact h), (or_split HB4.out).imp id (fun h => eq_of_beq h), (or_split HB5.out).imp id (fun h => Bool.noConfusion h)⟩, rfl⟩
        ·have qs : (s == 0) = false := by rw [beq_eq_false_iff_ne]; exact hs
         clear hr hs
         obtain ⟨b5, hb5⟩ : ∃ b, (decide (k = 5) || false) = b := ⟨_, rfl⟩
         have T5 := hid (only_any 5 k (false) w.heap.size W0 cHX0)
         rw [hb5] at T5
         have HB5 := hid hb5
         clear hb5
         go_wp2_with fail
         refine (T5.out).mono ?_
         rintro e wr ⟨rfl, hwr⟩
         have hwr2 := hwr.symm
         subst hwr2
         clear hwr
         cases b5 with
         | false =>
          go_wp2
          go_meet
          case rel => exact ⟨true, rfl, fun h => Bool.noConfusion h, rfl⟩
         | true =>
          go_wp2
          go_meet
          case rel => exact ⟨false, rfl, fun _ => ⟨k0, k5, (or_split HB1.out).imp id (fun h => Bool.noConfusion h), (or_split HB2.out).imp id (fun h => ba_isEmpty h), (or_split HB3.out).imp id (fun h => by rw [Bool.not_eq_true'] at h; exact h), (or_split HB4.out).imp id (fun h => eq_of_beq h), (or_split HB5.out).imp id (fun h => Bool.noConfusion h)⟩, rfl⟩
       ·have qr : (r == 0) = false := by rw [beq_eq_false_iff_ne]; exact hr
        clear hr
        obtain ⟨b5, hb5⟩ : ∃ b, (decide (k = 5) || false) = b := ⟨_, rfl⟩
        have T5 := hid (only_any 5 k (false) w.heap.size W0 cHX0)
        rw [hb5] at T5
        have HB5 := hid hb5
        clear hb5
        go_wp2_with fail
        refine (T5.out).mono ?_
        rintro e wr ⟨rfl, hwr⟩
        have hwr2 := hwr.symm
        subst hwr2
        clear hwr
        cases b5 with
        | false =>
         go_wp2
         go_meet
         case rel => exact ⟨true, rfl, fun h => Bool.noConfusion h, rfl⟩
        | true =>
         go_wp2
         go_meet
         case rel => exact ⟨false, rfl, fun _ => ⟨k0, k5, (or_split HB1.out).imp id (fun h => Bool.noConfusion h), (or_split HB2.out).imp id (fun h => ba_isEmpty h), (or_split HB3.out).imp id (fun h => by rw [Bool.not_eq_true'] at h; exact h), (or_split HB4.out).imp id (fun h => eq_of_beq h), (or_split HB5.out).imp id (fun h => Bool.noConfusion h)⟩, rfl⟩
 case rest =>
  obtain ⟨b, rfl, hform, hwx⟩ := hcut
  have hwx2 := hwx.symm
  subst hwx2
  clear hwx
  cases b with
  | true =>
   clear cHX1 cHX2
   go_wp2
   go_ret
   exact VRet.no (by decide) HL.out
  | false =>
   have HF := hid (hform rfl)
   clear hform
   by_cases h1 : k = 1
   ·subst h1
    go_wp2_with fail
    refine (T1.out _).mono ?_
    rintro e W1 ⟨ec, rfl, hb, hok⟩
    have HK := hid hok
    have HLL := hid (HL.out.trans (hb.mono HL.out.size))
    clear hb hok
    go_wp2
    go_ret
    exact ⟨ec, rfl, HLL.out, fun h => ValOk.of_single (single_num HF.out rfl (HK.out h))⟩
   ·have e1 : (k == 1) = false := by rw [beq_eq_false_iff_ne]; exact h1
    by_cases h2 : k = 2
    ·subst h2
     clear h1
     go_wp2_with fail
     refine (T2.out _).mono ?_
     rintro e W1 ⟨ec, rfl, hwr, hok⟩
     have hwr2 := hwr.symm
     subst hwr2
     clear hwr
     have HK := hid hok
     clear hok
     go_wp2
     go_ret
     exact ⟨ec, rfl, HL.out, fun h => ValOk.of_single (single_text HF.out rfl (HK.out h))⟩
    ·have e2 : (k == 2) = false := by rw [beq_eq_false_iff_ne]; exact h2
     by_cases h4 : k = 4
     ·subst h4
      clear h1 h2
      by_cases hc : 1 ≤ c ∧ c ≤ 8
      ·obtain ⟨ci, rfl⟩ : ∃ i : Nat, c = (i : Int) := ⟨c.toNat, by omega⟩
       have T4 := hid (fun W g => rfaultText_in ci W g (by omega) (by omega))
       have HC := hid hc
       clear hc
       go_wp2_with fail
       refine (T4.out _ HE.out).mono ?_
       rintro e W1 ⟨⟨fs, rfl⟩, hwr⟩
       have hwr2 := hwr.symm
       subst hwr2
       clear hwr
       by_cases hfs : fs.toList.isEmpty = true
       ·go_wp2
        go_ret
        exact VRet.no (by decide) HL.out
       ·rw [Bool.not_eq_true] at hfs
        go_wp2
        go_ret
        exact ⟨0, rfl, HL.out, fun _ => ValOk.of_single (single_code HF.out rfl HC.out)⟩
      ·have T4 := hid (fun W => rfaultText_out c W hc)
       clear hc
       go_wp2_with fail
       refine (T4.out _).mono ?_
       rintro e W1 ⟨rfl, hwr⟩
       have hwr2 := hwr.symm
       subst hwr2
       clear hwr
       go_wp2
       go_ret
       exact VRet.no (by decide) HL.out
     ·have e4 : (k == 4) = false := by rw [beq_eq_false_iff_ne]; exact h4
      by_cases h5 : k = 5
      ·subst h5
       clear h1 h2 h4
       have HVI := hid ((HVV.out rfl).below HL.out)
       clear e1 e2 e4
       by_cases a1 : r < 1
       ·have qa1 : decide (r < 1) = true := decide_eq_true a1
        go_wp2
        go_ret
        exact VRet.no (by decide) HL.out
       ·have qa1 : decide (r < 1) = false := decide_eq_false a1
        by_cases a2 : s < 1
        ·have qa2 : decide (s < 1) = true := decide_eq_true a2
         go_wp2
         go_ret
         exact VRet.no (by decide) HL.out
        ·have qa2 : decide (s < 1) = false := decide_eq_false a2
         by_cases a3 : 100000 < r
         ·have qa3 : decide (100000 < r) = true := decide_eq_true a3
          go_wp2
          go_ret
          exact VRet.no (by decide) HL.out
         ·have qa3 : decide (100000 < r) = false := decide_eq_false a3
          by_cases a4 : 100000 < s
          ·have qa4 : decide (100000 < s) = true := decide_eq_true a4
           go_wp2
           go_ret
           exact VRet.no (by decide) HL.out
          ·have qa4 : decide (100000 < s) = false := decide_eq_false a4
           have HRS : Hid (1 ≤ r ∧ r ≤ 100000 ∧ 1 ≤ s ∧ s ≤ 100000) := ⟨by omega, by omega, by omega, by omega⟩
           have hm1 : 1 ≤ r * s := Int.le_trans (by omega : (1 : Int) ≤ 1 * 1) (Int.mul_le_mul HRS.out.1 HRS.out.2.2.1 (by omega) (by omega))
           have hm2 : r * s ≤ 100000 * 100000 := Int.mul_le_mul HRS.out.2.1 HRS.out.2.2.2 (by omega) (by omega)
           have hwr : IntKind.i64.wrap (r * s) = r * s := IntWalk.i64_in _ (by omega)
           clear a1 a2 a3 a4
           by_cases a5 : 100000 < r * s
           ·have qa5 : decide (100000 < r * s) = true := decide_eq_true a5
            go_wp2
            go_ret
            exact VRet.no (by decide) HL.out
           ·have qa5 : decide (100000 < r * s) = false := decide_eq_false a5
            have HL9 : Hid (r * s ≤ 100000) := by show _ ≤ _; omega
            clear a5
            by_cases a6 : r * s = (L : Int)
            ·have HM := hid a6
             have HL9' : Hid (L ≤ 100000) := by show _ ≤ _; have := HL9.out; omega
             have hL0 : 0 < L := by omega
             obtain ⟨g, ob, hA, hlen, hvals⟩ := HVI.out hL0
             have hA : A = some ⟨g, ob, none⟩ := hA
             subst hA
             have HLEN : Hid (vs.length = L) := hlen
             have HV := hid hvals
             rw [a6] at hwr qa5
             clear hlen hvals HVI HVV hm1 hm2 hL0
             go_upto_region 21 with fail
             have HI0 := hid (show EnvR W0 ∧ ValsAt W0 g ob vs ∧ Below w.heap.size w W0 from ⟨HE.out, HV.out, HL.out⟩)
             go_loopg [133] L (fun gh v133 wx => ∃ j : Nat, v133 = .int .i64 (j : Int) ∧ j ≤ L ∧ gh = L - j ∧ (EnvR wx ∧ ValsAt wx g ob vs ∧ Below w.heap.size w wx) ∧ ∀ i (hv : i < vs.length), i < j → SingleOk vs[i])
             case atStart => exact ⟨0, rfl, Nat.zero_le _, rfl, HI0.out, fun i _ h => absurd h (Nat.not_lt_zero i)⟩
             case round =>
              clear HI0
              obtain ⟨j, rfl, hj, rfl, hti, hall⟩ := hrel
              have HTI := hid hti
              have HALL := hid hall
              clear hti hall hwr qa5 HX HE HV HL
              by_cases hlt : j < L
              ·have hd : decide ((j : Int) < (L : Int)) = true := decide_eq_true (by omega)
               have hd2 : decide (j < L) = true := decide_eq_true hlt
               have hjv : j < vs.length := by rw [HLEN.out]; exact hlt
               obtain ⟨x, hx⟩ : ∃ x, vs[j] = x := ⟨_, rfl⟩
               have HXX := hid hx
               have hcells := HTI.out.2.1.at j hjv
               have TX := HT.out x (by rw [← hx]; exact List.getElem_mem hjv)
               rw [hx] at hcells
               clear hx
               obtain ⟨xk, xn, xd, xt, xo, xc, xr, xs, xA, xL, xC⟩ := x
               have hcells : CellsAt wr g (ob + j * 9) (.int .i64 xk) (.string xn) (.string xd) (.string xt) (.bool xo) (.int .i64 xc) (.int .i64 xr) (.int .i64 xs) (.slice xA xL xC) := hcells
               obtain ⟨c0, c1, c2, c3, c4, c5, c6, c7, c8⟩ := hcells
               have TX : xk ≠ 5 → ∀ W, EnvR W → Calls Tryz.prog 16 #[.agg #[.int .i64 xk, .string xn, .string xd, .string xt, .bool xo, .int .i64 xc, .int .i64 xr, .int .i64 xs, .slice xA xL xC]] W (VRet W (SingleOk ⟨xk, xn, xd, xt, xo, xc, xr, xs, xA, xL, xC⟩)) := TX
               have hi0 : (0 : Int) ≤ (j : Int) := by omega
               have hi1 : (j : Int) < (L : Int) := by omega
               have hba : Below wr.heap.size wr (wr.alloc (.cells #[.int .i64 xk, .string xn, .string xd, .string xt, .bool xo, .int .i64 xc, .int .i64 xr, .int .i64 xs, .slice xA xL xC] 32)) := (Below.refl _ _).alloc (Nat.le_refl _) _
               have HB2 := hid (show EnvR (wr.alloc (.cells #[.int .i64 xk, .string xn, .string xd, .string xt, .bool xo, .int .i64 xc, .int .i64 xr, .int .i64 xs, .slice xA xL xC] 32)) ∧ ValsAt (wr.alloc (.cells #[.int .i64 xk, .string xn, .string xd, .string xt, .bool xo, .int .i64 xc, .int .i64 xr, .int .i64 xs, .slice xA xL xC] 32)) g ob vs ∧ Below w.heap.size w (wr.alloc (.cells #[.int .i64 xk, .string xn, .string xd, .string xt, .bool xo, .int .i64 xc, .int .i64 xr, .int .i64 xs, .slice xA xL xC] 32)) from ⟨HTI.out.1.below hba, HTI.out.2.1.below hba, HTI.out.2.2.trans (hba.mono HTI.out.2.2.size)⟩)
               clear hba
               by_cases hx5 : xk = 5
               ·subst hx5
                go_wp2
                go_ret
                exact VRet.no (by decide) HB2.out.2.2
               ·have hx5b : (xk == 5) = false := by rw [beq_eq_false_iff_ne]; exact hx5
                have TY := hid (TX hx5)
                clear TX hx5
                go_wp2_with fail
                refine (TY.out _ HB2.out.1).mono ?_
                rintro e w2 ⟨ec, rfl, hb, hok⟩
                have HK := hid hok
                have HB3 := hid (show EnvR w2 ∧ ValsAt w2 g ob vs ∧ Below w.heap.size w w2 from ⟨HB2.out.1.below hb, HB2.out.2.1.below hb, HB2.out.2.2.trans (hb.mono HB2.out.2.2.size)⟩)
                clear hb hok c0 c1 c2 c3 c4 c5 c6 c7 c8
                by_cases hec : ec = 0
                ·subst hec
                 have hj9 : j + 1 ≤ 100000 := by have := HL9'.out; omega
                 have HAL2 : Hid (∀ i (hv : i < vs.length), i < j + 1 → SingleOk vs[i]) := by
                  intro i hv hi
                  by_cases hij : i < j
                  ·exact HALL.out i hv hij
                  ·have hij : i = j := by omega
                   subst hij
                   rw [HXX.out]; exact HK.out rfl
                 go_wp2
                 go_roundg (L - (j + 1))
                 case measure => omega
                 case rel => exact ⟨j + 1, by go_num, by omega, rfl, HB3.out, HAL2.out⟩
                ·have hecb : (ec == 0) = false := by rw [beq_eq_false_iff_ne]; exact hec
                 have hecc : (ec != 0) = true := by rw [bne_iff_ne]; exact hec
                 have HEC := hid hec
                 clear hec
                 go_wp2
                 go_ret
                 exact VRet.no HEC.out HB3.out.2.2
              ·have hd : decide ((j : Int) < (L : Int)) = false := decide_eq_false (by omega)
               have hd2 : decide (j < L) = false := decide_eq_false hlt
               have HJ := hid (show L ≤ j by omega)
               clear hlt
               go_wp2
               go_ret
               refine ⟨0, rfl, HTI.out.2.2, fun _ => ⟨HF.out, fun h => absurd rfl h, fun _ => ⟨HRS.out.1, HRS.out.2.1, HRS.out.2.2.1, HRS.out.2.2.2, HM.out⟩, fun _ x hx => ?_⟩⟩
               obtain ⟨i, hi, rfl⟩ := List.getElem_of_mem hx
               exact HALL.out i hi (by have := HLEN.out; have := HJ.out; omega)
            ·have qa6 : (r * s == (L : Int)) = false := by rw [beq_eq_false_iff_ne]; exact a6
             have qa7 : (r * s != (L : Int)) = true := by rw [bne_iff_ne]; exact a6
             clear a6
             go_wp2
             go_ret
             exact VRet.no (by decide) HL.out
      ·have q5b : decide (k < 5) = true := decide_eq_true (by omega)
       have HK1 := hid h1; have HK2 := hid h2; have HK4 := hid h4; have HK5 := hid h5
       clear h1 h2 h4 h5
       go_wp2
       go_ret
       exact ⟨0, rfl, HL.out, fun _ => ValOk.of_single (single_other HF.out HK1.out HK2.out HK4.out HK5.out)⟩
theorem rval_bad (k : Int) (n d t : ByteArray) (on : Bool) (c r s : Int) (A : Option Addr) (L C : Nat) (P : Prop) (w : World) (h : ¬ (0 ≤ k ∧ k ≤ 5)) : Calls Tryz.prog 16 #[.agg #[.int .i64 k, .string n, .string d, .string t, .bool on, .int .i64 c, .int .i64 r, .int .i64 s, .slice A L C]] w (VRet w P) := by
 have hb : Below w.heap.size w (w.alloc (.cells #[.int .i64 k, .string n, .string d, .string t, .bool on, .int .i64 c, .int .i64 r, .int .i64 s, .slice A L C] 32)) := (Below.refl _ _).alloc (Nat.le_refl _) _
 by_cases h0 : k < 0
 ·have q0 : decide (k < 0) = true := decide_eq_true h0
  clear h
  go_enter Tryz.func16, Tryz.ntmps16
  go_wp2
  go_ret
  exact VRet.no (by decide) hb
 ·have q0 : decide (k < 0) = false := decide_eq_false h0
  have q5 : decide (5 < k) = true := decide_eq_true (by omega)
  clear h
  go_enter Tryz.func16, Tryz.ntmps16
  go_wp2
  go_ret
  exact VRet.no (by decide) hb
def Short (v : Val) : Prop := v.n.size ≤ 1000000000 ∧ v.d.size ≤ 1000000000 ∧ v.t.size ≤ 1000000000
theorem rval_gen (v : Val) (vs : List Val) (w : World) (hS : Short v) (hE : EnvR w) (hv : v.k = 5 → ItemsAt w v vs) (hT : ∀ x ∈ vs, x.k ≠ 5 → ∀ W, EnvR W → Calls Tryz.prog 16 #[x.agg] W (VRet W (SingleOk x))) :
  Calls Tryz.prog 16 #[v.agg] w (VRet w (ValOk v vs)) := by
 obtain ⟨k, n, d, t, on, c, r, s, A, L, C⟩ := v
 by_cases h : 0 ≤ k ∧ k ≤ 5
 ·exact rval_gen0 k n d t on c r s A L C vs w h.1 h.2 hS.1 hS.2.1 hS.2.2 hE hv hT
 ·exact rval_bad k n d t on c r s A L C _ w h
theorem rval_single (v : Val) (w : World) (hS : Short v) (hE : EnvR w) (h5 : v.k ≠ 5) :
  Calls Tryz.prog 16 #[v.agg] w (VRet w (SingleOk v)) := by
 refine (rval_gen v [] w hS hE (fun h => absurd h h5) (fun x hx => absurd hx List.not_mem_nil)).mono ?_
 rintro e w' ⟨c, h1, h2, h3⟩
 exact ⟨c, h1, h2, fun h => (h3 h).single h5⟩
theorem rval_any (v : Val) (vs : List Val) (w : World) (hS : Short v) (hSS : ∀ x ∈ vs, Short x) (hE : EnvR w) (hv : v.k = 5 → ItemsAt w v vs) :
  Calls Tryz.prog 16 #[v.agg] w (VRet w (ValOk v vs)) :=
 rval_gen v vs w hS hE hv (fun x hx h5 W hE => rval_single x W (hSS x hx) hE h5)
end Num
namespace Num
open Go.RowKit Go.Lib
theorem vals_one {W : World} {g : Nat} (v : Val) {T : TypeId} (h : W.heap[g]? = some (.cells #[.int .i64 v.k, .string v.n, .string v.d, .string v.t, .bool v.on, .int .i64 v.c, .int .i64 v.r, .int .i64 v.s, .slice v.A v.L v.C] T (0, 0))) : ValsAt W g 0 [v] := by
 intro j u hj
 rw [addr_add]
 have e : flat [v] = v.cells := by unfold flat; simp
 rw [e] at hj
 have hl : j < 9 := by
  have := (List.getElem?_eq_some_iff.1 hj).1
  exact this
 obtain ⟨⟨e0, e1, e2, e3, e4, e5, e6, e7, e8⟩, _⟩ := nine_at h
 rw [Nat.zero_add]
 rcases (show j = 0 ∨ j = 1 ∨ j = 2 ∨ j = 3 ∨ j = 4 ∨ j = 5 ∨ j = 6 ∨ j = 7 ∨ j = 8 by omega) with h | h | h | h | h | h | h | h | h <;> subst h
 ·exact e0.trans hj
 ·exact e1.trans hj
 ·exact e2.trans hj
 ·exact e3.trans hj
 ·exact e4.trans hj
 ·exact e5.trans hj
 ·exact e6.trans hj
 ·exact e7.trans hj
 ·exact e8.trans hj
theorem rsize_arr (k : Int) (n d t : ByteArray) (on : Bool) (c r s : Int) (A : Option Addr) (L C : Nat) (w : World) (h5 : k = 5) : Calls Tryz.prog 22 #[.agg #[.int .i64 k, .string n, .string d, .string t, .bool on, .int .i64 c, .int .i64 r, .int .i64 s, .slice A L C]] w fun e w' => e = .returned (.tuple #[.int .i64 r, .int .i64 s]) ∧ Below w.heap.size w w' := by
 subst h5
 have hb : Below w.heap.size w (w.alloc (.cells #[.int .i64 5, .string n, .string d, .string t, .bool on, .int .i64 c, .int .i64 r, .int .i64 s, .slice A L C] 32)) := (Below.refl _ _).alloc (Nat.le_refl _) _
 go_enter Tryz.func22, Tryz.ntmps22
 go_wp2_with fail
 go_quiet (fail)
 go_wp2
 go_ret2
 exact ⟨rfl, by first | exact hb | exact below_drewN hb _⟩
theorem rsize_one (k : Int) (n d t : ByteArray) (on : Bool) (c r s : Int) (A : Option Addr) (L C : Nat) (w : World) (h5 : k ≠ 5) : Calls Tryz.prog 22 #[.agg #[.int .i64 k, .string n, .string d, .string t, .bool on, .int .i64 c, .int .i64 r, .int .i64 s, .slice A L C]] w fun e w' => e = .returned (.tuple #[.int .i64 1, .int .i64 1]) ∧ Below w.heap.size w w' := by
 have q5 : (k == 5) = false := by rw [beq_eq_false_iff_ne]; exact h5
 have hb : Below w.heap.size w (w.alloc (.cells #[.int .i64 k, .string n, .string d, .string t, .bool on, .int .i64 c, .int .i64 r, .int .i64 s, .slice A L C] 32)) := (Below.refl _ _).alloc (Nat.le_refl _) _
 go_enter Tryz.func22, Tryz.ntmps22
 go_wp2
 go_ret2
 exact ⟨rfl, by first | exact hb | exact below_drewN hb _⟩
theorem ritems_arr (n d t : ByteArray) (on : Bool) (c r s : Int) (A : Option Addr) (L C : Nat) (w : World) : Calls Tryz.prog 67 #[.agg #[.int .i64 5, .string n, .string d, .string t, .bool on, .int .i64 c, .int .i64 r, .int .i64 s, .slice A L C]] w fun e w' => e = .returned (.slice A L C) ∧ Below w.heap.size w w' := by
 have hb : Below w.heap.size w (w.alloc (.cells #[.int .i64 5, .string n, .string d, .string t, .bool on, .int .i64 c, .int .i64 r, .int .i64 s, .slice A L C] 32)) := (Below.refl _ _).alloc (Nat.le_refl _) _
 go_enter Tryz.func67, Tryz.ntmps67
 go_wp2
 go_ret
 exact ⟨rfl, hb⟩
theorem ritems_one (k : Int) (n d t : ByteArray) (on : Bool) (c r s : Int) (A : Option Addr) (L C : Nat) (w : World) (h5 : k ≠ 5) : Calls Tryz.prog 67 #[.agg #[.int .i64 k, .string n, .string d, .string t, .bool on, .int .i64 c, .int .i64 r, .int .i64 s, .slice A L C]] w fun e w' => ∃ g, e = .returned (.slice (some ⟨g, 0, none⟩) 1 1) ∧ w.heap.size ≤ g ∧ ValsAt w' g 0 [⟨k, n, d, t, on, c, r, s, A, L, C⟩] ∧ Below w.heap.size w w' := by
 have q5 : (k == 5) = false := by rw [beq_eq_false_iff_ne]; exact h5
 go_enter Tryz.func67, Tryz.ntmps67
 go_wp2
 go_ret
 refine ⟨w.heap.size + 1, rfl, by omega, ?_, ?_⟩
 ·exact vals_one ⟨k, n, d, t, on, c, r, s, A, L, C⟩ (two_new w (.cells #[.int .i64 k, .string n, .string d, .string t, .bool on, .int .i64 c, .int .i64 r, .int .i64 s, .slice A L C] 32) (.cells #[.int .i64 k, .string n, .string d, .string t, .bool on, .int .i64 c, .int .i64 r, .int .i64 s, .slice A L C] 32)).2.1
 ·exact (two_new w (.cells #[.int .i64 k, .string n, .string d, .string t, .bool on, .int .i64 c, .int .i64 r, .int .i64 s, .slice A L C] 32) (.cells #[.int .i64 k, .string n, .string d, .string t, .bool on, .int .i64 c, .int .i64 r, .int .i64 s, .slice A L C] 32)).2.2
def itemsOf (v : Val) (vs : List Val) : List Val := if v.k = 5 then vs else [v]
def ItemsRet (w : World) (v : Val) (vs : List Val) : Ending → World → Prop := fun e w' =>
 ∃ A C, e = .returned (.slice A (itemsOf v vs).length C) ∧ Below w.heap.size w w' ∧ (0 < (itemsOf v vs).length → ∃ g o, A = some ⟨g, o, none⟩ ∧ ValsAt w' g o (itemsOf v vs))
theorem ritems_any (v : Val) (vs : List Val) (w : World) (hv : v.k = 5 → ItemsAt w v vs) (hl : v.k = 5 → vs.length = v.L) : Calls Tryz.prog 67 #[v.agg] w (ItemsRet w v vs) := by
 by_cases h5 : v.k = 5
 ·have e : itemsOf v vs = vs := if_pos h5
  have hI := hv h5
  have hL := hl h5
  obtain ⟨k, n, d, t, on, c, r, s, A, L, C⟩ := v
  have h5 : k = 5 := h5
  subst h5
  refine (ritems_arr n d t on c r s A L C w).mono ?_
  rintro en w' ⟨rfl, hb⟩
  unfold ItemsRet
  rw [e]
  refine ⟨A, C, by rw [hL], hb, fun h0 => ?_⟩
  obtain ⟨g, o, h1, _, h3⟩ := hI (by show 0 < L; have hL : vs.length = L := hL; omega)
  exact ⟨g, o, h1, h3.below hb⟩
 ·have e : itemsOf v vs = [v] := if_neg h5
  obtain ⟨k, n, d, t, on, c, r, s, A, L, C⟩ := v
  refine (ritems_one k n d t on c r s A L C w h5).mono ?_
  rintro en w' ⟨g, rfl, hg, hvs, hb⟩
  unfold ItemsRet
  rw [e]
  exact ⟨_, _, rfl, hb, fun _ => ⟨g, 0, rfl, hvs⟩⟩
def sizeOf (v : Val) : Int × Int := if v.k = 5 then (v.r, v.s) else (1, 1)
theorem rsize_any (v : Val) (w : World) : Calls Tryz.prog 22 #[v.agg] w fun e w' => e = .returned (.tuple #[.int .i64 (sizeOf v).1, .int .i64 (sizeOf v).2]) ∧ Below w.heap.size w w' := by
 by_cases h5 : v.k = 5
 ·rw [show sizeOf v = (v.r, v.s) from if_pos h5]
  exact rsize_arr v.k v.n v.d v.t v.on v.c v.r v.s v.A v.L v.C w h5
 ·rw [show sizeOf v = (1, 1) from if_neg h5]
  exact rsize_one v.k v.n v.d v.t v.on v.c v.r v.s v.A v.L v.C w h5
theorem ratOf_one (m : Nat) : ratOf false m 1 = (m : Rat) := by
 unfold ratOf
 rw [if_neg (by decide), Rat.mkRat_one]
 rfl
theorem rint_any (m : Nat) (w : World) (h : m < 9223372036854775808) : Calls Tryz.prog 14 #[.int .i64 m] w fun e w' => e = .returned (numOr (m : Rat)) ∧ Below w.heap.size w w' := by
 have T1 := hid (fun W => whole_nat m W h)
 have hl : (digs 10 m).length ≤ 1000000 := by
  by_cases hm : m = 0
  ·subst hm; exact Nat.le_trans (Nat.le_of_eq (show (digs 10 0).length = 0 by unfold digs; rfl)) (by omega)
  ·rw [digs_ten_len m hm]; have := decDigits_len_le (d := m) (k := 19) (by omega); omega
 have hl1 : (digs 10 1).length ≤ 1000000 := by
  rw [digs_ten_len 1 (by decide), decDigits_one]; decide
 have T2 := hid (fun v W g => rnumber_any v false m 1 W g (by decide) hl hl1)
 rw [ratOf_one] at T2
 obtain ⟨nv, hnv⟩ : ∃ nv, numOr (m : Rat) = nv := ⟨_, rfl⟩
 have hnine : ∃ (zk zc : Int) (za zb : ByteArray), nv = .agg #[.int .i64 zk, .string za, .string zb, .string ⟨#[]⟩, .bool false, .int .i64 zc, .int .i64 0, .int .i64 0, .slice none 0 0] := by
  rw [← hnv]; unfold numOr
  split
  ·exact ⟨_, _, _, _, rfl⟩
  ·exact ⟨_, _, _, _, rfl⟩
 rw [hnv] at T2 ⊢
 obtain ⟨zk, zc, za, zb, rfl⟩ := hnine
 obtain ⟨qHR, hb⟩ := rone_new w (.cells #[.int .i64 0, .string ⟨#[]⟩, .string ⟨#[]⟩, .string ⟨#[]⟩, .bool false, .int .i64 0, .int .i64 0, .int .i64 0, .slice none 0 0] 32)
 have HR := hid qHR
 have HL := hid hb
 clear hb qHR hnv hl hl1
 go_enter Tryz.func14, Tryz.ntmps14
 go_wp2_with fail
 refine (T1.out _).mono ?_
 rintro e W1 ⟨v1, rfl, hp, hb⟩
 replace HR := hid (keep_block HR.out hb)
 replace HL := hid (HL.out.trans (hb.mono HL.out.size))
 have HP := hid hp
 have hsh : ∃ B1 B2 B3, v1 = .agg #[B1, B2, B3] := by
  obtain ⟨_, _, _, _, _, _, e, _⟩ := hp
  exact ⟨_, _, _, e⟩
 obtain ⟨B1, B2, B3, rfl⟩ := hsh
 clear hb hp
 go_wp2_with fail
 refine (T2.out _ _ HP.out).mono ?_
 rintro e W2 ⟨rfl, hb⟩
 replace HR := hid (keep_block HR.out hb)
 replace HL := hid (HL.out.trans (hb.mono HL.out.size))
 clear hb
 have hs9 := set9_at HR.out (.int .i64 zk) (.string za) (.string zb) (.string ⟨#[]⟩) (.bool false) (.int .i64 zc) (.int .i64 0) (.int .i64 0) (.slice none 0 0)
 obtain ⟨⟨e0, e1, e2, e3, e4, e5, e6, e7, e8⟩, _⟩ := nine_at hs9
 have HE := hid (((((((((HL.out.setCell (p := ⟨w.heap.size, 0, none⟩) (Nat.le_refl _) (.int .i64 zk)).setCell (p := ⟨w.heap.size, 1, none⟩) (Nat.le_refl _) (.string za)).setCell (p := ⟨w.heap.size, 2, none⟩) (Nat.le_refl _) (.string zb)).setCell (p := ⟨w.heap.size, 3, none⟩) (Nat.le_refl _) (.string ⟨#[]⟩)).setCell (p := ⟨w.heap.size, 4, none⟩) (Nat.le_refl _) (.bool false)).setCell (p := ⟨w.heap.size, 5, none⟩) (Nat.le_refl _) (.int .i64 zc)).setCell (p := ⟨w.heap.size, 6, none⟩) (Nat.le_refl _) (.int .i64 0)).setCell (p := ⟨w.heap.size, 7, none⟩) (Nat.le_refl _) (.int .i64 0)).setCell (p := ⟨w.heap.size, 8, none⟩) (Nat.le_refl _) (.slice none 0 0))
 clear hs9
 obtain ⟨⟨r0, r1, r2, r3, r4, r5, r6, r7, r8⟩, rf0, rf1, rf2, rf3, rf4, rf5, rf6, rf7, rf8⟩ := nine_at HR.out
 go_wp2
 exact bodyPost_ret (v := .agg #[.int .i64 zk, .string za, .string zb, .string ⟨#[]⟩, .bool false, .int .i64 zc, .int .i64 0, .int .i64 0, .slice none 0 0]) (by simp [results, Tryz.results14, go_sem, e0, e1, e2, e3, e4, e5, e6, e7, e8]) rfl ⟨rfl, HE.out⟩
end Num
namespace Num
open Go.RowKit Go.Lib
structure Arg where
 v : Val
 vs : List Val
structure ArgOk (w : World) (a : Arg) : Prop where
 short : Short a.v
 shorts : ∀ x ∈ a.vs, Short x
 row : a.v.k = 5 → ItemsAt w a.v a.vs ∧ a.vs.length = a.v.L
theorem ArgOk.below {w w' : World} {a : Arg} (h : ArgOk w a) (hb : Below w.heap.size w w') : ArgOk w' a :=
 ⟨h.short, h.shorts, fun h5 => ⟨(h.row h5).1.below hb, (h.row h5).2⟩⟩
def Arg.items (a : Arg) : List Val := itemsOf a.v a.vs
def intArg (m : Nat) : Arg := ⟨⟨1, numS (m : Rat), denS (m : Rat), ⟨#[]⟩, false, 0, 0, 0, none, 0, 0⟩, []⟩
theorem fits_small (m : Nat) (h : m ≤ 1000) : fits (m : Rat) = true := by
 have h1 : up (m : Rat) = m := by unfold up; rw [Rat.num_natCast]; rfl
 have h2 : (m : Rat).den = 1 := Rat.den_natCast m
 unfold fits
 rw [h1, h2, Bool.and_eq_true]
 refine ⟨decide_eq_true ?_, decide_eq_true ?_⟩
 ·have := decDigits_len_le (d := m) (k := 4) (by omega); omega
 ·rw [decDigits_one]; decide
theorem numText_nat_size (m : Nat) (h : m ≤ 1000) : (numS (m : Rat)).size ≤ 30 ∧ (denS (m : Rat)).size ≤ 30 := by
 have h1 : up (m : Rat) = m := by unfold up; rw [Rat.num_natCast]; rfl
 have h2 : (m : Rat).den = 1 := Rat.den_natCast m
 have h3 : neg (m : Rat) = false := by unfold neg; rw [Rat.num_natCast]; exact decide_eq_false (by omega)
 have hs : ∀ l : List UInt8, (⟨l.toArray⟩ : ByteArray).size = l.length := fun l => by show l.toArray.size = _; simp
 constructor
 ·unfold numS numText
  rw [if_neg (by rw [h3]; decide), h1, hs]
  have := decDigits_len_le (d := m) (k := 4) (by omega); omega
 ·unfold denS denText
  rw [h2, decDigits_one, hs]; decide
theorem intArg_ok (w : World) (m : Nat) (h : m ≤ 1000) : ArgOk w (intArg m) := by
 obtain ⟨h1, h2⟩ := numText_nat_size m h
 refine ⟨⟨?_, ?_, ?_⟩, fun x hx => absurd hx List.not_mem_nil, fun h5 => absurd (show (1 : Int) = 5 from h5) (by decide)⟩
 ·show (numS (m : Rat)).size ≤ _; omega
 ·show (denS (m : Rat)).size ≤ _; omega
 ·show (0 : Nat) ≤ _; omega
def argAt (args : List Arg) (i : Nat) : Arg := args.getD i (intArg (i + 1))
theorem argAt_in {args : List Arg} {i : Nat} (h : i < args.length) : argAt args i = args[i] := by
 unfold argAt; rw [List.getD_eq_getElem?_getD, List.getElem?_eq_getElem h]; rfl
theorem argAt_out {args : List Arg} {i : Nat} (h : ¬ i < args.length) : argAt args i = intArg (i + 1) := by
 unfold argAt; rw [List.getD_eq_getElem?_getD, List.getElem?_eq_none (by omega)]; rfl
theorem argAt_ok {w : World} {args : List Arg} (h : ∀ a ∈ args, ArgOk w a) (i : Nat) (hi : i ≤ 900) : ArgOk w (argAt args i) := by
 by_cases hl : i < args.length
 ·rw [argAt_in hl]; exact h _ (List.getElem_mem hl)
 ·rw [argAt_out hl]; exact intArg_ok w _ (by omega)
def Arg.first (a : Arg) : Arg := if a.v.k = 5 then ⟨a.vs.getD 0 a.v, []⟩ else a
def smallV (x : Val) : Prop := x.n.size ≤ 30 ∧ x.d.size ≤ 30 ∧ x.t.size ≤ 60
def prepOf (single : Bool) (a : Arg) : Arg := if single then a.first else a
structure PrepOk (single : Bool) (a b : Arg) : Prop where
 ok : ValOk a.v a.vs
 is : b = prepOf single a
 small : ∀ x ∈ b.items, smallV x
 few : b.items.length ≤ 30
theorem first_ok {w : World} {a : Arg} (h : ArgOk w a) (hv : ValOk a.v a.vs) : ArgOk w a.first := by
 unfold Arg.first
 by_cases h5 : a.v.k = 5
 ·rw [if_pos h5]
  have hL := (h.row h5).2
  have hs := hv.size h5
  have hm1 : 1 ≤ a.v.r * a.v.s := Int.le_trans (by omega : (1 : Int) ≤ 1 * 1) (Int.mul_le_mul hs.1 hs.2.2.1 (by omega) (by omega))
  have h0 : 0 < a.vs.length := by omega
  have e : a.vs.getD 0 a.v = a.vs[0] := by rw [List.getD_eq_getElem?_getD, List.getElem?_eq_getElem h0]; rfl
  rw [e]
  have hin := List.getElem_mem h0
  exact ⟨h.shorts _ hin, fun x hx => absurd hx List.not_mem_nil, fun h => absurd h ((hv.items h5 _ hin).one)⟩
 ·rw [if_neg h5]; exact h
theorem items_pos {w : World} {a : Arg} (h : ArgOk w a) (hv : ValOk a.v a.vs) : 0 < a.items.length := by
 unfold Arg.items itemsOf
 by_cases h5 : a.v.k = 5
 ·rw [if_pos h5]
  have hL := (h.row h5).2
  have hs := hv.size h5
  have hm1 : 1 ≤ a.v.r * a.v.s := Int.le_trans (by omega : (1 : Int) ≤ 1 * 1) (Int.mul_le_mul hs.1 hs.2.2.1 (by omega) (by omega))
  omega
 ·rw [if_neg h5]; exact Nat.zero_lt_one
theorem first_item {a : Arg} (h0 : 0 < a.items.length) : a.first.v = a.items[0] := by
 unfold Arg.first Arg.items itemsOf
 unfold Arg.items itemsOf at h0
 by_cases h5 : a.v.k = 5
 ·simp only [if_pos h5] at h0 ⊢
  rw [List.getD_eq_getElem?_getD, List.getElem?_eq_getElem h0]; rfl
 ·simp only [if_neg h5]; rfl
theorem prepOf_ok {w : World} {a : Arg} (single : Bool) (h : ArgOk w a) (hv : ValOk a.v a.vs) : ArgOk w (prepOf single a) := by
 cases single with
 | false => exact h
 | true => exact first_ok h hv
theorem prep_items_le {w : World} {a : Arg} (single : Bool) (h : ArgOk w a) (hv : ValOk a.v a.vs) : (prepOf single a).items.length ≤ 10000000000 := by
 have ha : a.items.length ≤ 10000000000 := by
  unfold Arg.items itemsOf
  by_cases h5 : a.v.k = 5
  ·rw [if_pos h5]
   have hL := (h.row h5).2
   have hs := hv.size h5
   have hm2 : a.v.r * a.v.s ≤ 100000 * 100000 := Int.mul_le_mul hs.2.1 hs.2.2.2.1 (by omega) (by omega)
   omega
  ·rw [if_neg h5]; show (1 : Nat) ≤ _; omega
 cases single with
 | false => exact ha
 | true =>
  show a.first.items.length ≤ _
  by_cases h5 : a.v.k = 5
  ·have hf : a.first = ⟨a.vs.getD 0 a.v, []⟩ := if_pos h5
   rw [hf]
   unfold Arg.items itemsOf
   split
   ·show (0 : Nat) ≤ _; omega
   ·show (1 : Nat) ≤ _; omega
  ·have hf : a.first = a := if_neg h5
   rw [hf]; exact ha
theorem own_lt_row {B n : Nat} {W : World} {v : Value} {e : TypeId} {s : Nat} {xs : List Value} (h : W.ownsRow B e s v n xs) : ∀ r, v.ownBlock = some r → B ≤ r := by
 intro r hr
 rcases h.2 with ⟨rfl, _⟩ | ⟨g, cap, cur, rfl, hb, _⟩
 ·simp [Value.ownBlock] at hr
 ·simp only [Value.ownBlock, Option.some.injEq] at hr; omega
structure PreI (w : World) (p1 p2 p3 : Value) (v : Value) (outs : List Arg) (wx : World) : Prop where
 res : wx.heap[w.heap.size]? = some (.cells #[p1, p2, p3] 44 (0, 0))
 low : Below w.heap.size w wx
 own : wx.ownsRow (w.heap.size + 1) 32 9 v outs.length (flat (outs.map Arg.v))
theorem PreI.step {w wx w' : World} {p1 p2 p3 v : Value} {outs : List Arg} (h : PreI w p1 p2 p3 v outs wx) (hb : Below wx.heap.size wx w') : PreI w p1 p2 p3 v outs w' :=
 ⟨keep_block h.res hb, h.low.trans (hb.mono h.low.size), h.own.kept (only_of_below hb none) (by cases v.ownBlock <;> simp)⟩
theorem PreI.size {w wx : World} {p1 p2 p3 v : Value} {outs : List Arg} (h : PreI w p1 p2 p3 v outs wx) : w.heap.size + 1 ≤ wx.heap.size := heap_lt h.res
theorem flat_snoc (vs : List Val) (x : Val) : flat (vs ++ [x]) = flat vs ++ x.cells := by unfold flat; simp
theorem PreI.push {w wx w' : World} {p1 p2 p3 v v' : Value} {outs : List Arg} {b : Arg} (h : PreI w p1 p2 p3 v outs wx) (ho : w'.ownsRow (w.heap.size + 1) 32 9 v' (outs.length + 1) (flat (outs.map Arg.v) ++ b.v.cells)) (hg : wx.grownBy w' v.ownBlock) : PreI w p1 p2 p3 v' (outs ++ [b]) w' := by
 have hge := own_lt_row h.own
 refine ⟨(hg.block _ h.size (fun e => by have := hge _ e.symm; omega)).trans h.res, h.low.grown hg h.low.size (fun r hr => by have := hge r hr; omega), ?_⟩
 rw [List.length_append, List.map_append]
 show w'.ownsRow (w.heap.size + 1) 32 9 v' (outs.length + 1) (flat (outs.map Arg.v ++ [b.v]))
 rw [flat_snoc]
 exact ho
end Num
namespace Num
open Go.RowKit Go.Lib
def allNum (l : List Val) : Bool := l.all fun x => decide (x.k = 1)
def codeOf : List Val → Int
 | [] => 0
 | x :: t => if x.k = 4 then x.c else codeOf t
theorem codeOf_skip {l t : List Val} (h : ∀ x ∈ l, x.k ≠ 4) : codeOf (l ++ t) = codeOf t := by
 induction l with
 | nil => rfl
 | cons x l ih =>
  show (if x.k = 4 then x.c else codeOf (l ++ t)) = _
  rw [if_neg (h x (by simp)), ih (fun y hy => h y (by simp [hy]))]
theorem codeOf_at {l : List Val} {j : Nat} (hj : j < l.length) (h : ∀ m (hm : m < l.length), m < j → l[m].k ≠ 4) (h4 : l[j].k = 4) : codeOf l = l[j].c := by
 obtain ⟨x, hx⟩ : ∃ x, l[j] = x := ⟨_, rfl⟩
 have e : l = l.take j ++ x :: l.drop (j + 1) := by rw [← hx, ← List.drop_eq_getElem_cons hj, List.take_append_drop]
 rw [hx] at h4 ⊢
 refine (congrArg codeOf e).trans ?_
 rw [codeOf_skip (fun y hy => ?_)]
 ·show (if x.k = 4 then x.c else _) = _
  rw [if_pos h4]
 ·obtain ⟨m, hm, rfl⟩ := List.getElem_of_mem hy
  have hmj : m < j := by simp at hm; omega
  rw [List.getElem_take]
  exact h m (by omega) hmj
theorem codeOf_none {l : List Val} (h : ∀ m (hm : m < l.length), l[m].k ≠ 4) : codeOf l = 0 := by
 have h2 : ∀ x ∈ l, x.k ≠ 4 := fun x hx => by obtain ⟨m, hm, rfl⟩ := List.getElem_of_mem hx; exact h m hm
 have := codeOf_skip (t := []) h2
 rw [List.append_nil] at this
 exact this
theorem allNum_any (v : Val) (vs : List Val) (w : World) (hv : v.k = 5 → ItemsAt w v vs) (hl : v.k = 5 → vs.length = v.L) (h9 : (itemsOf v vs).length ≤ 10000000000) : Calls Tryz.prog 70 #[v.agg] w fun e w' => e = .returned (.bool (allNum (itemsOf v vs))) ∧ Below w.heap.size w w' := by
 have T1 := hid (fun W (hb : Below w.heap.size w W) => ritems_any v vs W (fun h5 => (hv h5).below hb) hl)
 unfold ItemsRet at T1
 obtain ⟨its, hits⟩ : ∃ z, itemsOf v vs = z := ⟨_, rfl⟩
 rw [hits] at T1 h9 ⊢
 obtain ⟨il, hil⟩ : ∃ z, its.length = z := ⟨_, rfl⟩
 rw [hil] at T1 h9
 have HIL := hid hil
 clear hits hil hv hl
 obtain ⟨vk, vn, vd, vt, vo, vc, vr, vz, vA, vL, vC⟩ := v
 have e0 : Val.agg ⟨vk, vn, vd, vt, vo, vc, vr, vz, vA, vL, vC⟩ = .agg #[.int .i64 vk, .string vn, .string vd, .string vt, .bool vo, .int .i64 vc, .int .i64 vr, .int .i64 vz, .slice vA vL vC] := rfl
 rw [e0] at T1 ⊢
 clear e0
 obtain ⟨ans, hans⟩ : ∃ z, allNum its = z := ⟨_, rfl⟩
 rw [hans]
 have HANS := hid hans
 clear hans
 have hb0 : Below w.heap.size w (w.alloc (.cells #[.int .i64 vk, .string vn, .string vd, .string vt, .bool vo, .int .i64 vc, .int .i64 vr, .int .i64 vz, .slice vA vL vC] 32)) := (Below.refl _ _).alloc (Nat.le_refl _) _
 have HB0 := hid hb0
 clear hb0
 go_enter Tryz.func70, Tryz.ntmps70
 go_wp2_with fail
 refine (T1.out _ HB0.out).mono ?_
 rintro e w1 ⟨iA, iC, rfl, hb, hit⟩
 have HL := hid (HB0.out.trans (hb.mono HB0.out.size))
 have HIT := hid hit
 clear hb hit
 go_wp2_with fail
 go_loopg [8] il (fun gh v8 wx => ∃ j : Nat, v8 = .int .i64 (j : Int) ∧ j ≤ il ∧ gh = il - j ∧ Below w1.heap.size w1 wx ∧ ∀ m (h : m < its.length), m < j → its[m].k = 1)
 case atStart => exact ⟨0, rfl, Nat.zero_le _, rfl, Below.refl _ _, fun m _ h => absurd h (Nat.not_lt_zero m)⟩
 case round =>
  obtain ⟨j, rfl, hj, rfl, hbx, hsm⟩ := hrel
  have HBX := hid hbx
  have HSM := hid hsm
  clear hbx hsm
  by_cases hjl : j < il
  ·have hd1 : decide ((j : Int) < (il : Int)) = true := decide_eq_true (by omega)
   have hd2 : decide (j < il) = true := decide_eq_true hjl
   have hji : j < its.length := by rw [HIL.out]; exact hjl
   obtain ⟨g, o, hge, hvs⟩ := HIT.out (by omega)
   subst hge
   have hcells := (hvs.below HBX.out).at j hji
   obtain ⟨x, hx⟩ : ∃ x, its[j] = x := ⟨_, rfl⟩
   have HXX := hid hx
   rw [hx] at hcells
   clear hx hvs
   obtain ⟨zk, zn, zd, zt, zo, zc, zr, zs, zA, zL, zC⟩ := x
   have hcells : CellsAt wr g (o + j * 9) (.int .i64 zk) (.string zn) (.string zd) (.string zt) (.bool zo) (.int .i64 zc) (.int .i64 zr) (.int .i64 zs) (.slice zA zL zC) := hcells
   obtain ⟨c0, c1, c2, c3, c4, c5, c6, c7, c8⟩ := hcells
   have hi0 : (0 : Int) ≤ (j : Int) := by omega
   have hi1 : (j : Int) < (il : Int) := by omega
   have HB2 := hid (HBX.out.trans (((Below.refl wr.heap.size wr).alloc (Nat.le_refl _) (.cells #[.int .i64 zk, .string zn, .string zd, .string zt, .bool zo, .int .i64 zc, .int .i64 zr, .int .i64 zs, .slice zA zL zC] 32)).mono HBX.out.size))
   by_cases hk : zk = 1
   ·subst hk
    have HS3 : Hid (∀ m (h : m < its.length), m < j + 1 → its[m].k = 1) := by
     intro m hm hmj
     by_cases hmj2 : m < j
     ·exact HSM.out m hm hmj2
     ·have hmj : m = j := by omega
      subst hmj
      rw [HXX.out]
    go_wp2
    go_roundg (il - (j + 1))
    case measure => omega
    case rel => exact ⟨j + 1, by go_num, by omega, rfl, HB2.out, HS3.out⟩
   ·have q1 : (zk == 1) = false := by rw [beq_eq_false_iff_ne]; exact hk
    have q2 : (zk != 1) = true := by rw [bne_iff_ne]; exact hk
    have ha : ans = false := by
     rw [← HANS.out]
     unfold allNum
     rw [List.all_eq_false]
     refine ⟨its[j], List.getElem_mem hji, ?_⟩
     rw [HXX.out]
     simpa using hk
    subst ha
    clear hk
    go_wp2
    go_ret
    exact ⟨rfl, HL.out.trans (HB2.out.mono HL.out.size)⟩
  ·have hd1 : decide ((j : Int) < (il : Int)) = false := decide_eq_false (by omega)
   have hd2 : decide (j < il) = false := decide_eq_false hjl
   have ha : ans = true := by
    rw [← HANS.out]
    unfold allNum
    rw [List.all_eq_true]
    intro x hx
    obtain ⟨m, hm, rfl⟩ := List.getElem_of_mem hx
    exact decide_eq_true (HSM.out m hm (by have := HIL.out; omega))
   subst ha
   clear hjl
   go_wp2
   go_ret
   exact ⟨rfl, HL.out.trans (HBX.out.mono HL.out.size)⟩
theorem firstFault_any (args : List Arg) (A : Option Addr) (n C : Nat) (w : World) (hn : args.length = n) (hn9 : n ≤ 1000000000) (hA : 0 < n → ∃ g o, A = some ⟨g, o, none⟩ ∧ ValsAt w g o (args.map Arg.v)) (hok : ∀ a ∈ args, ArgOk w a) (h9 : ∀ a ∈ args, a.items.length ≤ 10000000000) :
  Calls Tryz.prog 66 #[.slice A n C] w fun e w' => e = .returned (.int .i64 (codeOf (args.flatMap Arg.items))) ∧ Below w.heap.size w w' := by
 have HA := hid hA; have HOK := hid hok; have HNN := hid hn; have H9 := hid h9
 obtain ⟨ans, hans⟩ : ∃ z, codeOf (args.flatMap Arg.items) = z := ⟨_, rfl⟩
 rw [hans]
 have HANS := hid hans
 clear hA hok hn h9 hans
 go_enter Tryz.func66, Tryz.ntmps66
 go_wp2_with fail
 go_loopg [9] n (fun gh v9 wx => ∃ i : Nat, v9 = .int .i64 (i : Int) ∧ i ≤ n ∧ gh = n - i ∧ Below w.heap.size w wx ∧ ∀ m (h : m < args.length), m < i → ∀ x ∈ args[m].items, x.k ≠ 4)
 case atStart => exact ⟨0, rfl, Nat.zero_le _, rfl, Below.refl _ _, fun m _ h => absurd h (Nat.not_lt_zero m)⟩
 case round =>
  obtain ⟨i, rfl, hi, rfl, hbx, hsm⟩ := hrel
  have HBI := hid hbx
  have HSI := hid hsm
  clear hbx hsm
  by_cases hin : i < n
  ·have hd1 : decide ((i : Int) < (n : Int)) = true := decide_eq_true (by omega)
   have hd2 : decide (i < n) = true := decide_eq_true hin
   have hia : i < args.length := by rw [HNN.out]; exact hin
   obtain ⟨g, o, hge, hvs⟩ := HA.out (by omega)
   subst hge
   have hcells := (hvs.below HBI.out).at i (by rw [List.length_map]; exact hia)
   obtain ⟨a, ha⟩ : ∃ a, args[i] = a := ⟨_, rfl⟩
   have hge : (args.map Arg.v)[i]'(by rw [List.length_map]; exact hia) = a.v := by rw [List.getElem_map, ha]
   rw [hge] at hcells
   have HARG := hid (show ArgOk w a from by rw [← ha]; exact HOK.out _ (List.getElem_mem hia))
   have hil9 : a.items.length ≤ 10000000000 := by rw [← ha]; exact H9.out _ (List.getElem_mem hia)
   have HAA := hid ha
   clear ha hge hvs
   have T1 := hid (fun W (hb : Below w.heap.size w W) => ritems_any a.v a.vs W (fun h5 => ((HARG.out.below hb).row h5).1) (fun h5 => (HARG.out.row h5).2))
   unfold ItemsRet at T1
   obtain ⟨its, hits⟩ : ∃ z, itemsOf a.v a.vs = z := ⟨_, rfl⟩
   have hil9 : (itemsOf a.v a.vs).length ≤ 10000000000 := hil9
   rw [hits] at T1 hil9
   have HITS := hid (show a.items = its from hits)
   obtain ⟨il, hil⟩ : ∃ z, its.length = z := ⟨_, rfl⟩
   rw [hil] at T1 hil9
   have HIL := hid hil
   clear hits hil
   obtain ⟨⟨vk, vn, vd, vt, vo, vc, vr, vz, vA, vL, vC⟩, avs⟩ := a
   have hcells : CellsAt wr g (o + i * 9) (.int .i64 vk) (.string vn) (.string vd) (.string vt) (.bool vo) (.int .i64 vc) (.int .i64 vr) (.int .i64 vz) (.slice vA vL vC) := hcells
   obtain ⟨c0, c1, c2, c3, c4, c5, c6, c7, c8⟩ := hcells
   have e0 : Val.agg (Arg.v ⟨⟨vk, vn, vd, vt, vo, vc, vr, vz, vA, vL, vC⟩, avs⟩) = .agg #[.int .i64 vk, .string vn, .string vd, .string vt, .bool vo, .int .i64 vc, .int .i64 vr, .int .i64 vz, .slice vA vL vC] := rfl
   rw [e0] at T1
   clear e0
   have hi0 : (0 : Int) ≤ (i : Int) := by omega
   have hi1 : (i : Int) < (n : Int) := by omega
   have HB0 := hid (HBI.out.trans (((Below.refl wr.heap.size wr).alloc (Nat.le_refl _) (.cells #[.int .i64 vk, .string vn, .string vd, .string vt, .bool vo, .int .i64 vc, .int .i64 vr, .int .i64 vz, .slice vA vL vC] 32)).mono HBI.out.size))
   go_wp2_with fail
   refine (T1.out _ HB0.out).mono ?_
   rintro e w1 ⟨iA, iC, rfl, hb, hit⟩
   have HL := hid (HB0.out.trans (hb.mono HB0.out.size))
   have HIT := hid hit
   clear hb hit c0 c1 c2 c3 c4 c5 c6 c7 c8
   go_wp2_with fail
   go_loopg [16] il (fun gh v16 wx => ∃ j : Nat, v16 = .int .i64 (j : Int) ∧ j ≤ il ∧ gh = il - j ∧ Below w1.heap.size w1 wx ∧ ∀ m (h : m < its.length), m < j → its[m].k ≠ 4)
   case atStart => exact ⟨0, rfl, Nat.zero_le _, rfl, Below.refl _ _, fun m _ h => absurd h (Nat.not_lt_zero m)⟩
   case round =>
    obtain ⟨j, rfl, hj, rfl, hbx, hsm⟩ := hrel
    have HBX := hid hbx
    have HSM := hid hsm
    clear hbx hsm
    by_cases hjl : j < il
    ·have hd1 : decide ((j : Int) < (il : Int)) = true := decide_eq_true (by omega)
     have hd2 : decide (j < il) = true := decide_eq_true hjl
     have hji : j < its.length := by rw [HIL.out]; exact hjl
     obtain ⟨g, o, hge, hvs⟩ := HIT.out (by omega)
     subst hge
     have hcells := (hvs.below HBX.out).at j hji
     obtain ⟨x, hx⟩ : ∃ x, its[j] = x := ⟨_, rfl⟩
     have HXX := hid hx
     rw [hx] at hcells
     clear hx hvs
     obtain ⟨zk, zn, zd, zt, zo, zc, zr, zs, zA, zL, zC⟩ := x
     have hcells : CellsAt wr g (o + j * 9) (.int .i64 zk) (.string zn) (.string zd) (.string zt) (.bool zo) (.int .i64 zc) (.int .i64 zr) (.int .i64 zs) (.slice zA zL zC) := hcells
     obtain ⟨c0, c1, c2, c3, c4, c5, c6, c7, c8⟩ := hcells
     have hj0 : (0 : Int) ≤ (j : Int) := by omega
     have hj1 : (j : Int) < (il : Int) := by omega
     have HB2 := hid (HBX.out.trans (((Below.refl wr.heap.size wr).alloc (Nat.le_refl _) (.cells #[.int .i64 zk, .string zn, .string zd, .string zt, .bool zo, .int .i64 zc, .int .i64 zr, .int .i64 zs, .slice zA zL zC] 32)).mono HBX.out.size))
     by_cases hk : zk = 4
     ·subst hk
      have ha : ans = zc := by
       rw [← HANS.out]
       have e1 : args = args.take i ++ args[i] :: args.drop (i + 1) := by rw [← List.drop_eq_getElem_cons hia, List.take_append_drop]
       have e2 : args.flatMap Arg.items = (args.take i).flatMap Arg.items ++ (its ++ (args.drop (i + 1)).flatMap Arg.items) := by
        conv => lhs; rw [e1]
        rw [List.flatMap_append, List.flatMap_cons, HAA.out, HITS.out]
       rw [e2, codeOf_skip (fun x hx => ?_)]
       ·have hjl2 : j < (its ++ (args.drop (i + 1)).flatMap Arg.items).length := by rw [List.length_append]; omega
        have hget : ∀ m (hm : m < its.length) (hm2 : m < (its ++ (args.drop (i + 1)).flatMap Arg.items).length), (its ++ (args.drop (i + 1)).flatMap Arg.items)[m] = its[m] := fun m hm hm2 => List.getElem_append_left hm
        rw [codeOf_at hjl2 (fun m hm hmj => by rw [hget m (by omega) hm]; exact HSM.out m (by omega) hmj) (by rw [hget j hji hjl2, HXX.out]), hget j hji hjl2, HXX.out]
       ·obtain ⟨b, hb, hxb⟩ := List.mem_flatMap.1 hx
        obtain ⟨m, hm, rfl⟩ := List.getElem_of_mem hb
        have hmi : m < i := by simp at hm; omega
        rw [List.getElem_take] at hxb
        exact HSI.out m (by omega) hmi x hxb
      subst ha
      go_wp2
      go_ret
      exact ⟨rfl, HL.out.trans (HB2.out.mono HL.out.size)⟩
     ·have q1 : (zk == 4) = false := by rw [beq_eq_false_iff_ne]; exact hk
      have HS3 : Hid (∀ m (h : m < its.length), m < j + 1 → its[m].k ≠ 4) := by
       intro m hm hmj
       by_cases hmj2 : m < j
       ·exact HSM.out m hm hmj2
       ·have hmj : m = j := by omega
        subst hmj
        rw [HXX.out]; exact hk
      clear hk
      go_wp2
      go_roundg (il - (j + 1))
      case measure => omega
      case rel => exact ⟨j + 1, by go_num, by omega, rfl, HB2.out, HS3.out⟩
    ·have hd1 : decide ((j : Int) < (il : Int)) = false := decide_eq_false (by omega)
     have hd2 : decide (j < il) = false := decide_eq_false hjl
     have HSA : Hid (∀ m (h : m < args.length), m < i + 1 → ∀ x ∈ args[m].items, x.k ≠ 4) := by
      intro m hm hmi
      by_cases hmi2 : m < i
      ·exact HSI.out m hm hmi2
      ·have hmi : m = i := by omega
       subst hmi
       intro x hx
       rw [HAA.out, HITS.out] at hx
       obtain ⟨q, hq, rfl⟩ := List.getElem_of_mem hx
       exact HSM.out q hq (by have := HIL.out; omega)
     have HB9 := hid (HL.out.trans (HBX.out.mono HL.out.size))
     clear hjl
     go_wp2
     go_roundg (n - (i + 1))
     case measure => omega
     case rel => exact ⟨i + 1, by go_num, by omega, rfl, HB9.out, HSA.out⟩
  ·have hd1 : decide ((i : Int) < (n : Int)) = false := decide_eq_false (by omega)
   have hd2 : decide (i < n) = false := decide_eq_false hin
   have ha : ans = 0 := by
    rw [← HANS.out]
    refine codeOf_none (fun m hm => ?_)
    obtain ⟨b, hb, hxb⟩ := List.mem_flatMap.1 (List.getElem_mem hm)
    obtain ⟨q, hq, rfl⟩ := List.getElem_of_mem hb
    exact HSI.out q hq (by have := HNN.out; omega) _ hxb
   subst ha
   clear hin
   go_wp2
   go_ret
   exact ⟨rfl, HBI.out⟩
end Num
end Go.Proofs.YtjcdeeahjkfmoaaGreatDoor
