/- The walk of slices.DeleteFunc over rows of texts with the law's closure. Conditions: the slice is the call's own. -/
import Derived.Test.YtjndiielolphgaaDoorCsvDelete2
namespace Go.Proofs.YtjndiielolphgaaDoor
open Go.RowKit

theorem only_setCells {a : World} {g : Nat} : ∀ (vs : List Value) (o : Nat) {w : World}, a.grownBy w (some g) → a.grownBy (w.setCells g o vs) (some g)
  | [], _, _, h => h
  | v :: r, o, _, h => only_setCells r (o + 1) (only_setCell h (.inl rfl) v)

set_option maxHeartbeats 4000000 in
set_option maxRecDepth 100000 in
theorem delete_any (g n cap : Nat) (ps : List URow) (cs : Array Value) (w : World) (hn : ps.length = n) (hl : n ≤ 1000000000) (hcap : n ≤ cap) (hcap2 : cap ≤ maxLen) (hu : LenOk ps)
    (hb : w.heap[g]? = some (.cells cs 35 (0, 0))) (hsz : n ≤ cs.size) (hc : ∀ (i : Nat) (h : i < ps.length), cs[i]? = some ps[i].1) :
    Calls Tryd.prog 17 #[.slice (some ⟨g, 0, none⟩) n cap, .func (.func 19) #[] #[]] w fun e w' =>
      e = .returned (.slice (some ⟨g, 0, none⟩) (filt ps).length cap) ∧ w.grownBy w' (some g) ∧ ∀ (t : Nat) (h : t < (filt ps).length), w'.cell? ⟨g, 0 + t, none⟩ = some (filt ps)[t].1 := by
  have hrow : ∀ (i : Nat) (h : i < (ps.map (·.1)).length), w.cell? ⟨g, 0 + i, none⟩ = some (ps.map (·.1))[i] := by
    intro i h
    have h' : i < ps.length := by simpa using h
    rw [Nat.zero_add, Lib.cell_of_heap hb i, hc i h']; simp
  have hlen : LenIs (ps.map (·.1)) (ps.map (·.2)) := ⟨by simp, fun i h h' => by
    obtain ⟨A, C, e⟩ := hu i (by simpa using h)
    exact ⟨A, C, by simpa using e⟩⟩
  have HIDX := Lib.hid (idx_any g n cap (ps.map (·.1)) (ps.map (·.2)) w (by simpa using hn) hl hlen hrow _ rfl)
  have HU := Lib.hid hu; clear hu
  have HB := Lib.hid hb; clear hb
  have HC := Lib.hid hc; clear hc
  clear hrow hlen
  unfold maxLen at hcap2
  by_cases hf : firstAt (ps.map (·.2)) < (ps.map (·.2)).length
  · have hid := HIDX.out
    rw [if_pos hf] at hid
    clear HIDX
    have HID := Lib.hid hid; clear hid
    have hfn : firstAt (ps.map (·.2)) < ps.length := by simpa using hf
    obtain ⟨f0, hf0⟩ : ∃ f0, firstAt (ps.map (·.2)) = f0 := ⟨_, rfl⟩
    have he : ps[firstAt (ps.map (·.2))].2.isEmpty = true := by
      have hp := List.findIdx_getElem (xs := ps.map (fun p : URow => p.2)) (p := List.isEmpty) (w := hf)
      have e : (ps.map (fun p : URow => p.2))[firstAt (ps.map (fun p : URow => p.2))]'hf = (ps[firstAt (ps.map (fun p : URow => p.2))]'hfn).2 := List.getElem_map _
      rw [← e]; exact hp
    have hbefore := filt_before ps (firstAt (ps.map (·.2))) (Nat.le_refl _)
    have hinv : DInv g w ps f0 (f0 + 1) w := by
      have e0 : filt (ps.take (f0 + 1)) = ps.take f0 := by
        subst hf0
        rw [filt_take_succ ps _ hfn, he, hbefore]; simp
      refine ⟨by rw [e0]; simp; omega, only_refl _ _, cs, HB.out, by omega, ?_, fun t ht _ => HC.out t ht⟩
      rw [e0]
      intro t ht
      have ht2 : t < ps.length := by simp at ht; omega
      rw [HC.out t ht2]; simp
    have hstrict := filt_len_strict ps f0 (by omega) (by subst hf0; exact he) ps.length (by omega) (Nat.le_refl _)
    rw [List.take_length] at hstrict
    rw [hf0] at HID hfn
    clear he hbefore hf
    have HIN := Lib.hid hinv; clear hinv
    have HST := Lib.hid hstrict; clear hstrict
    have hnm : ((f0 : Int) == -1) = false := by rw [beq_eq_false_iff_ne]; omega
    have hf0n : f0 < n := by rw [← hn]; exact hfn
    go_enter Tryd.func17, Tryd.ntmps17
    go_wp2_with fail
    refine HID.out.mono ?_
    rintro e w1 ⟨rfl, rfl⟩
    go_wp2
    go_loopg [5, 6] n (fun g' v5 v6 wx => ∃ i j : Nat, n ≤ j + g' ∧ j ≤ n ∧ v5 = .int .i64 i ∧ v6 = .int .i64 j ∧ DInv g w1 ps i j wx)
    case atStart => exact ⟨f0, f0 + 1, by omega, by omega, by go_num, by go_num, HIN.out⟩
    case round =>
      obtain ⟨i, j, hj, hjn0, rfl, rfl, hinv⟩ := hrel
      have hij : i ≤ j := by rw [hinv.ij]; exact filt_len ps j
      have HI := Lib.hid hinv; clear hinv
      by_cases hlt : j < n
      · have hltb : decide ((j : Int) < (n : Int)) = true := decide_eq_true (by omega)
        have hltn : decide (j < n) = true := decide_eq_true hlt
        have hin : i < n := by omega
        have hjl : j < ps.length := by rw [hn]; exact hlt
        obtain ⟨cs', h1, h2, h3, h4⟩ := HI.out.block
        obtain ⟨A, C, hv⟩ := HU.out j hjl
        have hcj : wr.cell? ⟨g, j, none⟩ = some (.slice A ps[j].2.length C) := by rw [Lib.cell_of_heap h1 j, h4 j hjl (Nat.le_refl _), hv]
        have hci : (wr.cell? ⟨g, i, none⟩).isSome = true := by
          rw [Lib.cell_of_heap h1 i, Array.getElem?_eq_getElem (by omega)]; rfl
        have hfi : wr.frozen? ⟨g, i, none⟩ = false := Lib.frozen_of_heap h1 i
        obtain ⟨ci, hci2⟩ := Option.isSome_iff_exists.1 hci
        clear h1 h2 h3 h4 hci cs'
        obtain ⟨m, hm⟩ : ∃ m, ps[j].2.length = m := ⟨_, rfl⟩
        rw [hm] at hcj hv
        cases hem : ps[j].2.isEmpty with
        | true =>
          have hz : m = 0 := by rw [List.isEmpty_iff_length_eq_zero] at hem; omega
          subst hz
          have HI2 := Lib.hid (HI.out.skip hjl hem)
          clear hem hm
          go_wp2_with fail
          refine (del_any A 0 C _ true rfl).mono ?_
          rintro e w2 ⟨rfl, rfl⟩
          go_wp2
          go_roundg (gk - 1)
          case measure => omega
          case rel => exact ⟨i, j + 1, by omega, by omega, by go_num, by go_num, HI2.out⟩
        | false =>
          have hz : ¬ m = 0 := by
            intro h
            rw [Bool.eq_false_iff] at hem
            exact hem (by rw [List.isEmpty_iff_length_eq_zero]; omega)
          have HI2 := HI.out.keep hjl hem
          rw [hv] at HI2
          have HI3 := Lib.hid HI2; clear HI2
          clear hem hm
          go_wp2_with fail
          refine (del_any A m C _ false (by rw [beq_eq_false_iff_ne]; omega)).mono ?_
          rintro e w2 ⟨rfl, rfl⟩
          go_wp2
          go_roundg (gk - 1)
          case measure => omega
          case rel => exact ⟨i + 1, j + 1, by omega, by omega, by go_num, by go_num, HI3.out⟩
      · have hltb : decide ((j : Int) < (n : Int)) = false := decide_eq_false (by omega)
        have hltn : decide (j < n) = false := decide_eq_false hlt
        have hjn : j = ps.length := by omega
        have hie : i = (filt ps).length := by rw [HI.out.ij, hjn, List.take_length]
        have hin : i < n := by rw [hie, ← hn]; exact HST.out
        obtain ⟨cs', h1, h2, h3, h4⟩ := HI.out.block
        rw [hjn, List.take_length] at h3
        have hclr := fun (c : Nat) => Lib.run_clear_slice (P := Tryd.prog) wr 31 35 0 (.slice none 0 0) Tryd.underlying31 Tryd.zeroValue35 rfl rfl g i (n - i) c (by omega)
          (fun t ht => by rw [Lib.cell_of_heap h1 (i + t), Array.getElem?_eq_getElem (by omega)]; rfl) (fun t _ => Lib.frozen_of_heap h1 (i + t))
        have hfin : ∀ (t : Nat) (h : t < (filt ps).length), (wr.setCells g i (List.replicate (n - i) (.slice none 0 0))).cell? ⟨g, 0 + t, none⟩ = some (filt ps)[t].1 := by
          intro t h
          rw [World.cell?_setCells_out g _ _ _ _ (fun _ _ => Or.inl (by show 0 + t < i; omega)), Nat.zero_add, Lib.cell_of_heap h1 t]
          exact h3 t h
        have HFIN := Lib.hid hfin; clear hfin
        have HIE := Lib.hid hie
        clear h1 h2 h3 h4 hjn hie
        go_wp2
        go_ret
        refine ⟨by rw [← HIE.out]; rfl, ?_, HFIN.out⟩
        exact only_setCells _ _ HI.out.grown
  · have hid := HIDX.out
    rw [if_neg hf] at hid
    clear HIDX
    have HID := Lib.hid hid; clear hid
    have hall : filt ps = ps := by
      have h := filt_before ps ps.length (by simp at hf; omega)
      rwa [List.take_length] at h
    have HA := Lib.hid hall; clear hall hf
    go_enter Tryd.func17, Tryd.ntmps17
    go_wp2_with fail
    refine HID.out.mono ?_
    rintro e w1 ⟨rfl, rfl⟩
    go_wp2
    go_ret
    refine ⟨by rw [HA.out, hn]; rfl, only_refl _ _, ?_⟩
    rw [HA.out]
    intro t ht
    rw [Nat.zero_add, Lib.cell_of_heap HB.out t, HC.out t ht]
end Go.Proofs.YtjndiielolphgaaDoor
