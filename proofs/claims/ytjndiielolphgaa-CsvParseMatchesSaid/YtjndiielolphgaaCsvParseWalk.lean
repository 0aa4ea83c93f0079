/- The walk of the law CsvParseMatches: it returns true for every text and every separator. No conditions. -/
import Derived.Test.YtjndiielolphgaaCsvRef
import Derived.Test.YtjndiielolphgaaCsvFields
namespace Go.Proofs.Ytjndiielolphgaa
open Go.RowKit

set_option maxHeartbeats 400000 in
theorem parse_badsep (s : ByteArray) (sep : Int) (w : World) (hsep : isSep sep = false) :
    Calls Try.prog 5 #[.string s, .int .u8 sep] w fun e w' => e = .returned (.tuple #[.slice none 0 0, .int .i64 0, .int .i64 1]) ∧ w' = w := by
  have HS := Lib.hid hsep; clear hsep
  go_enter Try.func5, Try.ntmps5
  go_wp2_with (go_at_call 11; refine (csvSep_any _ _).mono ?_; rintro e w' ⟨rfl, hw⟩; rw [hw, HS.out])
  go_ret3
  exact ⟨rfl, rfl⟩

theorem cut_le (a : ByteArray) : (a.extract 0 (min (a.size : Int) 400).toNat).size ≤ 400 := by
  rw [ByteArray.size_extract]; omega

theorem OwnRows.below {T S : TypeId} {B : Nat} {v : Value} {rs : List (List Csv.Bytes)} {w w' : World} (h : OwnRows T S B v rs w) (hb : Below w.heap.size w w') : OwnRows T S B v rs w' :=
  h.keep (KeepKind.below hb) (KeepKind.below hb)

theorem ownRows_slice {T S : TypeId} {B : Nat} {v : Value} {rs : List (List Csv.Bytes)} {w : World} (h : OwnRows T S B v rs w) : ∃ a cap, v = .slice a rs.length cap := by
  obtain ⟨vs, h1, _⟩ := h
  exact owns_form h1

set_option maxHeartbeats 2000000 in
set_option maxRecDepth 100000 in
theorem law_any (a : ByteArray) (sep : Int) (w : World) (hsz : a.size ≤ maxLen) :
    Calls Try.prog 3 #[.string a, .int .u8 sep] w fun e w' => e = .returned (.bool true) ∧ Below w.heap.size w w' := by
  unfold maxLen at hsz
  cases hsep : isSep sep with
  | false =>
    have HS := Lib.hid hsep; clear hsep
    go_enter Try.func3, Try.ntmps3
    go_wp2_with fail
    refine (fields_true _).mono ?_
    rintro e w1 ⟨rfl, hb⟩
    have HB := Lib.hid hb; clear hb
    go_wp2_with fail
    generalize a.extract 0 (min (a.size : Int) 400).toNat = S
    refine (parse_badsep _ _ _ HS.out).mono ?_
    rintro e w2 ⟨rfl, rfl⟩
    go_wp2_with (go_at_call 6; refine (lawSep_any _ _).mono ?_; rintro e w' ⟨rfl, hw⟩; rw [hw, HS.out])
    go_ret
    exact ⟨rfl, HB.out⟩
  | true =>
    have HS := Lib.hid hsep; clear hsep
    obtain ⟨c, hc, hc2⟩ := sep_facts sep HS.out
    have HC := Lib.hid hc; clear hc
    have hnum := HC.out.num
    have HN := Lib.hid hnum; clear hnum
    go_enter Try.func3, Try.ntmps3
    go_wp2_with fail
    refine (fields_true _).mono ?_
    rintro e w1 ⟨rfl, hb⟩
    have HB := Lib.hid hb; clear hb
    go_wp2_with fail
    have hS := cut_le a
    generalize a.extract 0 (min (a.size : Int) 400).toNat = S at hS ⊢
    cases hres : Csv.parse c S.data.toList (S.size + 1) 0 [] with
    | ok rows =>
      have HP := Lib.hid hres
      have href : Csv.ref c (S.size + 1) S.data.toList 0 [] [] [] 0 false = .ok rows := by
        have := Csv.ref_parse c HC.out.ok S.data.toList (S.size + 1) 0 [] (Nat.zero_le _) (by simp)
        rw [hres] at this; exact this.symm
      have HQ := Lib.hid href; clear href hres
      refine (parse_any S sep c _ (by omega) HC.out hc2 HS.out _ HP.out).mono ?_
      rintro e w2 ⟨hb2, v, rfl, hown, hlen⟩
      have HB2 := Lib.hid hb2; clear hb2
      have HO := Lib.hid hown
      obtain ⟨a5, c5, hv⟩ := ownRows_slice hown
      subst hv
      clear hown
      go_wp2_with (go_at_call 6; refine (lawSep_any _ _).mono ?_; rintro e w' ⟨rfl, hw⟩; rw [hw, HS.out])
      refine (ref_any S sep c _ (by omega) HN.out _ HQ.out).mono ?_
      rintro e w3 ⟨hb3, v3, rfl, hown3⟩
      have HB3 := Lib.hid hb3; clear hb3
      have HO3 := Lib.hid hown3
      obtain ⟨a6, c6, hv3⟩ := ownRows_slice hown3
      subst hv3
      clear hown3
      go_wp2_with fail
      refine (equalRows_true (by exact HO.out.below HB3.out) (by exact HO3.out) hlen).mono ?_
      rintro e w' ⟨rfl, q, rfl⟩
      go_wp2
      go_ret
      exact ⟨rfl, below_drewN (HB.out.trans ((HB2.out.mono HB.out.size).trans (HB3.out.mono (Nat.le_trans HB.out.size HB2.out.size)))) _⟩
    | bad at_ =>
      have HP := Lib.hid hres
      have href : Csv.ref c (S.size + 1) S.data.toList 0 [] [] [] 0 false = .bad at_ := by
        have := Csv.ref_parse c HC.out.ok S.data.toList (S.size + 1) 0 [] (Nat.zero_le _) (by simp)
        rw [hres] at this; exact this.symm
      have HQ := Lib.hid href; clear href hres
      refine (parse_any S sep c _ (by omega) HC.out hc2 HS.out _ HP.out).mono ?_
      rintro e w2 ⟨hb2, rfl⟩
      have HB2 := Lib.hid hb2; clear hb2
      go_wp2_with (go_at_call 6; refine (lawSep_any _ _).mono ?_; rintro e w' ⟨rfl, hw⟩; rw [hw, HS.out])
      refine (ref_any S sep c _ (by omega) HN.out _ HQ.out).mono ?_
      rintro e w3 ⟨hb3, rfl⟩
      have HB3 := Lib.hid hb3; clear hb3
      have hge : (0 : Int) ≤ (at_ : Int) := by omega
      go_wp2
      go_ret
      exact ⟨rfl, HB.out.trans ((HB2.out.mono HB.out.size).trans (HB3.out.mono (Nat.le_trans HB.out.size HB2.out.size)))⟩
end Go.Proofs.Ytjndiielolphgaa
