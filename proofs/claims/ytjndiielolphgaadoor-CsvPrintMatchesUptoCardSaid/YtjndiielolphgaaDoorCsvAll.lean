/- chanceryref2.All with the law's closure: whether no byte of a text ends a plain field. Conditions: the closure's variable holds the separator; the text has at most 4000000000 bytes. -/
import Derived.Test.YtjndiielolphgaaDoorCsvPrintA
namespace Go.Proofs.YtjndiielolphgaaDoor
open Go.RowKit

def keepI (sep x : Int) : Bool := x != sep && x != 34 && x != 10 && x != 13

set_option maxHeartbeats 2000000 in
theorem keep_any (x sep : Int) (B : Nat) (w : World) (hc : w.cell? ⟨B, 0, none⟩ = some (.int .u8 sep)) (r : Bool) (hr : keepI sep x = r) :
    Calls Tryd.prog 15 #[.int .u8 x, .pointer (some ⟨B, 0, none⟩)] w fun e w' => e = .returned (.bool r) ∧ ∃ q, w' = w.drewN q := by
  unfold keepI at hr
  have hne : ∀ k : Int, (x != k) = !(x == k) := fun k => rfl
  rw [hne, hne, hne, hne] at hr
  cases h1 : (x == sep) with
  | true =>
    rw [h1] at hr
    simp only [Bool.not_true, Bool.false_and] at hr
    subst hr
    have b1 : (x != sep) = false := by rw [hne, h1]; rfl
    go_enter Tryd.func15, Tryd.ntmps15
    go_wp2
    go_ret
    exact ⟨rfl, 0, rfl⟩
  | false =>
    have b1 : (x != sep) = true := by rw [hne, h1]; rfl
    cases h2 : (x == 34) with
    | true =>
      rw [h1, h2] at hr
      simp only [Bool.not_true, Bool.not_false, Bool.true_and, Bool.false_and] at hr
      subst hr
      have b2 : (x != 34) = false := by rw [hne, h2]; rfl
      go_enter Tryd.func15, Tryd.ntmps15
      go_wp2
      go_ret
      exact ⟨rfl, 0, rfl⟩
    | false =>
      have b2 : (x != 34) = true := by rw [hne, h2]; rfl
      cases h3 : (x == 10) with
      | true =>
        rw [h1, h2, h3] at hr
        simp only [Bool.not_true, Bool.not_false, Bool.true_and, Bool.false_and] at hr
        subst hr
        have b3 : (x != 10) = false := by rw [hne, h3]; rfl
        go_enter Tryd.func15, Tryd.ntmps15
        go_wp2
        go_ret
        exact ⟨rfl, 0, rfl⟩
      | false =>
        have b3 : (x != 10) = true := by rw [hne, h3]; rfl
        rw [h1, h2, h3] at hr
        simp only [Bool.not_false, Bool.true_and] at hr
        rw [← hne] at hr
        have hr2 : (x != 13) = r := hr
        clear hr
        go_enter Tryd.func15, Tryd.ntmps15
        go_wp2
        go_ret
        exact ⟨ret_bool hr2, 0, rfl⟩

theorem keepI_stop (sep : Int) (c b : UInt8) (hc : sep = c.toNat) : keepI sep b.toNat = !Csv.stop c b := by
  subst hc
  have e : ∀ k : UInt8, (((b.toNat : Nat) : Int) != ((k.toNat : Nat) : Int)) = !(b == k) := by
    intro k
    rw [Bool.eq_iff_iff]
    simp only [bne_iff_ne, ne_eq, Bool.not_eq_true', beq_eq_false_iff_ne]
    constructor
    · intro h he; exact h (by rw [he])
    · intro h he; exact h (UInt8.toNat_inj.1 (by omega))
  have e34 := e 34
  have e10 := e 10
  have e13 := e 13
  have t34 : (((34 : UInt8).toNat : Nat) : Int) = 34 := rfl
  have t10 : (((10 : UInt8).toNat : Nat) : Int) = 10 := rfl
  have t13 : (((13 : UInt8).toNat : Nat) : Int) = 13 := rfl
  rw [t34] at e34; rw [t10] at e10; rw [t13] at e13
  unfold keepI Csv.stop
  rw [e c, e34, e10, e13]
  cases (b == c) <;> cases (b == 34) <;> cases (b == 10) <;> cases (b == 13) <;> rfl

set_option maxHeartbeats 2000000 in
set_option maxRecDepth 100000 in
theorem all_any (s : ByteArray) (sep : Int) (c : UInt8) (B : Nat) (w : World) (hs : s.size ≤ 4000000000) (hc : w.cell? ⟨B, 0, none⟩ = some (.int .u8 sep)) (hn : sep = c.toNat) (R : Bool) (hR : s.data.toList.all (fun b => !Csv.stop c b) = R) :
    Calls Tryd.prog 14 #[.string s, .func (.func 15) #[] #[.pointer (some ⟨B, 0, none⟩)]] w fun e w' => e = .returned (.bool R) ∧ ∃ q, w' = w.drewN q := by
  have HC := Lib.hid hc; clear hc
  have HN := Lib.hid hn; clear hn
  have HR := Lib.hid hR; clear hR
  go_enter Tryd.func14, Tryd.ntmps14
  go_wp2
  go_loopg [8] s.size (fun g v8 wx => ∃ i q : Nat, i + g = s.size ∧ v8 = .int .i64 i ∧ wx = w.drewN q ∧ (s.data.toList.drop i).all (fun b => !Csv.stop c b) = R)
  case atStart => exact ⟨0, 0, by omega, rfl, rfl, by simpa using HR.out⟩
  case round =>
    obtain ⟨i, q, hi, rfl, rfl, hall⟩ := hrel
    by_cases hlt : i < s.size
    · have hltb : decide ((i : Int) < (s.size : Int)) = true := decide_eq_true (by omega)
      have hltn : decide (i < s.size) = true := decide_eq_true hlt
      rw [drop_cons s i hlt, List.all_cons] at hall
      obtain ⟨y, hy⟩ : ∃ y : UInt8, s[i]'hlt = y := ⟨_, rfl⟩
      have hk : keepI sep y.toNat = !Csv.stop c y := keepI_stop sep c y HN.out
      rw [hy] at hall
      have hq := HC.out
      cases hst : Csv.stop c y with
      | true =>
        rw [hst] at hall hk
        have HK := Lib.hid hk; clear hk
        simp only [Bool.not_true, Bool.false_and] at hall
        subst hall
        clear hst
        go_wp2_with fail
        refine (keep_any _ sep B _ (by exact HC.out) false HK.out).mono ?_
        rintro e w' ⟨rfl, q2, rfl⟩
        go_wp2
        go_ret
        exact ⟨rfl, q + q2, by simp⟩
      | false =>
        rw [hst] at hall hk
        have HK := Lib.hid hk; clear hk
        simp only [Bool.not_false, Bool.true_and] at hall
        have HA := Lib.hid hall; clear hall
        clear hst
        go_wp2_with fail
        refine (keep_any _ sep B _ (by exact HC.out) true HK.out).mono ?_
        rintro e w' ⟨rfl, q2, rfl⟩
        go_wp2
        go_roundg (gk - 1)
        case measure => omega
        case rel => exact ⟨i + 1, q + q2, by omega, by go_num, by simp, HA.out⟩
    · have hltb : decide ((i : Int) < (s.size : Int)) = false := decide_eq_false (by omega)
      have hltn : decide (i < s.size) = false := decide_eq_false hlt
      have hin : i = s.size := by omega
      rw [hin, List.drop_of_length_le (by simp)] at hall
      simp only [List.all_nil] at hall
      subst hall
      go_wp2
      go_ret
      exact ⟨rfl, _, rfl⟩
end Go.Proofs.YtjndiielolphgaaDoor
