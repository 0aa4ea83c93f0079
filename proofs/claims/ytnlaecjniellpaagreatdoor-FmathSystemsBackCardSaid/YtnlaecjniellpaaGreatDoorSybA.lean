/- Numbers as texts of digits, fractions, values and the functions of fmath: contracts of the program's functions, joined from smaller texts. Conditions stand at each theorem. -/
import Derived.Test.YtnlaecjniellpaaGreatDoorNumG
import Derived.Test.YtnlaecjniellpaaGreatDoorNumH
import Derived.BigQuiet
import Derived.Test.YtnlaecjniellpaaGreatDoorSyaA
import Derived.Lib.MinMax

/- package value: WholeOr over the arguments. Conditions: the argument is a valid number or none; the tables lie as they are laid. -/
set_option linter.unusedVariables false
set_option linter.unusedSimpArgs false
namespace Go.Proofs.YtnlaecjniellpaaGreatDoor.Num
open Go.RowKit Go.Lib

set_option linter.unusedSimpArgs false in
set_option linter.unusedVariables false in
set_option maxHeartbeats 4000000 in
set_option maxRecDepth 100000 in
theorem wholeOr_some (b ab ao L C n : Nat) (q : Rat) (d : Int) (w : World) (h : ArgsAt w b (some ⟨ab, ao, none⟩) L C n) (hn : n < L) (hL : L ≤ 1000000000) (hne : ab ≠ b) (hc : NumCells w ab (ao + n * 9) q) (hq : fits q = true) (h0 : -1000000000 ≤ q.floor) (h1 : q.floor ≤ 1000000000) (hE : Env w) (hP : Past b) :
    Calls Tryz.prog 110 #[.pointer (some ⟨b, 0, none⟩), .int .i64 d] w fun e w' => e = .returned (.int .i64 q.floor) ∧ ArgRet w b (some ⟨ab, ao, none⟩) L C (n + 1) w' := by
  have TM := Lib.hid (fun W g => more_any b (some ⟨ab, ao, none⟩) L C n W g hL)
  have TW := Lib.hid (fun W ga gc ge => argWhole_any b ab ao L C n q W ga hn hL hne gc hq h0 h1 ge hP)
  rw [decide_eq_true hn] at TM
  have hnot : ∀ (x : Bool) (w : World), (Op.unary .not (.bool x)).run Tryz.prog w = .ok (.bool (!x)) w := fun _ _ => rfl
  have HA := Lib.hid h
  have HC := Lib.hid hc
  have HE := Lib.hid hE
  clear h hc hE hn h0 h1 hq
  go_enter Tryz.func110, Tryz.ntmps110
  go_wp2_with fail
  refine (TM.out _ HA.out).mono ?_
  rintro e W1 ⟨rfl, hb⟩
  replace HA := Lib.hid (keep_block HA.out hb)
  replace HC := Lib.hid (NumCells.below HC.out hb)
  replace HE := Lib.hid (HE.out.below hb)
  have HB := Lib.hid (kept_below (b := b) hb)
  clear hb
  go_wp2_with fail
  refine (TW.out _ HA.out HC.out HE.out).mono ?_
  rintro e W2 ⟨rfl, ha, hg⟩
  have HA2 := Lib.hid ha
  have HG := Lib.hid (kept_trans HB.out hg)
  clear ha hg
  go_wp2
  go_ret
  exact ⟨rfl, HA2.out, HG.out⟩

set_option linter.unusedSimpArgs false in
set_option linter.unusedVariables false in
set_option maxHeartbeats 4000000 in
set_option maxRecDepth 100000 in
theorem wholeOr_none (b : Nat) (A : Option Addr) (L C n : Nat) (d : Int) (w : World) (h : ArgsAt w b A L C n) (hn : ¬ n < L) (hL : L ≤ 1000000000) :
    Calls Tryz.prog 110 #[.pointer (some ⟨b, 0, none⟩), .int .i64 d] w fun e w' => e = .returned (.int .i64 d) ∧ ArgsAt w' b A L C n ∧ Below w.heap.size w w' := by
  have TM := Lib.hid (fun W g => more_any b A L C n W g hL)
  rw [decide_eq_false hn] at TM
  have hnot : ∀ (x : Bool) (w : World), (Op.unary .not (.bool x)).run Tryz.prog w = .ok (.bool (!x)) w := fun _ _ => rfl
  have HA := Lib.hid h
  clear h hn
  go_enter Tryz.func110, Tryz.ntmps110
  go_wp2_with fail
  refine (TM.out _ HA.out).mono ?_
  rintro e W1 ⟨rfl, hb⟩
  have HB := Lib.hid hb
  replace HA := Lib.hid (show ArgsAt W1 b A L C n from keep_block HA.out hb)
  clear hb
  go_wp2
  go_ret
  exact ⟨rfl, HA.out, HB.out⟩
end Go.Proofs.YtnlaecjniellpaaGreatDoor.Num

/- Walk of package fmath's gcd of whole numbers. Conditions: both lie in 0 .. 2^62. -/
namespace Go.Proofs.YtnlaecjniellpaaGreatDoor.Num
open Go.RowKit Go.Lib

set_option maxHeartbeats 2000000 in
set_option maxRecDepth 100000 in
theorem igcd_any (m n : Nat) (w : World) (h1 : m ≤ 4611686018427387904) (h2 : n ≤ 4611686018427387904) :
    Calls Tryz.prog 167 #[.int .i64 (m : Int), .int .i64 (n : Int)] w fun e w' => e = .returned (.int .i64 ((m.gcd n : Nat) : Int)) ∧ ∃ q, w' = w.drewN q := by
  obtain ⟨G, hG⟩ : ∃ G, m.gcd n = G := ⟨_, rfl⟩
  have HG := Lib.hid hG
  rw [hG]
  clear hG
  go_enter Tryz.func167, Tryz.ntmps167
  go_wp2_with fail
  go_loopg [0, 1] n (fun g v0 v1 wx => ∃ a b q : Nat, b ≤ g ∧ v0 = .int .i64 (a : Int) ∧ v1 = .int .i64 (b : Int) ∧ a.gcd b = G ∧ a ≤ 4611686018427387904 ∧ b ≤ 4611686018427387904 ∧ wx = w.drewN q)
  case atStart => exact ⟨m, n, 0, Nat.le_refl _, rfl, rfl, HG.out, h1, h2, (World.drewN_zero _).symm⟩
  case round =>
    obtain ⟨a, b, q, hb, rfl, rfl, hgcd, hla, hlb, rfl⟩ := hrel
    have HGC := Lib.hid hgcd; clear hgcd
    by_cases h0 : b = 0
    · subst h0
      have hz : decide ((0 : Int) < ((0 : Nat) : Int)) = false := rfl
      have hg := HGC.out
      rw [Nat.gcd_zero_right] at hg
      subst hg
      go_wp2_with fail
      go_ret
      exact ⟨rfl, q, rfl⟩
    · have hz : decide ((0 : Int) < (b : Int)) = true := decide_eq_true (by omega)
      have hne : ((b : Int) == 0) = false := by simp; omega
      have hmod : a % b < b := Nat.mod_lt _ (Nat.pos_of_ne_zero h0)
      have hg2 : b.gcd (a % b) = G := by rw [← HGC.out, Nat.gcd_comm a b, Nat.gcd_rec b a, Nat.gcd_comm]
      have HG2 := Lib.hid hg2; clear hg2
      go_wp2_with fail
      go_quiet (fail)
      go_wp2_with fail
      go_roundg (gk - 1)
      case measure => omega
      case rel => exact ⟨b, a % b, _, by omega, rfl, by rw [Int.natCast_emod], HG2.out, hlb, by omega, by rw [World.drewN_drewN]⟩
end Go.Proofs.YtnlaecjniellpaaGreatDoor.Num

/- Walk of package fmath's within. Conditions: none. -/
namespace Go.Proofs.YtnlaecjniellpaaGreatDoor.Num
open Go.RowKit Go.Lib

set_option maxHeartbeats 2000000 in
set_option maxRecDepth 100000 in
theorem within_in (n lo hi : Int) (w : World) (h1 : lo ≤ n) (h2 : n ≤ hi) : Calls Tryz.prog 170 #[.int .i64 n, .int .i64 lo, .int .i64 hi] w fun e w' => e = .returned (.tuple #[]) ∧ w' = w := by
  have d1 : decide (n < lo) = false := decide_eq_false (by omega)
  have d2 : decide (hi < n) = false := decide_eq_false (by omega)
  go_enter Tryz.func170, Tryz.ntmps170
  go_wp2_with fail
  go_end0
  exact ⟨rfl, rfl⟩
set_option maxHeartbeats 2000000 in
set_option maxRecDepth 100000 in
theorem within_out (n lo hi : Int) (w : World) (h1 : n < lo ∨ hi < n) : Calls Tryz.prog 170 #[.int .i64 n, .int .i64 lo, .int .i64 hi] w fun e w' => e = stopped 5 ∧ w' = w := by
  by_cases h : n < lo
  · have d1 : decide (n < lo) = true := decide_eq_true h
    go_enter Tryz.func170, Tryz.ntmps170
    go_wp2_with fail
    refine (stop_code 5 _ (by decide)).mono ?_
    rintro e w2 ⟨rfl, rfl⟩
    exact ⟨rfl, rfl, rfl⟩
  · have d1 : decide (n < lo) = false := decide_eq_false h
    have d2 : decide (hi < n) = true := decide_eq_true (by omega)
    go_enter Tryz.func170, Tryz.ntmps170
    go_wp2_with fail
    refine (stop_code 5 _ (by decide)).mono ?_
    rintro e w2 ⟨rfl, rfl⟩
    exact ⟨rfl, rfl, rfl⟩
end Go.Proofs.YtnlaecjniellpaaGreatDoor.Num

/- package fmath: BASE at whole numbers. Conditions: the tables lie as they are laid. -/
namespace Go.Proofs.YtnlaecjniellpaaGreatDoor.Num
open Go.RowKit Go.Lib

/-- a whole number among the arguments -/
theorem argInt_any (b ab L C n : Nat) (z : Int) (w : World) (h : ArgsAt w b (some ⟨ab, 0, none⟩) L C n) (hn : n < L) (hL : L ≤ 1000000000) (hne : ab ≠ b) (hc : NumCells w ab (0 + n * 9) ((z : Int) : Rat)) (h0 : -1000000000 ≤ z) (h1 : z ≤ 1000000000) (hE : Env w) (hP : Past b) :
    Calls Tryz.prog 113 #[.pointer (some ⟨b, 0, none⟩)] w fun e w' => e = .returned (.int .i64 z) ∧ ArgRet w b (some ⟨ab, 0, none⟩) L C (n + 1) w' := by
  have h2 := argWhole_any b ab 0 L C n (z : Rat) w h hn hL hne hc (fits_int z (by omega)) (by rw [Rat.floor_intCast]; exact h0) (by rw [Rat.floor_intCast]; exact h1) hE hP
  rw [Rat.floor_intCast] at h2
  exact h2
theorem argIntOr_any (b ab L C n : Nat) (z d : Int) (w : World) (h : ArgsAt w b (some ⟨ab, 0, none⟩) L C n) (hn : n < L) (hL : L ≤ 1000000000) (hne : ab ≠ b) (hc : NumCells w ab (0 + n * 9) ((z : Int) : Rat)) (h0 : -1000000000 ≤ z) (h1 : z ≤ 1000000000) (hE : Env w) (hP : Past b) :
    Calls Tryz.prog 110 #[.pointer (some ⟨b, 0, none⟩), .int .i64 d] w fun e w' => e = .returned (.int .i64 z) ∧ ArgRet w b (some ⟨ab, 0, none⟩) L C (n + 1) w' := by
  have h2 := wholeOr_some b ab 0 L C n (z : Rat) d w h hn hL hne hc (fits_int z (by omega)) (by rw [Rat.floor_intCast]; exact h0) (by rw [Rat.floor_intCast]; exact h1) hE hP
  rw [Rat.floor_intCast] at h2
  exact h2
/-- the signs of all digits -/
def digS : ByteArray := { data := #[48, 49, 50, 51, 52, 53, 54, 55, 56, 57, 65, 66, 67, 68, 69, 70, 71, 72, 73, 74, 75, 76, 77, 78, 79, 80, 81, 82, 83, 84, 85, 86, 87, 88, 89, 90] }
set_option maxRecDepth 100000 in
theorem digS_at : ∀ d : Fin 36, (digS.extract d.1 (d.1 + 1)).data.toList = [upD d.1] := by decide +kernel
theorem digS_ascii (i : Nat) (c : UInt8) (h : digS.data.toList[i]? = some c) : c.toNat < 128 := by
  have hall : ∀ c ∈ digS.data.toList, c.toNat < 128 := by decide
  exact hall c (List.mem_of_getElem? h)
theorem digit_slice (d : Nat) (hd : d < 36) (w : World) : (Instr.slice 9 (.string { data := #[48, 49, 50, 51, 52, 53, 54, 55, 56, 57, 65, 66, 67, 68, 69, 70, 71, 72, 73, 74, 75, 76, 77, 78, 79, 80, 81, 82, 83, 84, 85, 86, 87, 88, 89, 90] }) (some (.int .i64 (d : Int))) (some (.int .i64 ((d : Int) + 1))) none).run Tryz.prog w = .ok (.string { data := #[upD d] }) w := by
  have h := run_slice_string (P := Tryz.prog) (w := w) 9 digS .i64 .i64 (d : Int) ((d : Int) + 1) Tryz.underlying9 (by omega) (by omega) (by show (d : Int) + 1 ≤ ((36 : Nat) : Int); omega)
  have e1 : ((d : Int)).toNat = d := by omega
  have e2 : ((d : Int) + 1).toNat = d + 1 := by omega
  rw [e1, e2] at h
  have h3 : digS.extract d (d + 1) = { data := #[upD d] } := by
    apply ByteArray.ext
    apply Array.ext'
    exact digS_at ⟨d, hd⟩
  rw [h3] at h
  exact h
/-- the text of some digits -/
def sgS (s : List Nat) : ByteArray := ⟨(s.map upD).toArray⟩
theorem sgS_cons (d : Nat) (s : List Nat) : ({ data := #[upD d] } : ByteArray) ++ sgS s = sgS (d :: s) := by
  apply ByteArray.ext
  apply Array.ext'
  rw [ByteArray.data_append, Array.toList_append]
  simp [sgS]
theorem sgS_empty (s : List Nat) : (sgS s).toList.isEmpty = s.isEmpty := by
  rw [Lib.toList_data]
  cases s <;> rfl
theorem sgS_size (s : List Nat) : (sgS s).size = s.length := by simp [sgS, ByteArray.size]
theorem sgS_pad (k n m : Nat) : (⟨(List.replicate (m - (baseD k n).length) 48).toArray⟩ : ByteArray) ++ sgS (baseD k n) = baseU k n m := by
  apply ByteArray.ext
  apply Array.ext'
  rw [ByteArray.data_append, Array.toList_append]
  unfold baseU digL sgS
  rw [List.map_append, List.map_replicate]
  rfl
theorem TextCells.below {w w' : World} {ab ao : Nat} {s : ByteArray} (h : TextCells w ab ao s) (hb : Below w.heap.size w w') : TextCells w' ab ao s := CellsAt.below h hb
theorem TextCells.kept {w w' : World} {ab ao b : Nat} {s : ByteArray} (h : TextCells w ab ao s) (hg : w.grownBy w' (some b)) (hne : ab ≠ b) : TextCells w' ab ao s := CellsAt.kept h hg hne

set_option maxHeartbeats 4000000 in
set_option maxRecDepth 100000 in
theorem fn_base (b g C n k m : Nat) (w : World) (ha : ArgsAt w b (some ⟨g, 0, none⟩) 3 C 0) (hne : g ≠ b) (hc0 : NumCells w g (0 + 0 * 9) ((n : Int) : Rat)) (hc1 : NumCells w g (0 + 1 * 9) ((k : Int) : Rat)) (hc2 : NumCells w g (0 + 2 * 9) ((m : Int) : Rat)) (hn : n < 1000000) (hk : 2 ≤ k) (h36 : k ≤ 36) (hm : m < 30) (hE : Env w) (hP : Past b) :
    Calls Tryz.prog 185 #[.pointer (some ⟨b, 0, none⟩)] w fun e w' => e = .returned (tVal (baseU k n m)).agg ∧ w.grownBy w' (some b) := by
  have hb : Below w.heap.size w (w.alloc (.cells #[.int .i64 0, .string { data := #[] }, .string { data := #[] }, .string { data := #[] }, .bool false, .int .i64 0, .int .i64 0, .int .i64 0, .slice none 0 0] 27)) := (Below.refl _ _).alloc (Nat.le_refl _) _
  have HR := Lib.hid (heap_alloc_new w (.cells #[.int .i64 0, .string { data := #[] }, .string { data := #[] }, .string { data := #[] }, .bool false, .int .i64 0, .int .i64 0, .int .i64 0, .slice none 0 0] 27))
  have HG := Lib.hid (kept_below (b := b) hb)
  have HE := Lib.hid (hE.below hb)
  have HA := Lib.hid (show ArgsAt _ b (some ⟨g, 0, none⟩) 3 C 0 from keep_block ha hb)
  have HC0 := Lib.hid (hc0.below hb)
  have HC1 := Lib.hid (hc1.below hb)
  have HC2 := Lib.hid (hc2.below hb)
  have NE := Lib.hid (show w.heap.size ≠ b from Nat.ne_of_gt (heap_lt ha))
  have NG := Lib.hid hne
  have T0 := Lib.hid (fun W h1 h2 h3 => argInt_any b g 3 C 0 (n : Int) W h1 (by decide) (by decide) hne h2 (by omega) (by omega) h3 hP)
  have T1 := Lib.hid (fun W h1 h2 h3 => argInt_any b g 3 C 1 (k : Int) W h1 (by decide) (by decide) hne h2 (by omega) (by omega) h3 hP)
  have T2 := Lib.hid (fun W h1 h2 h3 => argIntOr_any b g 3 C 2 (m : Int) 0 W h1 (by decide) (by decide) hne h2 (by omega) (by omega) h3 hP)
  have TT := Lib.hid (fun W h => textV_T (baseU k n m) (plain_baseU k n m hk h36 hn hm) W h)
  have TI0 := Lib.hid (fun W => within_in (n : Int) 0 1000000000 W (by omega) (by omega))
  have TI1 := Lib.hid (fun W => within_in (k : Int) 2 36 W (by omega) (by omega))
  have TI2 := Lib.hid (fun W => within_in (m : Int) 0 255 W (by omega) (by omega))
  have LL := Lib.hid (baseD_len k n hk hn)
  have PD := Lib.hid (sgS_pad k n m)
  have HP := Lib.hid hP
  clear hb ha hne hc0 hc1 hc2 hE hP
  unfold Val.agg tVal
  obtain ⟨T, hT⟩ : ∃ T, baseU k n m = T := ⟨_, rfl⟩
  rw [hT] at TT PD ⊢
  clear hT
  go_enter Tryz.func185, Tryz.ntmps185
  go_wp2_with fail
  refine (T0.out _ HA.out HC0.out HE.out).mono ?_
  rintro e W1 ⟨rfl, ha, hg⟩
  replace HA := Lib.hid ha
  replace HG := Lib.hid (kept_trans HG.out hg)
  replace HR := Lib.hid (kept_block HR.out hg NE.out)
  replace HE := Lib.hid (HE.out.kept hg HP.out)
  replace HC1 := Lib.hid (HC1.out.kept hg NG.out)
  replace HC2 := Lib.hid (HC2.out.kept hg NG.out)
  clear ha hg HC0 T0
  go_wp2_with fail
  refine (T1.out _ HA.out HC1.out HE.out).mono ?_
  rintro e W2 ⟨rfl, ha, hg⟩
  replace HA := Lib.hid ha
  replace HG := Lib.hid (kept_trans HG.out hg)
  replace HR := Lib.hid (kept_block HR.out hg NE.out)
  replace HE := Lib.hid (HE.out.kept hg HP.out)
  replace HC2 := Lib.hid (HC2.out.kept hg NG.out)
  clear ha hg HC1 T1
  go_wp2_with fail
  refine (T2.out _ HA.out HC2.out HE.out).mono ?_
  rintro e W3 ⟨rfl, ha, hg⟩
  replace HG := Lib.hid (kept_trans HG.out hg)
  replace HR := Lib.hid (kept_block HR.out hg NE.out)
  replace HE := Lib.hid (HE.out.kept hg HP.out)
  clear ha hg HC2 T2 HA
  go_wp2_with fail
  refine (TI0.out _).mono ?_
  rintro e W4 ⟨rfl, h4⟩
  replace h4 := h4.symm
  subst h4
  go_wp2_with fail
  refine (TI1.out _).mono ?_
  rintro e W5 ⟨rfl, h5⟩
  replace h5 := h5.symm
  subst h5
  go_wp2_with fail
  refine (TI2.out _).mono ?_
  rintro e W6 ⟨rfl, h6⟩
  replace h6 := h6.symm
  subst h6
  go_wp2_with fail
  go_loopg [3, 6] (n + 1) (fun gh v3 v6 wx => ∃ (i q : Nat) (s : List Nat), v3 = .int .i64 (i : Int) ∧ v6 = .string (sgS s) ∧ i ≤ n ∧ ((0 < i ∨ s = []) → i < gh) ∧ baseGo k gh i s = baseD k n ∧ wx = W3.drewN q)
  case atStart => exact ⟨n, 0, [], rfl, rfl, Nat.le_refl _, fun _ => by omega, rfl, rfl⟩
  case round =>
    obtain ⟨i, q, s, rfl, rfl, hi, hgh, hgo, rfl⟩ := hrel
    have hem := sgS_empty s
    by_cases hc : 0 < i ∨ s = []
    · obtain ⟨f, rfl⟩ : ∃ f, gk = f + 1 := ⟨gk - 1, by have := hgh hc; omega⟩
      rw [base_step k f i s hc] at hgo
      obtain ⟨d, hd⟩ : ∃ d, i % k = d := ⟨_, rfl⟩
      have hd36 : d < 36 := by rw [← hd]; exact Nat.lt_of_lt_of_le (Nat.mod_lt _ (by omega)) h36
      have hdm : ((i : Int) % (k : Int)) = (d : Int) := by rw [← hd]; rfl
      obtain ⟨j, hj⟩ : ∃ j, i / k = j := ⟨_, rfl⟩
      have hjm : ((i : Int) / (k : Int)) = (j : Int) := by rw [← hj]; rfl
      have hsl := fun W => digit_slice d hd36 W
      have hji : j ≤ i := by rw [← hj]; exact Nat.div_le_self _ _
      have hjl : 0 < j → j < i := by
        intro h
        rw [← hj]
        exact Nat.div_lt_self (by rcases Nat.eq_zero_or_pos i with h0 | h0; (rw [h0, Nat.zero_div] at hj; omega); exact h0) hk
      rw [hd, hj] at hgo
      have HGO := Lib.hid hgo
      have HGH := Lib.hid (hgh hc)
      have HU := Lib.hid (sgS_cons d s)
      have hsl0 := baseGo_ge k f j (d :: s)
      rw [hgo] at hsl0
      have hL := LL.out
      simp only [List.length_cons] at hsl0
      have hov : ¬ 9223372036854775807 < 1 + (sgS s).size := by rw [sgS_size]; omega
      clear hgo hgh hd hj hsl0 hL
      by_cases h0 : 0 < i
      · have e0 : decide ((0 : Int) < (i : Int)) = true := decide_eq_true (by omega)
        clear hc
        go_wp2
        go_quiet (fail)
        go_wp2
        rw [HU.out]
        go_roundg f
        case measure => omega
        case rel =>
          refine ⟨j, q + nq, d :: s, rfl, rfl, by omega, fun h => ?_, HGO.out, rfl⟩
          rcases h with h | h
          · have := hjl h
            have := HGH.out
            omega
          · cases h
      · have e0 : decide ((0 : Int) < (i : Int)) = false := decide_eq_false (by omega)
        have hse : s = [] := by
          rcases hc with h | h
          · exact absurd h h0
          · exact h
        rw [hse] at hem
        simp only [List.isEmpty_nil] at hem
        rw [← hse] at hem
        clear hc hse
        go_wp2
        go_quiet (fail)
        go_wp2
        rw [HU.out]
        go_roundg f
        case measure => omega
        case rel =>
          refine ⟨j, q + nq, d :: s, rfl, rfl, by omega, fun h => ?_, HGO.out, rfl⟩
          rcases h with h | h
          · have := hjl h
            have := HGH.out
            omega
          · cases h
    · obtain rfl : i = 0 := by have : ¬ 0 < i := fun h => hc (.inl h); omega
      rw [show (((0 : Nat)) : Int) = 0 from rfl]
      have e0 : decide ((0 : Int) < 0) = false := by decide
      have hse : s.isEmpty = false := by
        cases s with
        | nil => exact absurd (.inr rfl) hc
        | cons a t => rfl
      rw [hse] at hem
      rw [base_stop k gk 0 s hc] at hgo
      subst hgo
      obtain ⟨c, hcc⟩ : ∃ c, m - (baseD k n).length = c := ⟨_, rfl⟩
      rw [hcc] at PD
      have hL := LL.out
      have hmx : max (0 : Int) ((m : Int) - ((sgS (baseD k n)).size : Int)) = (c : Int) := by rw [sgS_size]; omega
      have TR := Lib.hid (fun W => Tryz.strings_Repeat { data := #[48] } c W (by omega) (by show 1 * c ≤ _; omega))
      have hl : (({ data := #[48] } : ByteArray)).data.toList = [48] := rfl
      rw [hl, repeat_zero] at TR
      obtain ⟨z, hz⟩ : ∃ z : ByteArray, (⟨(List.replicate c 48).toArray⟩ : ByteArray) = z := ⟨_, rfl⟩
      have hzs : z.size = c := by rw [← hz]; show (List.replicate c (48 : UInt8)).toArray.size = c; simp
      rw [hz] at TR PD
      have hss := sgS_size (baseD k n)
      obtain ⟨S, hS⟩ : ∃ S, sgS (baseD k n) = S := ⟨_, rfl⟩
      rw [hS] at PD hem hmx hss
      have hov : ¬ 9223372036854775807 < z.size + S.size := by omega
      have hwm : IntKind.i64.wrap ((m : Int) - (S.size : Int)) = (m : Int) - (S.size : Int) := IntWalk.i64_in _ (by omega)
      clear hc hse hcc hL hl hz hzs
      have HDW : Hid (Below W3.heap.size W3 (W3.drewN q)) := Lib.hid (below_drewN (Below.refl _ _) q)
      replace HR := Lib.hid (keep_block HR.out HDW.out)
      replace HE := Lib.hid (HE.out.below HDW.out)
      replace HG := Lib.hid (kept_trans HG.out (kept_below HDW.out))
      rw [hS]
      clear hS hgh hi HDW hss
      go_wp2_with fail
      refine (TR.out _).mono ?_
      rintro e V1 ⟨rfl, hb⟩
      replace HG := Lib.hid (kept_trans HG.out (kept_below hb))
      replace HR := Lib.hid (keep_block HR.out hb)
      replace HE := Lib.hid (HE.out.below hb)
      clear hb
      have HPD := Lib.hid PD
      clear PD
      go_wp2_with fail
      rw [HPD.out]
      refine (TT.out _ HE.out).mono ?_
      rintro e V2 ⟨rfl, hb⟩
      replace HG := Lib.hid (kept_trans HG.out (kept_below hb))
      replace HR := Lib.hid (keep_block HR.out hb)
      clear hb
      obtain ⟨⟨r0, r1, r2, r3, r4, r5, r6, r7, r8⟩, g0, g1, g2, g3, g4, g5, g6, g7, g8⟩ := nine_at HR.out
      have HF := Lib.hid (set9_at HR.out (.int .i64 2) (.string { data := #[] }) (.string { data := #[] }) (.string T) (.bool false) (.int .i64 0) (.int .i64 0) (.int .i64 0) (.slice none 0 0))
      have HG2 := Lib.hid (kept_set9 HG.out (Nat.le_refl _) (.int .i64 2) (.string { data := #[] }) (.string { data := #[] }) (.string T) (.bool false) (.int .i64 0) (.int .i64 0) (.int .i64 0) (.slice none 0 0))
      obtain ⟨⟨z0, z1, z2, z3, z4, z5, z6, z7, z8⟩, _⟩ := nine_at HF.out
      go_wp2
      refine bodyPost_ret (v := .agg #[.int .i64 2, .string { data := #[] }, .string { data := #[] }, .string T, .bool false, .int .i64 0, .int .i64 0, .int .i64 0, .slice none 0 0]) (by simp [results, Tryz.results185, go_sem, z0, z1, z2, z3, z4, z5, z6, z7, z8]) rfl ⟨rfl, HG2.out⟩
end Go.Proofs.YtnlaecjniellpaaGreatDoor.Num
