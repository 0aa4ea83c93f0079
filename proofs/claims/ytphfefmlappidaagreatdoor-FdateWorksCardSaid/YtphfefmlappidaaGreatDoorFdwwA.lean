/- Numbers as texts of digits, fractions, values and the functions of fmath: contracts of the program's functions, joined from smaller texts. Conditions stand at each theorem. -/
import Derived.Test.YtphfefmlappidaaGreatDoorFdcD
import Derived.Test.YtphfefmlappidaaGreatDoorFdxB

/- The law FdateWorks' own walk. Conditions: the tables lie as they are laid. -/
namespace Go.Proofs.YtphfefmlappidaaGreatDoor.Num.Fd
open Go.RowKit Go.Lib Num

/-- what date gives at two numbers and a row of days -/
def Date3 (nm : ByteArray) (p q : Rat) (ms : List Int) (v : Value) : Prop := ∀ (W : World) (G g cap : Nat), W.heap[G]? = some (.cells #[.int .i64 1, .string (numS p), .string (denS p), .string { data := #[] }, .bool false, .int .i64 0, .int .i64 0, .int .i64 0, .slice none 0 0, .int .i64 1, .string (numS q), .string (denS q), .string { data := #[] }, .bool false, .int .i64 0, .int .i64 0, .int .i64 0, .slice none 0 0, .int .i64 5, .string { data := #[] }, .string { data := #[] }, .string { data := #[] }, .bool false, .int .i64 0, .int .i64 1, .int .i64 (ms.length : Int), .slice (some ⟨g, 0, none⟩) ms.length cap] 30 (0, 0)) → ValsAt W g 0 (numVals (days ms)) → Env W → Calls Tryz.prog 20 #[.string nm, .slice (some ⟨G, 0, none⟩) 3 3] W fun e w' => e = .returned v ∧ Below W.heap.size W w'

attribute [local irreducible] wpOp
set_option linter.unusedVariables false in
/-- what the operations of region 9 yield -/
def WkaKs9 (m t c : Int) (ln g cap B : Nat) (N K M D F W3 W5 Wk : Rat) : List RK :=
  [.pure (.int .i64 (10000 + m)),
   .pure (.agg #[.int .i64 1, .string (numS N), .string (denS N), .string { data := #[] }, .bool false, .int .i64 0, .int .i64 0, .int .i64 0, .slice none 0 0]),
   .pure (.int .i64 (1 + t)),
   .pure (.agg #[.int .i64 1, .string (numS K), .string (denS K), .string { data := #[] }, .bool false, .int .i64 0, .int .i64 0, .int .i64 0, .slice none 0 0]),
   .pure (.agg #[.int .i64 5, .string { data := #[] }, .string { data := #[] }, .string { data := #[] }, .bool false, .int .i64 0, .int .i64 1, .int .i64 (ln : Int), .slice (some ⟨g, 0, none⟩) ln cap]),
   .row #[.int .i64 1, .string (numS N), .string (denS N), .string { data := #[] }, .bool false, .int .i64 0, .int .i64 0, .int .i64 0, .slice none 0 0, .int .i64 1, .string (numS K), .string (denS K), .string { data := #[] }, .bool false, .int .i64 0, .int .i64 0, .int .i64 0, .slice none 0 0, .int .i64 5, .string { data := #[] }, .string { data := #[] }, .string { data := #[] }, .bool false, .int .i64 0, .int .i64 1, .int .i64 (ln : Int), .slice (some ⟨g, 0, none⟩) ln cap] 30 3,
   .pure (.agg #[.int .i64 1, .string (numS D), .string (denS D), .string { data := #[] }, .bool false, .int .i64 0, .int .i64 0, .int .i64 0, .slice none 0 0]),
   .box none #[.int .i64 0, .string { data := #[] }, .string { data := #[] }, .string { data := #[] }, .bool false, .int .i64 0, .int .i64 0, .int .i64 0, .slice none 0 0] #[.int .i64 1, .string (numS D), .string (denS D), .string { data := #[] }, .bool false, .int .i64 0, .int .i64 0, .int .i64 0, .slice none 0 0] 30 8,
   .put 7]
set_option linter.unusedVariables false in
/-- what the operations of region 12 yield -/
def WkaKs12 (m t c : Int) (ln g cap B : Nat) (N K M D F W3 W5 Wk : Rat) : List RK :=
  [.pure (.agg #[.int .i64 1, .string (numS D), .string (denS D), .string { data := #[] }, .bool false, .int .i64 0, .int .i64 0, .int .i64 0, .slice none 0 0]),
   .pure (.agg #[.int .i64 1, .string (numS M), .string (denS M), .string { data := #[] }, .bool false, .int .i64 0, .int .i64 0, .int .i64 0, .slice none 0 0]),
   .pure (.agg #[.int .i64 1, .string (numS F), .string (denS F), .string { data := #[] }, .bool false, .int .i64 0, .int .i64 0, .int .i64 0, .slice none 0 0]),
   .box none #[.int .i64 0, .string { data := #[] }, .string { data := #[] }, .string { data := #[] }, .bool false, .int .i64 0, .int .i64 0, .int .i64 0, .slice none 0 0] #[.int .i64 1, .string (numS F), .string (denS F), .string { data := #[] }, .bool false, .int .i64 0, .int .i64 0, .int .i64 0, .slice none 0 0] 30 4,
   .put 3]
set_option linter.unusedVariables false in
/-- what the operations of region 13 yield -/
def WkaKs13 (m t c : Int) (ln g cap B : Nat) (N K M D F W3 W5 Wk : Rat) : List RK :=
  [.pure (.agg #[.int .i64 1, .string (numS D), .string (denS D), .string { data := #[] }, .bool false, .int .i64 0, .int .i64 0, .int .i64 0, .slice none 0 0]),
   .pure (.agg #[.int .i64 1, .string (numS W3), .string (denS W3), .string { data := #[] }, .bool false, .int .i64 0, .int .i64 0, .int .i64 0, .slice none 0 0]),
   .row #[.int .i64 1, .string (numS D), .string (denS D), .string { data := #[] }, .bool false, .int .i64 0, .int .i64 0, .int .i64 0, .slice none 0 0, .int .i64 1, .string (numS W3), .string (denS W3), .string { data := #[] }, .bool false, .int .i64 0, .int .i64 0, .int .i64 0, .slice none 0 0] 30 2,
   .pure (.agg #[.int .i64 1, .string (numS Wk), .string (denS Wk), .string { data := #[] }, .bool false, .int .i64 0, .int .i64 0, .int .i64 0, .slice none 0 0]),
   .box none #[.int .i64 0, .string { data := #[] }, .string { data := #[] }, .string { data := #[] }, .bool false, .int .i64 0, .int .i64 0, .int .i64 0, .slice none 0 0] #[.int .i64 1, .string (numS Wk), .string (denS Wk), .string { data := #[] }, .bool false, .int .i64 0, .int .i64 0, .int .i64 0, .slice none 0 0] 30 5,
   .put 4]
set_option linter.unusedVariables false in
/-- what the operations of region 14 yield -/
def WkaKs14 (m t c : Int) (ln g cap B : Nat) (N K M D F W3 W5 Wk : Rat) : List RK :=
  [.pure (.agg #[.int .i64 1, .string (numS Wk), .string (denS Wk), .string { data := #[] }, .bool false, .int .i64 0, .int .i64 0, .int .i64 0, .slice none 0 0]),
   .pure (.agg #[.int .i64 1, .string (numS W5), .string (denS W5), .string { data := #[] }, .bool false, .int .i64 0, .int .i64 0, .int .i64 0, .slice none 0 0]),
   .pure (.tuple #[.int .i64 c, .int .i64 0]),
   .pure (.tuple #[.int .i64 c, .int .i64 0]),
   .pure (.int .i64 c),
   .pure (.int .i64 0),
   .pure (.int .i64 c),
   .pure (.int .i64 0)]
set_option linter.unusedVariables false in
/-- what the operations of region 15 yield -/
def WkaKs15 (m t c : Int) (ln g cap B : Nat) (N K M D F W3 W5 Wk : Rat) (b11 : Nat) : List RK :=
  [.pure (.int .i64 (10000 + m)),
   .pure (.int .i64 (10000 + m + 1)),
   .pure (.agg #[.int .i64 1, .string (numS D), .string (denS D), .string { data := #[] }, .bool false, .int .i64 0, .int .i64 0, .int .i64 0, .slice none 0 0]),
   .pure (.agg #[.int .i64 1, .string (numS D), .string (denS D), .string { data := #[] }, .bool false, .int .i64 0, .int .i64 0, .int .i64 0, .slice none 0 0]),
   .pure (.agg #[.int .i64 5, .string { data := #[] }, .string { data := #[] }, .string { data := #[] }, .bool false, .int .i64 0, .int .i64 1, .int .i64 (ln : Int), .slice (some ⟨g, 0, none⟩) ln cap]),
   .row #[.int .i64 1, .string (numS D), .string (denS D), .string { data := #[] }, .bool false, .int .i64 0, .int .i64 0, .int .i64 0, .slice none 0 0, .int .i64 1, .string (numS D), .string (denS D), .string { data := #[] }, .bool false, .int .i64 0, .int .i64 0, .int .i64 0, .slice none 0 0, .int .i64 5, .string { data := #[] }, .string { data := #[] }, .string { data := #[] }, .bool false, .int .i64 0, .int .i64 1, .int .i64 (ln : Int), .slice (some ⟨g, 0, none⟩) ln cap] 30 3,
   .pure (.agg #[.int .i64 1, .string (numS K), .string (denS K), .string { data := #[] }, .bool false, .int .i64 0, .int .i64 0, .int .i64 0, .slice none 0 0]),
   .pure (.int .i64 (1 + t)),
   .pure (.agg #[.int .i64 1, .string (numS K), .string (denS K), .string { data := #[] }, .bool false, .int .i64 0, .int .i64 0, .int .i64 0, .slice none 0 0]),
   .pure (.bool true),
   .pure (.bool true),
   .pure (.agg #[.int .i64 1, .string (numS D), .string (denS D), .string { data := #[] }, .bool false, .int .i64 0, .int .i64 0, .int .i64 0, .slice none 0 0]),
   .pure (.agg #[.int .i64 1, .string (numS D), .string (denS D), .string { data := #[] }, .bool false, .int .i64 0, .int .i64 0, .int .i64 0, .slice none 0 0]),
   .pure (.agg #[.int .i64 5, .string { data := #[] }, .string { data := #[] }, .string { data := #[] }, .bool false, .int .i64 0, .int .i64 1, .int .i64 (ln : Int), .slice (some ⟨g, 0, none⟩) ln cap]),
   .row #[.int .i64 1, .string (numS D), .string (denS D), .string { data := #[] }, .bool false, .int .i64 0, .int .i64 0, .int .i64 0, .slice none 0 0, .int .i64 1, .string (numS D), .string (denS D), .string { data := #[] }, .bool false, .int .i64 0, .int .i64 0, .int .i64 0, .slice none 0 0, .int .i64 5, .string { data := #[] }, .string { data := #[] }, .string { data := #[] }, .bool false, .int .i64 0, .int .i64 1, .int .i64 (ln : Int), .slice (some ⟨g, 0, none⟩) ln cap] 30 3,
   .pure (.agg #[.int .i64 1, .string (numS K), .string (denS K), .string { data := #[] }, .bool false, .int .i64 0, .int .i64 0, .int .i64 0, .slice none 0 0]),
   .pure (.agg #[.int .i64 1, .string (numS K), .string (denS K), .string { data := #[] }, .bool false, .int .i64 0, .int .i64 0, .int .i64 0, .slice none 0 0]),
   .pure (.bool true),
   .pure (.bool true),
   .pure (.bool true),
   .pure (.int .i64 c),
   .pure (.bool true),
   .pure (.bool true),
   .pure (.bool true),
   .pure (.agg #[.int .i64 1, .string (numS D), .string (denS D), .string { data := #[] }, .bool false, .int .i64 0, .int .i64 0, .int .i64 0, .slice none 0 0]),
   .pure (.int .i64 (10000 + m)),
   .pure (.int .i64 (10000 + m + 1)),
   .pure (.agg #[.int .i64 1, .string (numS D), .string (denS D), .string { data := #[] }, .bool false, .int .i64 0, .int .i64 0, .int .i64 0, .slice none 0 0]),
   .pure (.bool true),
   .pure (.bool true),
   .pure (undef),
   .pure (undef),
   .pure (undef),
   .pure (undef),
   .pure (undef),
   .pure (undef),
   .pure (undef),
   .pure (undef),
   .pure (undef),
   .pure (undef),
   .pure (undef),
   .pure (.bool true),
   .pure (.bool true),
   .pure (.bool true),
   .pure (.pointer (some ⟨b11, 0, none⟩)),
   .pure (.int .i64 1),
   .pure (.bool true),
   .pure (.bool true),
   .pure (.bool true)]
set_option linter.unusedSimpArgs false in
set_option linter.unusedVariables false in
set_option maxHeartbeats 16000000 in
set_option maxRecDepth 100000 in
theorem works_next (n j m t c : Int) (A : Option Addr) (L C : Nat) (zs : List Int) (N K M D F W3 W5 Wk : Rat) (w : World) (hE : Env w) (hn0 : -9223372036854775808 ≤ n) (hn1 : n ≤ 9223372036854775807) (hs0 : -9223372036854775808 ≤ j) (hs1 : j ≤ 9223372036854775807) (hm : n % 100000 = m) (ht : j % 60 = t) (hc : c < 0) (hNN : N = ((10000 + m : Int) : Rat)) (hL : zs.length = L) (hLm : L ≤ 9223372036854775807) (hLC : L ≤ C) (hA : 0 < L → ∃ A', A = some A' ∧ CameI w A' zs) (hzs : ∀ z ∈ zs, -9223372036854775808 ≤ z ∧ z ≤ 9223372036854775807)
    (r0 : Date3 { data := #[87, 79, 82, 75, 68, 65, 89] } N K (freeDays (10000 + m) zs) (.agg #[.int .i64 1, .string (numS D), .string (denS D), .string { data := #[] }, .bool false, .int .i64 0, .int .i64 0, .int .i64 0, .slice none 0 0]))
    (r1 : Date3 { data := #[78, 69, 84, 87, 79, 82, 75, 68, 65, 89, 83] } D D (freeDays (10000 + m) zs) (.agg #[.int .i64 1, .string (numS K), .string (denS K), .string { data := #[] }, .bool false, .int .i64 0, .int .i64 0, .int .i64 0, .slice none 0 0]))
    (r9 : DateRow { data := #[87, 69, 69, 75, 68, 65, 89] } #[.int .i64 1, .string (numS D), .string (denS D), .string { data := #[] }, .bool false, .int .i64 0, .int .i64 0, .int .i64 0, .slice none 0 0, .int .i64 1, .string (numS W3), .string (denS W3), .string { data := #[] }, .bool false, .int .i64 0, .int .i64 0, .int .i64 0, .slice none 0 0] 2 (.agg #[.int .i64 1, .string (numS Wk), .string (denS Wk), .string { data := #[] }, .bool false, .int .i64 0, .int .i64 0, .int .i64 0, .slice none 0 0]))
    (t0 : Fun1 11 (.int .i64 (10000 + m)) (.agg #[.int .i64 1, .string (numS N), .string (denS N), .string { data := #[] }, .bool false, .int .i64 0, .int .i64 0, .int .i64 0, .slice none 0 0]))
    (t1 : Fun1 11 (.int .i64 (1 + t)) (.agg #[.int .i64 1, .string (numS K), .string (denS K), .string { data := #[] }, .bool false, .int .i64 0, .int .i64 0, .int .i64 0, .slice none 0 0]))
    (t2 : Fun1 11 (.int .i64 (-1)) (.agg #[.int .i64 1, .string (numS M), .string (denS M), .string { data := #[] }, .bool false, .int .i64 0, .int .i64 0, .int .i64 0, .slice none 0 0]))
    (t3 : Fun1 11 (.int .i64 3) (.agg #[.int .i64 1, .string (numS W3), .string (denS W3), .string { data := #[] }, .bool false, .int .i64 0, .int .i64 0, .int .i64 0, .slice none 0 0]))
    (t4 : Fun1 11 (.int .i64 5) (.agg #[.int .i64 1, .string (numS W5), .string (denS W5), .string { data := #[] }, .bool false, .int .i64 0, .int .i64 0, .int .i64 0, .slice none 0 0]))
    (t5 : Fun1 11 (.int .i64 (10000 + m + 1)) (.agg #[.int .i64 1, .string (numS D), .string (denS D), .string { data := #[] }, .bool false, .int .i64 0, .int .i64 0, .int .i64 0, .slice none 0 0]))
    (t6 : Fun1 11 (.int .i64 1) (.agg #[.int .i64 1, .string (numS K), .string (denS K), .string { data := #[] }, .bool false, .int .i64 0, .int .i64 0, .int .i64 0, .slice none 0 0]))
    (tF : Fun2 15 (.agg #[.int .i64 1, .string (numS D), .string (denS D), .string { data := #[] }, .bool false, .int .i64 0, .int .i64 0, .int .i64 0, .slice none 0 0]) (.agg #[.int .i64 1, .string (numS M), .string (denS M), .string { data := #[] }, .bool false, .int .i64 0, .int .i64 0, .int .i64 0, .slice none 0 0]) (.agg #[.int .i64 1, .string (numS F), .string (denS F), .string { data := #[] }, .bool false, .int .i64 0, .int .i64 0, .int .i64 0, .slice none 0 0]))
    (tC : Fun2 17 (.agg #[.int .i64 1, .string (numS Wk), .string (denS Wk), .string { data := #[] }, .bool false, .int .i64 0, .int .i64 0, .int .i64 0, .slice none 0 0]) (.agg #[.int .i64 1, .string (numS W5), .string (denS W5), .string { data := #[] }, .bool false, .int .i64 0, .int .i64 0, .int .i64 0, .slice none 0 0]) (.tuple #[.int .i64 c, .int .i64 0])) :
    Calls Tryz.prog 7 #[.int .i64 n, .int .i64 j, .slice A L C] w fun e w' => e = .returned (.bool true) ∧ Below w.heap.size w w' := by
  have TMn := Lib.hid (fun W => kmod_any n 100000 hn0 hn1 (by decide) (by decide) W)
  rw [hm] at TMn
  have TMs := Lib.hid (fun W => kmod_any j 60 hs0 hs1 (by decide) (by decide) W)
  rw [ht] at TMs
  have hm0 : 0 ≤ m ∧ m ≤ 99999 := by omega
  have ht0 : 0 ≤ t ∧ t ≤ 59 := by omega
  obtain ⟨cn, hcv⟩ : ∃ cn, (zs.take 20).length = cn := ⟨_, rfl⟩
  have hc20 : cn ≤ 20 := by rw [← hcv]; simp; omega
  have hcL : cn ≤ L := by rw [← hcv]; simp; omega
  have hmin : min (L : Int) 20 = (cn : Int) := by rw [← hcv]; simp; omega
  have HQ := Lib.hid (show ∀ (k : Nat) (hk : k < cn), ∃ h : k < zs.length, (freeDays (10000 + m) zs).take (1 + k + 1) = (freeDays (10000 + m) zs).take (1 + k) ++ [10000 + m + zs[k] % 60] ∧ ((freeDays (10000 + m) zs).take (1 + k)).length = 1 + k from by
    intro k hk
    exact ⟨by omega, freeDays_take (10000 + m) zs k (by omega) (by omega)⟩)
  have HQL := Lib.hid (show (freeDays (10000 + m) zs).length = 1 + cn by rw [freeDays_len, hcv])
  have HQ1 := Lib.hid (show (freeDays (10000 + m) zs).take (1 + 0) = [10000 + m] by simp [freeDays])
  have HA := Lib.hid hA
  have HZ := Lib.hid hzs
  have HNN := Lib.hid hNN
  have Qr0 := Lib.hid (fun W G g cap h hv e => r0 W G g cap h hv e)
  have Qr1 := Lib.hid (fun W G g cap h hv e => r1 W G g cap h hv e)
  have Qr9 := Lib.hid (fun W G h g => r9 W G h g)
  have Qt0 := Lib.hid t0
  have Qt1 := Lib.hid t1
  have Qt2 := Lib.hid t2
  have Qt3 := Lib.hid t3
  have Qt4 := Lib.hid t4
  have Qt5 := Lib.hid t5
  have Qt6 := Lib.hid t6
  have QtF := Lib.hid tF
  have QtC := Lib.hid tC
  have RS := Lib.hid same_one
  have HE := Lib.hid hE
  have HEW := Lib.hid hE
  have HL := Lib.hid (Below.refl w.heap.size w)
  unfold Fun1 at Qt0 Qt1 Qt2 Qt3 Qt4 Qt5 Qt6
  unfold Fun2 at QtF QtC
  have hw1 : IntKind.i64.wrap (10000 + m + 1) = 10000 + m + 1 := IntWalk.i64_in _ (by omega)
  have hw2 : IntKind.i64.wrap (-(1 + t)) = -(1 + t) := IntWalk.i64_in _ (by omega)
  have hdc : decide (c < 0) = true := decide_eq_true hc
  obtain ⟨i0, hi0', hz0, hz1, hz2⟩ := info_val
  clear hE hm ht hn0 hn1 hs0 hs1 hc hA hzs hNN hcv hL r0 r1 r9 t0 t1 t2 t3 t4 t5 t6 tF tC
  go_enter Tryz.func7, Tryz.ntmps7
  go_wp2_with fail
  refine (TMn.out _).mono ?_
  rintro e w1 ⟨rfl, rfl⟩
  go_wp2_with fail
  refine (TMs.out _).mono ?_
  rintro e w2 ⟨rfl, rfl⟩
  go_wp2_with fail
  (with_reducible refine (Qt0.out _ HE.out).mono ?_)
  rintro e w3 ⟨rfl, hq⟩
  have HI := Lib.hid (DayI.start (w := w2) (n := 10000 + m) (r := numS N) (d := denS N) (by rw [HNN.out]) (by rw [HNN.out]) hq)
  obtain ⟨B, hB⟩ : ∃ B, w3.heap.size + 1 = B := ⟨_, rfl⟩
  obtain ⟨W4, hW4⟩ : ∃ W4, (w3.alloc (.cells #[.int .i64 1, .string (numS N), .string (denS N), .string { data := #[] }, .bool false, .int .i64 0, .int .i64 0, .int .i64 0, .slice none 0 0] 30)).alloc (.cells #[.int .i64 5, .string { data := #[] }, .string { data := #[] }, .string { data := #[] }, .bool false, .int .i64 0, .int .i64 1, .int .i64 1, .slice (some ⟨w3.heap.size, 0, none⟩) 1 1] 30) = W4 := ⟨_, rfl⟩
  rw [hW4, hB] at HI
  have EB := Lib.hid hB
  have EW := Lib.hid hW4
  clear hq hB hW4
  go_wp2_with fail
  rw [EW.out, EB.out]
  go_loopg [31] cn (fun gh v31 wx => ∃ (k : Nat) (cc : Int) (v : Value), v31 = .int .i64 ((k : Nat) : Int) ∧ k ≤ cn ∧ gh = cn - k ∧ cc = 1 + (k : Int) ∧ DayI w2 B cc v v ((freeDays (10000 + m) zs).take (1 + k)) wx)
  case atStart => exact ⟨0, 1, _, rfl, Nat.zero_le _, rfl, rfl, by rw [HQ1.out]; exact HI.out⟩
  case round =>
    clear HI EB EW HE HL
    obtain ⟨k, cc, v, rfl, hk, rfl, hcc, hti⟩ := hrel
    have HTI := Lib.hid hti
    by_cases hlt : k < cn
    · have hd : decide ((k : Int) < (cn : Int)) = true := decide_eq_true (by omega)
      have hd2 : decide (k < cn) = true := decide_eq_true hlt
      obtain ⟨hkn, htk, hdl⟩ := HQ.out k hlt
      obtain ⟨A', hA', hcame⟩ := HA.out (by omega)
      subst hA'
      have hcell := cell_below (hcame k hkn) HTI.out.low
      obtain ⟨hb1, hb2⟩ := HZ.out _ (List.getElem_mem hkn)
      obtain ⟨z, hz⟩ : ∃ z, zs[k] = z := ⟨_, rfl⟩
      rw [hz] at hcell hb1 hb2 htk
      have TZ := Lib.hid (fun W => kmod_any z 60 hb1 hb2 (by decide) (by decide) W)
      obtain ⟨r, hr⟩ : ∃ r, z % 60 = r := ⟨_, rfl⟩
      rw [hr] at TZ htk
      have hr0 : 0 ≤ r ∧ r ≤ 59 := by omega
      have TN := Lib.hid (fun W g => kwhole_any (10000 + m + r) W (by omega) (by omega) g)
      have hwr : IntKind.i64.wrap (10000 + m + r) = 10000 + m + r := IntWalk.i64_in _ (by omega)
      have hwc : IntKind.i64.wrap (cc + 1) = cc + 1 := IntWalk.i64_in _ (by omega)
      obtain ⟨q, hq⟩ : ∃ q : Rat, ((10000 + m + r : Int) : Rat) = q := ⟨_, rfl⟩
      rw [hq] at TN
      rw [numVal_is q] at TN
      have HQQ := Lib.hid hq
      have HTK := Lib.hid htk
      have HDL := Lib.hid hdl
      have hown := hti.own
      rw [hdl] at hown
      obtain ⟨av, cv, hu⟩ := owns_form hown
      subst hu
      have hi0 : (0 : Int) ≤ (k : Int) := by omega
      have hi1 : (k : Int) < (cn : Int) := by omega
      have hml : 1 + k + 1 ≤ maxLen := by unfold maxLen; omega
      have HCC := Lib.hid hcc
      clear hti hown htk hdl hb1 hb2 hz hq hkn hr hcame hcc
      go_upto_region 6 with fail
      clear hcell
      replace HTI := Lib.hid (HTI.out.step ((Below.refl wr.heap.size wr).drew))
      obtain ⟨⟨x0, x1, x2, x3, x4, x5, x6, x7, x8⟩, y0, y1, y2, y3, y4, y5, y6, y7, y8⟩ := nine_at HTI.out.box
      go_region_law (first
        | (have HT3 := Lib.hid (HT2.out.step ((Below.refl W2.heap.size W2).alloc (Nat.le_refl _) (.cells #[.int .i64 1, .string (numS q), .string (denS q), .string { data := #[] }, .bool false, .int .i64 0, .int .i64 0, .int .i64 0, .slice none 0 0] 30)));
           have HOW := Lib.hid (show (W2.alloc (.cells #[.int .i64 1, .string (numS q), .string (denS q), .string { data := #[] }, .bool false, .int .i64 0, .int .i64 0, .int .i64 0, .slice none 0 0] 30)).ownsRow w2.heap.size 30 9 (.slice av (1 + k) cv) (1 + k) (flat (numVals (days ((freeDays (10000 + m) zs).take (1 + k))))) from by have := HT3.out.own; rw [HDL.out] at this; exact this);
           have HNW := Lib.hid (World.news_of_block (cs := #[.int .i64 1, .string (numS q), .string (denS q), .string { data := #[] }, .bool false, .int .i64 0, .int .i64 0, .int .i64 0, .slice none 0 0]) (t := 30) (fr := (0, 0)) (heap_alloc_new W2 (.cells #[.int .i64 1, .string (numS q), .string (denS q), .string { data := #[] }, .bool false, .int .i64 0, .int .i64 0, .int .i64 0, .slice none 0 0] 30)));
           refine step_append_day rfl _ _ 28 rfl w2.heap.size 30 i0 _ 9 112 Tryz.underlying28 hi0' hz0 hz1 hz2 rfl (by decide) (.slice av (1 + k) cv) (1 + k) (flat (numVals (days ((freeDays (10000 + m) zs).take (1 + k))))) (by simp [Act.eval, Act.put]) HOW.out ⟨W2.heap.size, 0, none⟩ 1 1 [.int .i64 1, .string (numS q), .string (denS q), .string { data := #[] }, .bool false, .int .i64 0, .int .i64 0, .int .i64 0, .slice none 0 0] (by simp [Act.eval, Act.put]) rfl HNW.out (by simp [Value.oneCell']) hml (by omega) HT3.out.low.size ?_;
           intro v5 w5 hown5 hgrow5;
           obtain ⟨a5, c5, hu5⟩ := owns_form hown5;
           subst hu5;
           have HT5 := Lib.hid (HT3.out.push (z := 10000 + m + r) (by rw [HDL.out, HQQ.out]; exact hown5) hgrow5);
           rw [← HTK.out] at HT5;
           clear hown5 hgrow5 HT3 HOW HNW;
           obtain ⟨⟨x0, x1, x2, x3, x4, x5, x6, x7, x8⟩, y0, y1, y2, y3, y4, y5, y6, y7, y8⟩ := nine_at HT5.out.box)
        | (go_simp; go_at_call 9; (with_reducible refine (TZ.out _).mono ?_); rintro e W1 ⟨rfl, rfl⟩)
        | (go_simp; go_at_call 11; (with_reducible refine (TN.out _ (HEW.out.below HTI.out.low)).mono ?_); rintro e W2 ⟨rfl, hb⟩; have HT2 := Lib.hid (HTI.out.step hb); clear hb; obtain ⟨⟨x0, x1, x2, x3, x4, x5, x6, x7, x8⟩, y0, y1, y2, y3, y4, y5, y6, y7, y8⟩ := nine_at HT2.out.box; obtain ⟨⟨_, _, _, _, _, _, _, _, z8⟩, _⟩ := nine_at (HT2.out.step ((Below.refl W2.heap.size W2).alloc (Nat.le_refl _) (.cells #[.int .i64 1, .string (numS q), .string (denS q), .string { data := #[] }, .bool false, .int .i64 0, .int .i64 0, .int .i64 0, .slice none 0 0] 30))).box))
      all_goals
        have HT6 := Lib.hid HT5.out.store
        have HT7 := Lib.hid (HT6.out.cols (c' := cc + 1))
        obtain ⟨⟨u0, u1, u2, u3, u4, u5, u6, u7, u8⟩, v0, v1, v2, v3, v4, v5, v6, v7, v8⟩ := nine_at HT6.out.box
        go_wp2
        go_roundg (cn - (k + 1))
        case measure => omega
        case rel => exact ⟨k + 1, cc + 1, _, by go_num, by omega, by omega, by have := HCC.out; omega, HT7.out⟩
    · have hd : decide ((k : Int) < (cn : Int)) = false := decide_eq_false (by omega)
      have hd2 : decide (k < cn) = false := decide_eq_false hlt
      have hkL : k = cn := by omega
      have hall : (freeDays (10000 + m) zs).take (1 + k) = freeDays (10000 + m) zs := by rw [hkL, ← HQL.out, List.take_length]
      rw [hall] at hti
      obtain ⟨g, cap, hv, hg, hcap, hva⟩ := hti.at
      subst hv
      obtain ⟨ln, hln⟩ : ∃ ln, (freeDays (10000 + m) zs).length = ln := ⟨_, rfl⟩
      have hcl : cc = (ln : Int) := by rw [← hln, HQL.out, hcc, hkL]; omega
      subst hcl
      rw [hln] at hti hcap
      have HV := Lib.hid hva
      have H7 := Lib.hid hti.box
      have HL := Lib.hid hti.low
      have HE := Lib.hid (HEW.out.below hti.low)
      rw [hln] at Qr0 Qr1
      clear hti HTI hall hkL hlt hva hcc hk HQL HQ HQ1 HA HZ HNN HEW hln
      go_wp2_with fail
      have hok : okB 9 (WkaKs9 m t c ln g cap B N K M D F W3 W5 Wk) = true := by kernel_rfl
      have hna := noAny_of (ks := (WkaKs9 m t c ln g cap B N K M D F W3 W5 Wk)) (by kernel_rfl)
      have hla := lasts_of hna
      refine wp_region_facts (row := none) (w := wr) 9 (WkaKs9 m t c ln g cap B N K M D F W3 W5 Wk) [some 50, some 51, some 52, some 53, some 54, some 55, some 56, some 10, none] (by kernel_rfl) (by kernel_rfl) rfl [undef, undef, undef, undef, undef, undef, undef, undef, undef] ?h00 (Fs.start rfl rfl) ?hs ?hd
      case h00 => simp only [putO, layT_some, layT_none, layT_nil, List.setIfInBounds_toArray, List.set_cons_zero, List.set_cons_succ]
      case hs =>
        rintro listed vs Wr hF i hi hun hpre
        obtain ⟨s0, s1, s2, s3, s4, s5, s6, s7, s8, hvs⟩ := exl_of 9 vs (fun l => vs = l) hF.len rfl
        subst hvs
        have hge := Nat.zero_le i
        simp only [putO, layT_some, layT_none, layT_nil, List.setIfInBounds_toArray, List.set_cons_zero, List.set_cons_succ]
        rcases Nat.lt_or_ge i 4 with hlt | hgt
        · replace hi := hlt
          clear hlt
          rcases Nat.lt_or_ge i 2 with hlt | hgt
          · replace hi := hlt
            clear hlt
            rcases Nat.lt_or_ge i 1 with hlt | hgt
            · replace hi := hlt
              clear hlt
              have he : i = 0 := Nat.le_antisymm (Nat.le_of_lt_succ hi) hge
              subst he
              refine step_of ⟨some 50, _, _, _, _, _⟩ rfl (fun K' hK => ?_)
              go_simp
              refine hK.out _ _ ⟨_, hF.pure hok hla hpre rfl (Below.refl _ _), ?fr⟩
              case fr => simp only [putO, layT_some, layT_none, layT_nil, List.setIfInBounds_toArray, List.set_cons_zero, List.set_cons_succ]
            · replace hge : 1 ≤ i := hgt
              clear hgt
              have he : i = 1 := Nat.le_antisymm (Nat.le_of_lt_succ hi) hge
              subst he
              have p0 := hpre 0 (by kernel_rfl)
              have e0 : s0 = .int .i64 (10000 + m) := hF.get 0 _ rfl (.inr p0)
              subst e0
              refine step_of ⟨some 51, _, _, _, _, _⟩ rfl (fun K' hK => ?_)
              go_simp
              go_at_call 11
              (with_reducible refine (Qt0.out _ (HE.out.below (below_none hF.low))).mono ?_)
              rintro e Wq ⟨rfl, hq⟩
              refine hK.out _ _ ⟨_, hF.pure hok hla hpre rfl hq, ?fr⟩
              case fr => simp only [putO, layT_some, layT_none, layT_nil, List.setIfInBounds_toArray, List.set_cons_zero, List.set_cons_succ]
          · replace hge : 2 ≤ i := hgt
            clear hgt
            rcases Nat.lt_or_ge i 3 with hlt | hgt
            · replace hi := hlt
              clear hlt
              have he : i = 2 := Nat.le_antisymm (Nat.le_of_lt_succ hi) hge
              subst he
              refine step_of ⟨some 52, _, _, _, _, _⟩ rfl (fun K' hK => ?_)
              go_simp
              refine hK.out _ _ ⟨_, hF.pure hok hla hpre rfl (Below.refl _ _), ?fr⟩
              case fr => simp only [putO, layT_some, layT_none, layT_nil, List.setIfInBounds_toArray, List.set_cons_zero, List.set_cons_succ]
            · replace hge : 3 ≤ i := hgt
              clear hgt
              have he : i = 3 := Nat.le_antisymm (Nat.le_of_lt_succ hi) hge
              subst he
              have p2 := hpre 2 (by kernel_rfl)
              have e2 : s2 = .int .i64 (1 + t) := hF.get 2 _ rfl (.inr p2)
              subst e2
              refine step_of ⟨some 53, _, _, _, _, _⟩ rfl (fun K' hK => ?_)
              go_simp
              go_at_call 11
              (with_reducible refine (Qt1.out _ (HE.out.below (below_none hF.low))).mono ?_)
              rintro e Wq ⟨rfl, hq⟩
              refine hK.out _ _ ⟨_, hF.pure hok hla hpre rfl hq, ?fr⟩
              case fr => simp only [putO, layT_some, layT_none, layT_nil, List.setIfInBounds_toArray, List.set_cons_zero, List.set_cons_succ]
        · replace hge : 4 ≤ i := hgt
          clear hgt
          rcases Nat.lt_or_ge i 6 with hlt | hgt
          · replace hi := hlt
            clear hlt
            rcases Nat.lt_or_ge i 5 with hlt | hgt
            · replace hi := hlt
              clear hlt
              have he : i = 4 := Nat.le_antisymm (Nat.le_of_lt_succ hi) hge
              subst he
              have hcc := (nine_at (keep_block H7.out (below_none hF.low))).1
              have cH70 := hcc.1
              have cH71 := hcc.2.1
              have cH72 := hcc.2.2.1
              have cH73 := hcc.2.2.2.1
              have cH74 := hcc.2.2.2.2.1
              have cH75 := hcc.2.2.2.2.2.1
              have cH76 := hcc.2.2.2.2.2.2.1
              have cH77 := hcc.2.2.2.2.2.2.2.1
              have cH78 := hcc.2.2.2.2.2.2.2.2
              clear hcc
              refine step_of ⟨some 54, _, _, _, _, _⟩ rfl (fun K' hK => ?_)
              go_simp
              refine hK.out _ _ ⟨_, hF.pure hok hla hpre rfl (Below.refl _ _), ?fr⟩
              case fr => simp only [putO, layT_some, layT_none, layT_nil, List.setIfInBounds_toArray, List.set_cons_zero, List.set_cons_succ]
            · replace hge : 5 ≤ i := hgt
              clear hgt
              have he : i = 5 := Nat.le_antisymm (Nat.le_of_lt_succ hi) hge
              subst he
              have p1 := hpre 1 (by kernel_rfl)
              have e1 : s1 = .agg #[.int .i64 1, .string (numS N), .string (denS N), .string { data := #[] }, .bool false, .int .i64 0, .int .i64 0, .int .i64 0, .slice none 0 0] := hF.get 1 _ rfl (.inr p1)
              subst e1
              have p3 := hpre 3 (by kernel_rfl)
              have e3 : s3 = .agg #[.int .i64 1, .string (numS K), .string (denS K), .string { data := #[] }, .bool false, .int .i64 0, .int .i64 0, .int .i64 0, .slice none 0 0] := hF.get 3 _ rfl (.inr p3)
              subst e3
              have p4 := hpre 4 (by kernel_rfl)
              have e4 : s4 = .agg #[.int .i64 5, .string { data := #[] }, .string { data := #[] }, .string { data := #[] }, .bool false, .int .i64 0, .int .i64 1, .int .i64 (ln : Int), .slice (some ⟨g, 0, none⟩) ln cap] := hF.get 4 _ rfl (.inr p4)
              subst e4
              refine step_of ⟨some 55, _, _, _, _, _⟩ rfl (fun K' hK => ?_)
              go_simp
              refine hK.out _ _ ⟨_, hF.row hok hla hpre rfl, ?fr⟩
              case fr => simp only [putO, layT_some, layT_none, layT_nil, List.setIfInBounds_toArray, List.set_cons_zero, List.set_cons_succ]
          · replace hge : 6 ≤ i := hgt
            clear hgt
            rcases Nat.lt_or_ge i 7 with hlt | hgt
            · replace hi := hlt
              clear hlt
              have he : i = 6 := Nat.le_antisymm (Nat.le_of_lt_succ hi) hge
              subst he
              have p5 := hpre 5 (by kernel_rfl)
              obtain ⟨G, eG, _, hGB⟩ : ∃ G, s5 = .slice (some ⟨G, 0, none⟩) 3 3 ∧ _ ≤ G ∧ Wr.heap[G]? = some (.cells #[.int .i64 1, .string (numS N), .string (denS N), .string { data := #[] }, .bool false, .int .i64 0, .int .i64 0, .int .i64 0, .slice none 0 0, .int .i64 1, .string (numS K), .string (denS K), .string { data := #[] }, .bool false, .int .i64 0, .int .i64 0, .int .i64 0, .slice none 0 0, .int .i64 5, .string { data := #[] }, .string { data := #[] }, .string { data := #[] }, .bool false, .int .i64 0, .int .i64 1, .int .i64 (ln : Int), .slice (some ⟨g, 0, none⟩) ln cap] 30 (0, 0)) := hF.get 5 _ rfl (.inr p5)
              subst eG
              refine step_of ⟨some 56, _, _, _, _, _⟩ rfl (fun K' hK => ?_)
              go_simp
              go_at_call 20
              (with_reducible refine (Qr0.out _ _ _ _ hGB (HV.out.below (below_none hF.low)) (HE.out.below (below_none hF.low))).mono ?_)
              rintro e Wq ⟨rfl, hq⟩
              refine hK.out _ _ ⟨_, hF.pure hok hla hpre rfl hq, ?fr⟩
              case fr => simp only [putO, layT_some, layT_none, layT_nil, List.setIfInBounds_toArray, List.set_cons_zero, List.set_cons_succ]
            · replace hge : 7 ≤ i := hgt
              clear hgt
              rcases Nat.lt_or_ge i 8 with hlt | hgt
              · replace hi := hlt
                clear hlt
                have he : i = 7 := Nat.le_antisymm (Nat.le_of_lt_succ hi) hge
                subst he
                refine step_of ⟨some 10, _, _, _, _, _⟩ rfl (fun K' hK => ?_)
                go_simp
                refine hK.out _ _ ⟨_, hF.box hok hla hpre hun rfl, ?fr⟩
                case fr => simp only [putO, layT_some, layT_none, layT_nil, List.setIfInBounds_toArray, List.set_cons_zero, List.set_cons_succ]
              · replace hge : 8 ≤ i := hgt
                clear hgt
                have he : i = 8 := Nat.le_antisymm (Nat.le_of_lt_succ hi) hge
                subst he
                have p7 := hpre 7 (by kernel_rfl)
                obtain ⟨G, eG, _, hGl, hGB⟩ : ∃ G, s7 = .pointer (some ⟨G, 0, none⟩) ∧ (∀ k, none = some k → G = k) ∧ wr.heap.size ≤ G ∧ Wr.heap[G]? = some (.cells (if listed.getD 8 false = true then #[.int .i64 1, .string (numS D), .string (denS D), .string { data := #[] }, .bool false, .int .i64 0, .int .i64 0, .int .i64 0, .slice none 0 0] else #[.int .i64 0, .string { data := #[] }, .string { data := #[] }, .string { data := #[] }, .bool false, .int .i64 0, .int .i64 0, .int .i64 0, .slice none 0 0]) 30 (0, 0)) := hF.get 7 _ rfl (.inr p7)
                subst eG
                rw [if_neg (bit_off hun)] at hGB
                have HGB := Lib.hid hGB
                clear hGB
                have p6 := hpre 6 (by kernel_rfl)
                have e6 : s6 = .agg #[.int .i64 1, .string (numS D), .string (denS D), .string { data := #[] }, .bool false, .int .i64 0, .int .i64 0, .int .i64 0, .slice none 0 0] := hF.get 6 _ rfl (.inr p6)
                subst e6
                obtain ⟨⟨y0, y1, y2, y3, y4, y5, y6, y7, y8⟩, g0, g1, g2, g3, g4, g5, g6, g7, g8⟩ := nine_at HGB.out
                refine step_of ⟨none, _, _, _, _, _⟩ rfl (fun K' hK => ?_)
                go_simp
                refine hK.out _ _ ⟨undef, hF.put hok hna hpre hun rfl undef rfl (.inr p7) rfl (set9_at HGB.out (.int .i64 1) (.string (numS D)) (.string (denS D)) (.string { data := #[] }) (.bool false) (.int .i64 0) (.int .i64 0) (.int .i64 0) (.slice none 0 0)) (fun k hk => set9_other _ _ (.int .i64 1) (.string (numS D)) (.string (denS D)) (.string { data := #[] }) (.bool false) (.int .i64 0) (.int .i64 0) (.int .i64 0) (.slice none 0 0) hk) (put9_below hGl _ (.int .i64 1) (.string (numS D)) (.string (denS D)) (.string { data := #[] }) (.bool false) (.int .i64 0) (.int .i64 0) (.int .i64 0) (.slice none 0 0)), ?fr⟩
                case fr => simp only [putO, layT_some, layT_none, layT_nil, List.setIfInBounds_toArray, List.set_cons_zero, List.set_cons_succ]
      case hd =>
        rintro listed vs WA hF hall
        obtain ⟨s0, s1, s2, s3, s4, s5, s6, s7, s8, hvs⟩ := exl_of 9 vs (fun l => vs = l) hF.len rfl
        subst hvs
        obtain ⟨b10, e7, _, _, k7⟩ : ∃ G, s7 = .pointer (some ⟨G, 0, none⟩) ∧ (∀ k, none = some k → G = k) ∧ _ ≤ G ∧ WA.heap[G]? = some (.cells (if listed.getD 8 false = true then #[.int .i64 1, .string (numS D), .string (denS D), .string { data := #[] }, .bool false, .int .i64 0, .int .i64 0, .int .i64 0, .slice none 0 0] else #[.int .i64 0, .string { data := #[] }, .string { data := #[] }, .string { data := #[] }, .bool false, .int .i64 0, .int .i64 0, .int .i64 0, .slice none 0 0]) 30 (0, 0)) := hF.get 7 _ rfl (.inr (hall 7 (by decide)))
        subst e7
        rw [if_pos (hall 8 (by decide))] at k7
        have H10 := Lib.hid k7
        clear k7
        have hq := below_none hF.low
        replace HE := Lib.hid (HE.out.below hq)
        replace HL := Lib.hid (HL.out.trans (hq.mono HL.out.size))
        replace H7 := Lib.hid (keep_block H7.out hq)
        replace HV := Lib.hid (HV.out.below hq)
        clear hq
        clear hF hall hok hna hla
        simp only [putO, layT_some, layT_none, layT_nil, List.setIfInBounds_toArray, List.set_cons_zero, List.set_cons_succ]
        obtain ⟨⟨lH100, lH101, lH102, lH103, lH104, lH105, lH106, lH107, lH108⟩, _⟩ := nine_at H10.out
        go_wp2_with fail
        clear lH100 lH101 lH102 lH103 lH104 lH105 lH106 lH107 lH108
        have hok : okB 5 (WkaKs12 m t c ln g cap B N K M D F W3 W5 Wk) = true := by kernel_rfl
        have hna := noAny_of (ks := (WkaKs12 m t c ln g cap B N K M D F W3 W5 Wk)) (by kernel_rfl)
        have hla := lasts_of hna
        refine wp_region_facts (row := none) (w := WA) 5 (WkaKs12 m t c ln g cap B N K M D F W3 W5 Wk) [some 60, some 61, some 62, some 11, none] (by kernel_rfl) (by kernel_rfl) rfl [undef, undef, undef, undef, undef] ?h00 (Fs.start rfl rfl) ?hs ?hd
        case h00 => simp only [putO, layT_some, layT_none, layT_nil, List.setIfInBounds_toArray, List.set_cons_zero, List.set_cons_succ]
        case hs =>
          rintro listed vs Wr hF i hi hun hpre
          obtain ⟨s0, s1, s2, s3, s4, hvs⟩ := exl_of 5 vs (fun l => vs = l) hF.len rfl
          subst hvs
          have hge := Nat.zero_le i
          simp only [putO, layT_some, layT_none, layT_nil, List.setIfInBounds_toArray, List.set_cons_zero, List.set_cons_succ]
          rcases Nat.lt_or_ge i 2 with hlt | hgt
          · replace hi := hlt
            clear hlt
            rcases Nat.lt_or_ge i 1 with hlt | hgt
            · replace hi := hlt
              clear hlt
              have he : i = 0 := Nat.le_antisymm (Nat.le_of_lt_succ hi) hge
              subst he
              have hcc := (nine_at (keep_block H10.out (below_none hF.low))).1
              have cH100 := hcc.1
              have cH101 := hcc.2.1
              have cH102 := hcc.2.2.1
              have cH103 := hcc.2.2.2.1
              have cH104 := hcc.2.2.2.2.1
              have cH105 := hcc.2.2.2.2.2.1
              have cH106 := hcc.2.2.2.2.2.2.1
              have cH107 := hcc.2.2.2.2.2.2.2.1
              have cH108 := hcc.2.2.2.2.2.2.2.2
              clear hcc
              refine step_of ⟨some 60, _, _, _, _, _⟩ rfl (fun K' hK => ?_)
              go_simp
              refine hK.out _ _ ⟨_, hF.pure hok hla hpre rfl (Below.refl _ _), ?fr⟩
              case fr => simp only [putO, layT_some, layT_none, layT_nil, List.setIfInBounds_toArray, List.set_cons_zero, List.set_cons_succ]
            · replace hge : 1 ≤ i := hgt
              clear hgt
              have he : i = 1 := Nat.le_antisymm (Nat.le_of_lt_succ hi) hge
              subst he
              refine step_of ⟨some 61, _, _, _, _, _⟩ rfl (fun K' hK => ?_)
              go_simp
              go_at_call 11
              (with_reducible refine (Qt2.out _ (HE.out.below (below_none hF.low))).mono ?_)
              rintro e Wq ⟨rfl, hq⟩
              refine hK.out _ _ ⟨_, hF.pure hok hla hpre rfl hq, ?fr⟩
              case fr => simp only [putO, layT_some, layT_none, layT_nil, List.setIfInBounds_toArray, List.set_cons_zero, List.set_cons_succ]
          · replace hge : 2 ≤ i := hgt
            clear hgt
            rcases Nat.lt_or_ge i 3 with hlt | hgt
            · replace hi := hlt
              clear hlt
              have he : i = 2 := Nat.le_antisymm (Nat.le_of_lt_succ hi) hge
              subst he
              have p0 := hpre 0 (by kernel_rfl)
              have e0 : s0 = .agg #[.int .i64 1, .string (numS D), .string (denS D), .string { data := #[] }, .bool false, .int .i64 0, .int .i64 0, .int .i64 0, .slice none 0 0] := hF.get 0 _ rfl (.inr p0)
              subst e0
              have p1 := hpre 1 (by kernel_rfl)
              have e1 : s1 = .agg #[.int .i64 1, .string (numS M), .string (denS M), .string { data := #[] }, .bool false, .int .i64 0, .int .i64 0, .int .i64 0, .slice none 0 0] := hF.get 1 _ rfl (.inr p1)
              subst e1
              refine step_of ⟨some 62, _, _, _, _, _⟩ rfl (fun K' hK => ?_)
              go_simp
              go_at_call 15
              (with_reducible refine (QtF.out _ (HE.out.below (below_none hF.low))).mono ?_)
              rintro e Wq ⟨rfl, hq⟩
              refine hK.out _ _ ⟨_, hF.pure hok hla hpre rfl hq, ?fr⟩
              case fr => simp only [putO, layT_some, layT_none, layT_nil, List.setIfInBounds_toArray, List.set_cons_zero, List.set_cons_succ]
            · replace hge : 3 ≤ i := hgt
              clear hgt
              rcases Nat.lt_or_ge i 4 with hlt | hgt
              · replace hi := hlt
                clear hlt
                have he : i = 3 := Nat.le_antisymm (Nat.le_of_lt_succ hi) hge
                subst he
                refine step_of ⟨some 11, _, _, _, _, _⟩ rfl (fun K' hK => ?_)
                go_simp
                refine hK.out _ _ ⟨_, hF.box hok hla hpre hun rfl, ?fr⟩
                case fr => simp only [putO, layT_some, layT_none, layT_nil, List.setIfInBounds_toArray, List.set_cons_zero, List.set_cons_succ]
              · replace hge : 4 ≤ i := hgt
                clear hgt
                have he : i = 4 := Nat.le_antisymm (Nat.le_of_lt_succ hi) hge
                subst he
                have p3 := hpre 3 (by kernel_rfl)
                obtain ⟨G, eG, _, hGl, hGB⟩ : ∃ G, s3 = .pointer (some ⟨G, 0, none⟩) ∧ (∀ k, none = some k → G = k) ∧ WA.heap.size ≤ G ∧ Wr.heap[G]? = some (.cells (if listed.getD 4 false = true then #[.int .i64 1, .string (numS F), .string (denS F), .string { data := #[] }, .bool false, .int .i64 0, .int .i64 0, .int .i64 0, .slice none 0 0] else #[.int .i64 0, .string { data := #[] }, .string { data := #[] }, .string { data := #[] }, .bool false, .int .i64 0, .int .i64 0, .int .i64 0, .slice none 0 0]) 30 (0, 0)) := hF.get 3 _ rfl (.inr p3)
                subst eG
                rw [if_neg (bit_off hun)] at hGB
                have HGB := Lib.hid hGB
                clear hGB
                have p2 := hpre 2 (by kernel_rfl)
                have e2 : s2 = .agg #[.int .i64 1, .string (numS F), .string (denS F), .string { data := #[] }, .bool false, .int .i64 0, .int .i64 0, .int .i64 0, .slice none 0 0] := hF.get 2 _ rfl (.inr p2)
                subst e2
                obtain ⟨⟨y0, y1, y2, y3, y4, y5, y6, y7, y8⟩, g0, g1, g2, g3, g4, g5, g6, g7, g8⟩ := nine_at HGB.out
                refine step_of ⟨none, _, _, _, _, _⟩ rfl (fun K' hK => ?_)
                go_simp
                refine hK.out _ _ ⟨undef, hF.put hok hna hpre hun rfl undef rfl (.inr p3) rfl (set9_at HGB.out (.int .i64 1) (.string (numS F)) (.string (denS F)) (.string { data := #[] }) (.bool false) (.int .i64 0) (.int .i64 0) (.int .i64 0) (.slice none 0 0)) (fun k hk => set9_other _ _ (.int .i64 1) (.string (numS F)) (.string (denS F)) (.string { data := #[] }) (.bool false) (.int .i64 0) (.int .i64 0) (.int .i64 0) (.slice none 0 0) hk) (put9_below hGl _ (.int .i64 1) (.string (numS F)) (.string (denS F)) (.string { data := #[] }) (.bool false) (.int .i64 0) (.int .i64 0) (.int .i64 0) (.slice none 0 0)), ?fr⟩
                case fr => simp only [putO, layT_some, layT_none, layT_nil, List.setIfInBounds_toArray, List.set_cons_zero, List.set_cons_succ]
        case hd =>
          rintro listed vs WB hF hall
          obtain ⟨s0, s1, s2, s3, s4, hvs⟩ := exl_of 5 vs (fun l => vs = l) hF.len rfl
          subst hvs
          obtain ⟨b11, e3, _, _, k3⟩ : ∃ G, s3 = .pointer (some ⟨G, 0, none⟩) ∧ (∀ k, none = some k → G = k) ∧ _ ≤ G ∧ WB.heap[G]? = some (.cells (if listed.getD 4 false = true then #[.int .i64 1, .string (numS F), .string (denS F), .string { data := #[] }, .bool false, .int .i64 0, .int .i64 0, .int .i64 0, .slice none 0 0] else #[.int .i64 0, .string { data := #[] }, .string { data := #[] }, .string { data := #[] }, .bool false, .int .i64 0, .int .i64 0, .int .i64 0, .slice none 0 0]) 30 (0, 0)) := hF.get 3 _ rfl (.inr (hall 3 (by decide)))
          subst e3
          rw [if_pos (hall 4 (by decide))] at k3
          have H11 := Lib.hid k3
          clear k3
          have hq := below_none hF.low
          replace HE := Lib.hid (HE.out.below hq)
          replace HL := Lib.hid (HL.out.trans (hq.mono HL.out.size))
          replace H7 := Lib.hid (keep_block H7.out hq)
          replace H10 := Lib.hid (keep_block H10.out hq)
          replace HV := Lib.hid (HV.out.below hq)
          clear hq
          clear hF hall hok hna hla
          simp only [putO, layT_some, layT_none, layT_nil, List.setIfInBounds_toArray, List.set_cons_zero, List.set_cons_succ]
          go_wp2_with fail
          have hok : okB 6 (WkaKs13 m t c ln g cap B N K M D F W3 W5 Wk) = true := by kernel_rfl
          have hna := noAny_of (ks := (WkaKs13 m t c ln g cap B N K M D F W3 W5 Wk)) (by kernel_rfl)
          have hla := lasts_of hna
          refine wp_region_facts (row := none) (w := WB) 6 (WkaKs13 m t c ln g cap B N K M D F W3 W5 Wk) [some 63, some 64, some 65, some 66, some 12, none] (by kernel_rfl) (by kernel_rfl) rfl [undef, undef, undef, undef, undef, undef] ?h00 (Fs.start rfl rfl) ?hs ?hd
          case h00 => simp only [putO, layT_some, layT_none, layT_nil, List.setIfInBounds_toArray, List.set_cons_zero, List.set_cons_succ]
          case hs =>
            rintro listed vs Wr hF i hi hun hpre
            obtain ⟨s0, s1, s2, s3, s4, s5, hvs⟩ := exl_of 6 vs (fun l => vs = l) hF.len rfl
            subst hvs
            have hge := Nat.zero_le i
            simp only [putO, layT_some, layT_none, layT_nil, List.setIfInBounds_toArray, List.set_cons_zero, List.set_cons_succ]
            rcases Nat.lt_or_ge i 3 with hlt | hgt
            · replace hi := hlt
              clear hlt
              rcases Nat.lt_or_ge i 1 with hlt | hgt
              · replace hi := hlt
                clear hlt
                have he : i = 0 := Nat.le_antisymm (Nat.le_of_lt_succ hi) hge
                subst he
                have hcc := (nine_at (keep_block H10.out (below_none hF.low))).1
                have cH100 := hcc.1
                have cH101 := hcc.2.1
                have cH102 := hcc.2.2.1
                have cH103 := hcc.2.2.2.1
                have cH104 := hcc.2.2.2.2.1
                have cH105 := hcc.2.2.2.2.2.1
                have cH106 := hcc.2.2.2.2.2.2.1
                have cH107 := hcc.2.2.2.2.2.2.2.1
                have cH108 := hcc.2.2.2.2.2.2.2.2
                clear hcc
                refine step_of ⟨some 63, _, _, _, _, _⟩ rfl (fun K' hK => ?_)
                go_simp
                refine hK.out _ _ ⟨_, hF.pure hok hla hpre rfl (Below.refl _ _), ?fr⟩
                case fr => simp only [putO, layT_some, layT_none, layT_nil, List.setIfInBounds_toArray, List.set_cons_zero, List.set_cons_succ]
              · replace hge : 1 ≤ i := hgt
                clear hgt
                rcases Nat.lt_or_ge i 2 with hlt | hgt
                · replace hi := hlt
                  clear hlt
                  have he : i = 1 := Nat.le_antisymm (Nat.le_of_lt_succ hi) hge
                  subst he
                  refine step_of ⟨some 64, _, _, _, _, _⟩ rfl (fun K' hK => ?_)
                  go_simp
                  go_at_call 11
                  (with_reducible refine (Qt3.out _ (HE.out.below (below_none hF.low))).mono ?_)
                  rintro e Wq ⟨rfl, hq⟩
                  refine hK.out _ _ ⟨_, hF.pure hok hla hpre rfl hq, ?fr⟩
                  case fr => simp only [putO, layT_some, layT_none, layT_nil, List.setIfInBounds_toArray, List.set_cons_zero, List.set_cons_succ]
                · replace hge : 2 ≤ i := hgt
                  clear hgt
                  have he : i = 2 := Nat.le_antisymm (Nat.le_of_lt_succ hi) hge
                  subst he
                  have p0 := hpre 0 (by kernel_rfl)
                  have e0 : s0 = .agg #[.int .i64 1, .string (numS D), .string (denS D), .string { data := #[] }, .bool false, .int .i64 0, .int .i64 0, .int .i64 0, .slice none 0 0] := hF.get 0 _ rfl (.inr p0)
                  subst e0
                  have p1 := hpre 1 (by kernel_rfl)
                  have e1 : s1 = .agg #[.int .i64 1, .string (numS W3), .string (denS W3), .string { data := #[] }, .bool false, .int .i64 0, .int .i64 0, .int .i64 0, .slice none 0 0] := hF.get 1 _ rfl (.inr p1)
                  subst e1
                  refine step_of ⟨some 65, _, _, _, _, _⟩ rfl (fun K' hK => ?_)
                  go_simp
                  refine hK.out _ _ ⟨_, hF.row hok hla hpre rfl, ?fr⟩
                  case fr => simp only [putO, layT_some, layT_none, layT_nil, List.setIfInBounds_toArray, List.set_cons_zero, List.set_cons_succ]
            · replace hge : 3 ≤ i := hgt
              clear hgt
              rcases Nat.lt_or_ge i 4 with hlt | hgt
              · replace hi := hlt
                clear hlt
                have he : i = 3 := Nat.le_antisymm (Nat.le_of_lt_succ hi) hge
                subst he
                have p2 := hpre 2 (by kernel_rfl)
                obtain ⟨G, eG, _, hGB⟩ : ∃ G, s2 = .slice (some ⟨G, 0, none⟩) 2 2 ∧ _ ≤ G ∧ Wr.heap[G]? = some (.cells #[.int .i64 1, .string (numS D), .string (denS D), .string { data := #[] }, .bool false, .int .i64 0, .int .i64 0, .int .i64 0, .slice none 0 0, .int .i64 1, .string (numS W3), .string (denS W3), .string { data := #[] }, .bool false, .int .i64 0, .int .i64 0, .int .i64 0, .slice none 0 0] 30 (0, 0)) := hF.get 2 _ rfl (.inr p2)
                subst eG
                refine step_of ⟨some 66, _, _, _, _, _⟩ rfl (fun K' hK => ?_)
                go_simp
                go_at_call 20
                (with_reducible refine (Qr9.out _ _ hGB (HE.out.below (below_none hF.low))).mono ?_)
                rintro e Wq ⟨rfl, hq⟩
                refine hK.out _ _ ⟨_, hF.pure hok hla hpre rfl hq, ?fr⟩
                case fr => simp only [putO, layT_some, layT_none, layT_nil, List.setIfInBounds_toArray, List.set_cons_zero, List.set_cons_succ]
              · replace hge : 4 ≤ i := hgt
                clear hgt
                rcases Nat.lt_or_ge i 5 with hlt | hgt
                · replace hi := hlt
                  clear hlt
                  have he : i = 4 := Nat.le_antisymm (Nat.le_of_lt_succ hi) hge
                  subst he
                  refine step_of ⟨some 12, _, _, _, _, _⟩ rfl (fun K' hK => ?_)
                  go_simp
                  refine hK.out _ _ ⟨_, hF.box hok hla hpre hun rfl, ?fr⟩
                  case fr => simp only [putO, layT_some, layT_none, layT_nil, List.setIfInBounds_toArray, List.set_cons_zero, List.set_cons_succ]
                · replace hge : 5 ≤ i := hgt
                  clear hgt
                  have he : i = 5 := Nat.le_antisymm (Nat.le_of_lt_succ hi) hge
                  subst he
                  have p4 := hpre 4 (by kernel_rfl)
                  obtain ⟨G, eG, _, hGl, hGB⟩ : ∃ G, s4 = .pointer (some ⟨G, 0, none⟩) ∧ (∀ k, none = some k → G = k) ∧ WB.heap.size ≤ G ∧ Wr.heap[G]? = some (.cells (if listed.getD 5 false = true then #[.int .i64 1, .string (numS Wk), .string (denS Wk), .string { data := #[] }, .bool false, .int .i64 0, .int .i64 0, .int .i64 0, .slice none 0 0] else #[.int .i64 0, .string { data := #[] }, .string { data := #[] }, .string { data := #[] }, .bool false, .int .i64 0, .int .i64 0, .int .i64 0, .slice none 0 0]) 30 (0, 0)) := hF.get 4 _ rfl (.inr p4)
                  subst eG
                  rw [if_neg (bit_off hun)] at hGB
                  have HGB := Lib.hid hGB
                  clear hGB
                  have p3 := hpre 3 (by kernel_rfl)
                  have e3 : s3 = .agg #[.int .i64 1, .string (numS Wk), .string (denS Wk), .string { data := #[] }, .bool false, .int .i64 0, .int .i64 0, .int .i64 0, .slice none 0 0] := hF.get 3 _ rfl (.inr p3)
                  subst e3
                  obtain ⟨⟨y0, y1, y2, y3, y4, y5, y6, y7, y8⟩, g0, g1, g2, g3, g4, g5, g6, g7, g8⟩ := nine_at HGB.out
                  refine step_of ⟨none, _, _, _, _, _⟩ rfl (fun K' hK => ?_)
                  go_simp
                  refine hK.out _ _ ⟨undef, hF.put hok hna hpre hun rfl undef rfl (.inr p4) rfl (set9_at HGB.out (.int .i64 1) (.string (numS Wk)) (.string (denS Wk)) (.string { data := #[] }) (.bool false) (.int .i64 0) (.int .i64 0) (.int .i64 0) (.slice none 0 0)) (fun k hk => set9_other _ _ (.int .i64 1) (.string (numS Wk)) (.string (denS Wk)) (.string { data := #[] }) (.bool false) (.int .i64 0) (.int .i64 0) (.int .i64 0) (.slice none 0 0) hk) (put9_below hGl _ (.int .i64 1) (.string (numS Wk)) (.string (denS Wk)) (.string { data := #[] }) (.bool false) (.int .i64 0) (.int .i64 0) (.int .i64 0) (.slice none 0 0)), ?fr⟩
                  case fr => simp only [putO, layT_some, layT_none, layT_nil, List.setIfInBounds_toArray, List.set_cons_zero, List.set_cons_succ]
          case hd =>
            rintro listed vs WC hF hall
            obtain ⟨s0, s1, s2, s3, s4, s5, hvs⟩ := exl_of 6 vs (fun l => vs = l) hF.len rfl
            subst hvs
            obtain ⟨b12, e4, _, _, k4⟩ : ∃ G, s4 = .pointer (some ⟨G, 0, none⟩) ∧ (∀ k, none = some k → G = k) ∧ _ ≤ G ∧ WC.heap[G]? = some (.cells (if listed.getD 5 false = true then #[.int .i64 1, .string (numS Wk), .string (denS Wk), .string { data := #[] }, .bool false, .int .i64 0, .int .i64 0, .int .i64 0, .slice none 0 0] else #[.int .i64 0, .string { data := #[] }, .string { data := #[] }, .string { data := #[] }, .bool false, .int .i64 0, .int .i64 0, .int .i64 0, .slice none 0 0]) 30 (0, 0)) := hF.get 4 _ rfl (.inr (hall 4 (by decide)))
            subst e4
            rw [if_pos (hall 5 (by decide))] at k4
            have H12 := Lib.hid k4
            clear k4
            have hq := below_none hF.low
            replace HE := Lib.hid (HE.out.below hq)
            replace HL := Lib.hid (HL.out.trans (hq.mono HL.out.size))
            replace H7 := Lib.hid (keep_block H7.out hq)
            replace H10 := Lib.hid (keep_block H10.out hq)
            replace H11 := Lib.hid (keep_block H11.out hq)
            replace HV := Lib.hid (HV.out.below hq)
            clear hq
            clear hF hall hok hna hla
            simp only [putO, layT_some, layT_none, layT_nil, List.setIfInBounds_toArray, List.set_cons_zero, List.set_cons_succ]
            go_wp2_with fail
            have hok : okB 8 (WkaKs14 m t c ln g cap B N K M D F W3 W5 Wk) = true := by kernel_rfl
            have hna := noAny_of (ks := (WkaKs14 m t c ln g cap B N K M D F W3 W5 Wk)) (by kernel_rfl)
            have hla := lasts_of hna
            refine wp_region_facts (row := none) (w := WC) 8 (WkaKs14 m t c ln g cap B N K M D F W3 W5 Wk) [some 68, some 69, some 70, some 67, some 71, some 72, some 13, some 14] (by kernel_rfl) (by kernel_rfl) rfl [undef, undef, undef, undef, undef, undef, undef, undef] ?h00 (Fs.start rfl rfl) ?hs ?hd
            case h00 => simp only [putO, layT_some, layT_none, layT_nil, List.setIfInBounds_toArray, List.set_cons_zero, List.set_cons_succ]
            case hs =>
              rintro listed vs Wr hF i hi hun hpre
              obtain ⟨s0, s1, s2, s3, s4, s5, s6, s7, hvs⟩ := exl_of 8 vs (fun l => vs = l) hF.len rfl
              subst hvs
              have hge := Nat.zero_le i
              simp only [putO, layT_some, layT_none, layT_nil, List.setIfInBounds_toArray, List.set_cons_zero, List.set_cons_succ]
              rcases Nat.lt_or_ge i 4 with hlt | hgt
              · replace hi := hlt
                clear hlt
                rcases Nat.lt_or_ge i 2 with hlt | hgt
                · replace hi := hlt
                  clear hlt
                  rcases Nat.lt_or_ge i 1 with hlt | hgt
                  · replace hi := hlt
                    clear hlt
                    have he : i = 0 := Nat.le_antisymm (Nat.le_of_lt_succ hi) hge
                    subst he
                    have hcc := (nine_at (keep_block H12.out (below_none hF.low))).1
                    have cH120 := hcc.1
                    have cH121 := hcc.2.1
                    have cH122 := hcc.2.2.1
                    have cH123 := hcc.2.2.2.1
                    have cH124 := hcc.2.2.2.2.1
                    have cH125 := hcc.2.2.2.2.2.1
                    have cH126 := hcc.2.2.2.2.2.2.1
                    have cH127 := hcc.2.2.2.2.2.2.2.1
                    have cH128 := hcc.2.2.2.2.2.2.2.2
                    clear hcc
                    refine step_of ⟨some 68, _, _, _, _, _⟩ rfl (fun K' hK => ?_)
                    go_simp
                    refine hK.out _ _ ⟨_, hF.pure hok hla hpre rfl (Below.refl _ _), ?fr⟩
                    case fr => simp only [putO, layT_some, layT_none, layT_nil, List.setIfInBounds_toArray, List.set_cons_zero, List.set_cons_succ]
                  · replace hge : 1 ≤ i := hgt
                    clear hgt
                    have he : i = 1 := Nat.le_antisymm (Nat.le_of_lt_succ hi) hge
                    subst he
                    refine step_of ⟨some 69, _, _, _, _, _⟩ rfl (fun K' hK => ?_)
                    go_simp
                    go_at_call 11
                    (with_reducible refine (Qt4.out _ (HE.out.below (below_none hF.low))).mono ?_)
                    rintro e Wq ⟨rfl, hq⟩
                    refine hK.out _ _ ⟨_, hF.pure hok hla hpre rfl hq, ?fr⟩
                    case fr => simp only [putO, layT_some, layT_none, layT_nil, List.setIfInBounds_toArray, List.set_cons_zero, List.set_cons_succ]
                · replace hge : 2 ≤ i := hgt
                  clear hgt
                  rcases Nat.lt_or_ge i 3 with hlt | hgt
                  · replace hi := hlt
                    clear hlt
                    have he : i = 2 := Nat.le_antisymm (Nat.le_of_lt_succ hi) hge
                    subst he
                    have p0 := hpre 0 (by kernel_rfl)
                    have e0 : s0 = .agg #[.int .i64 1, .string (numS Wk), .string (denS Wk), .string { data := #[] }, .bool false, .int .i64 0, .int .i64 0, .int .i64 0, .slice none 0 0] := hF.get 0 _ rfl (.inr p0)
                    subst e0
                    have p1 := hpre 1 (by kernel_rfl)
                    have e1 : s1 = .agg #[.int .i64 1, .string (numS W5), .string (denS W5), .string { data := #[] }, .bool false, .int .i64 0, .int .i64 0, .int .i64 0, .slice none 0 0] := hF.get 1 _ rfl (.inr p1)
                    subst e1
                    refine step_of ⟨some 70, _, _, _, _, _⟩ rfl (fun K' hK => ?_)
                    go_simp
                    go_at_call 17
                    (with_reducible refine (QtC.out _ (HE.out.below (below_none hF.low))).mono ?_)
                    rintro e Wq ⟨rfl, hq⟩
                    refine hK.out _ _ ⟨_, hF.pure hok hla hpre rfl hq, ?fr⟩
                    case fr => simp only [putO, layT_some, layT_none, layT_nil, List.setIfInBounds_toArray, List.set_cons_zero, List.set_cons_succ]
                  · replace hge : 3 ≤ i := hgt
                    clear hgt
                    have he : i = 3 := Nat.le_antisymm (Nat.le_of_lt_succ hi) hge
                    subst he
                    have p2 := hpre 2 (by kernel_rfl)
                    have e2 : s2 = .tuple #[.int .i64 c, .int .i64 0] := hF.get 2 _ rfl (.inr p2)
                    subst e2
                    refine step_of ⟨some 67, _, _, _, _, _⟩ rfl (fun K' hK => ?_)
                    go_simp
                    refine hK.out _ _ ⟨_, hF.pure hok hla hpre rfl (Below.refl _ _), ?fr⟩
                    case fr => simp only [putO, layT_some, layT_none, layT_nil, List.setIfInBounds_toArray, List.set_cons_zero, List.set_cons_succ]
              · replace hge : 4 ≤ i := hgt
                clear hgt
                rcases Nat.lt_or_ge i 6 with hlt | hgt
                · replace hi := hlt
                  clear hlt
                  rcases Nat.lt_or_ge i 5 with hlt | hgt
                  · replace hi := hlt
                    clear hlt
                    have he : i = 4 := Nat.le_antisymm (Nat.le_of_lt_succ hi) hge
                    subst he
                    have p3 := hpre 3 (by kernel_rfl)
                    have e3 : s3 = .tuple #[.int .i64 c, .int .i64 0] := hF.get 3 _ rfl (.inr p3)
                    subst e3
                    refine step_of ⟨some 71, _, _, _, _, _⟩ rfl (fun K' hK => ?_)
                    go_simp
                    refine hK.out _ _ ⟨_, hF.pure hok hla hpre rfl (Below.refl _ _), ?fr⟩
                    case fr => simp only [putO, layT_some, layT_none, layT_nil, List.setIfInBounds_toArray, List.set_cons_zero, List.set_cons_succ]
                  · replace hge : 5 ≤ i := hgt
                    clear hgt
                    have he : i = 5 := Nat.le_antisymm (Nat.le_of_lt_succ hi) hge
                    subst he
                    have p3 := hpre 3 (by kernel_rfl)
                    have e3 : s3 = .tuple #[.int .i64 c, .int .i64 0] := hF.get 3 _ rfl (.inr p3)
                    subst e3
                    refine step_of ⟨some 72, _, _, _, _, _⟩ rfl (fun K' hK => ?_)
                    go_simp
                    refine hK.out _ _ ⟨_, hF.pure hok hla hpre rfl (Below.refl _ _), ?fr⟩
                    case fr => simp only [putO, layT_some, layT_none, layT_nil, List.setIfInBounds_toArray, List.set_cons_zero, List.set_cons_succ]
                · replace hge : 6 ≤ i := hgt
                  clear hgt
                  rcases Nat.lt_or_ge i 7 with hlt | hgt
                  · replace hi := hlt
                    clear hlt
                    have he : i = 6 := Nat.le_antisymm (Nat.le_of_lt_succ hi) hge
                    subst he
                    have p4 := hpre 4 (by kernel_rfl)
                    have e4 : s4 = .int .i64 c := hF.get 4 _ rfl (.inr p4)
                    subst e4
                    refine step_of ⟨some 13, _, _, _, _, _⟩ rfl (fun K' hK => ?_)
                    go_simp
                    refine hK.out _ _ ⟨_, hF.pure hok hla hpre rfl (Below.refl _ _), ?fr⟩
                    case fr => simp only [putO, layT_some, layT_none, layT_nil, List.setIfInBounds_toArray, List.set_cons_zero, List.set_cons_succ]
                  · replace hge : 7 ≤ i := hgt
                    clear hgt
                    have he : i = 7 := Nat.le_antisymm (Nat.le_of_lt_succ hi) hge
                    subst he
                    have p5 := hpre 5 (by kernel_rfl)
                    have e5 : s5 = .int .i64 0 := hF.get 5 _ rfl (.inr p5)
                    subst e5
                    refine step_of ⟨some 14, _, _, _, _, _⟩ rfl (fun K' hK => ?_)
                    go_simp
                    refine hK.out _ _ ⟨_, hF.pure hok hla hpre rfl (Below.refl _ _), ?fr⟩
                    case fr => simp only [putO, layT_some, layT_none, layT_nil, List.setIfInBounds_toArray, List.set_cons_zero, List.set_cons_succ]
            case hd =>
              rintro listed vs WD hF hall
              obtain ⟨s0, s1, s2, s3, s4, s5, s6, s7, hvs⟩ := exl_of 8 vs (fun l => vs = l) hF.len rfl
              subst hvs
              have e6 : s6 = .int .i64 c := hF.get 6 _ rfl (.inr (hall 6 (by decide)))
              subst e6
              have hq := below_none hF.low
              replace HE := Lib.hid (HE.out.below hq)
              replace HL := Lib.hid (HL.out.trans (hq.mono HL.out.size))
              replace H7 := Lib.hid (keep_block H7.out hq)
              replace H10 := Lib.hid (keep_block H10.out hq)
              replace H11 := Lib.hid (keep_block H11.out hq)
              replace H12 := Lib.hid (keep_block H12.out hq)
              replace HV := Lib.hid (HV.out.below hq)
              clear hq
              clear hF hall hok hna hla
              simp only [putO, layT_some, layT_none, layT_nil, List.setIfInBounds_toArray, List.set_cons_zero, List.set_cons_succ]
              go_wp2_with fail
              have hok : okB 49 (WkaKs15 m t c ln g cap B N K M D F W3 W5 Wk b11) = true := by kernel_rfl
              have hna := noAny_of (ks := (WkaKs15 m t c ln g cap B N K M D F W3 W5 Wk b11)) (by kernel_rfl)
              have hla := lasts_of hna
              refine wp_region_facts (row := none) (w := WD) 49 (WkaKs15 m t c ln g cap B N K M D F W3 W5 Wk b11) [some 73, some 74, some 75, some 76, some 77, some 78, some 79, some 80, some 81, some 82, some 83, some 84, some 85, some 86, some 87, some 88, some 89, some 90, some 91, some 92, some 93, some 94, some 95, some 96, some 97, some 98, some 99, some 100, some 101, some 102, some 103, some 104, some 105, some 106, some 107, some 108, some 109, some 110, some 111, some 112, some 113, some 114, some 115, some 116, some 117, some 118, some 119, some 120, some 6] (by kernel_rfl) (by kernel_rfl) rfl [undef, undef, undef, undef, undef, undef, undef, undef, undef, undef, undef, undef, undef, undef, undef, undef, undef, undef, undef, undef, undef, undef, undef, undef, undef, undef, undef, undef, undef, undef, undef, undef, undef, undef, undef, undef, undef, undef, undef, undef, undef, undef, undef, undef, undef, undef, undef, undef, (.bool false)] ?h00 (Fs.start rfl rfl) ?hs ?hd
              case h00 => simp only [putO, layT_some, layT_none, layT_nil, List.setIfInBounds_toArray, List.set_cons_zero, List.set_cons_succ]
              case hs =>
                rintro listed vs Wr hF i hi hun hpre
                obtain ⟨s0, s1, s2, s3, s4, s5, s6, s7, s8, s9, s10, s11, s12, s13, s14, s15, s16, s17, s18, s19, s20, s21, s22, s23, s24, s25, s26, s27, s28, s29, s30, s31, s32, s33, s34, s35, s36, s37, s38, s39, s40, s41, s42, s43, s44, s45, s46, s47, s48, hvs⟩ := exl_of 49 vs (fun l => vs = l) hF.len rfl
                subst hvs
                have hge := Nat.zero_le i
                simp only [putO, layT_some, layT_none, layT_nil, List.setIfInBounds_toArray, List.set_cons_zero, List.set_cons_succ]
                rcases Nat.lt_or_ge i 24 with hlt | hgt
                · replace hi := hlt
                  clear hlt
                  rcases Nat.lt_or_ge i 12 with hlt | hgt
                  · replace hi := hlt
                    clear hlt
                    rcases Nat.lt_or_ge i 6 with hlt | hgt
                    · replace hi := hlt
                      clear hlt
                      rcases Nat.lt_or_ge i 3 with hlt | hgt
                      · replace hi := hlt
                        clear hlt
                        rcases Nat.lt_or_ge i 1 with hlt | hgt
                        · replace hi := hlt
                          clear hlt
                          have he : i = 0 := Nat.le_antisymm (Nat.le_of_lt_succ hi) hge
                          subst he
                          refine step_of ⟨some 73, _, _, _, _, _⟩ rfl (fun K' hK => ?_)
                          go_simp
                          refine hK.out _ _ ⟨_, hF.pure hok hla hpre rfl (Below.refl _ _), ?fr⟩
                          case fr => simp only [putO, layT_some, layT_none, layT_nil, List.setIfInBounds_toArray, List.set_cons_zero, List.set_cons_succ]
                        · replace hge : 1 ≤ i := hgt
                          clear hgt
                          rcases Nat.lt_or_ge i 2 with hlt | hgt
                          · replace hi := hlt
                            clear hlt
                            have he : i = 1 := Nat.le_antisymm (Nat.le_of_lt_succ hi) hge
                            subst he
                            have p0 := hpre 0 (by kernel_rfl)
                            have e0 : s0 = .int .i64 (10000 + m) := hF.get 0 _ rfl (.inr p0)
                            subst e0
                            refine step_of ⟨some 74, _, _, _, _, _⟩ rfl (fun K' hK => ?_)
                            go_simp
                            refine hK.out _ _ ⟨_, hF.pure hok hla hpre rfl (Below.refl _ _), ?fr⟩
                            case fr => simp only [putO, layT_some, layT_none, layT_nil, List.setIfInBounds_toArray, List.set_cons_zero, List.set_cons_succ]
                          · replace hge : 2 ≤ i := hgt
                            clear hgt
                            have he : i = 2 := Nat.le_antisymm (Nat.le_of_lt_succ hi) hge
                            subst he
                            have p1 := hpre 1 (by kernel_rfl)
                            have e1 : s1 = .int .i64 (10000 + m + 1) := hF.get 1 _ rfl (.inr p1)
                            subst e1
                            refine step_of ⟨some 75, _, _, _, _, _⟩ rfl (fun K' hK => ?_)
                            go_simp
                            go_at_call 11
                            (with_reducible refine (Qt5.out _ (HE.out.below (below_none hF.low))).mono ?_)
                            rintro e Wq ⟨rfl, hq⟩
                            refine hK.out _ _ ⟨_, hF.pure hok hla hpre rfl hq, ?fr⟩
                            case fr => simp only [putO, layT_some, layT_none, layT_nil, List.setIfInBounds_toArray, List.set_cons_zero, List.set_cons_succ]
                      · replace hge : 3 ≤ i := hgt
                        clear hgt
                        rcases Nat.lt_or_ge i 4 with hlt | hgt
                        · replace hi := hlt
                          clear hlt
                          have he : i = 3 := Nat.le_antisymm (Nat.le_of_lt_succ hi) hge
                          subst he
                          have hcc := (nine_at (keep_block H10.out (below_none hF.low))).1
                          have cH100 := hcc.1
                          have cH101 := hcc.2.1
                          have cH102 := hcc.2.2.1
                          have cH103 := hcc.2.2.2.1
                          have cH104 := hcc.2.2.2.2.1
                          have cH105 := hcc.2.2.2.2.2.1
                          have cH106 := hcc.2.2.2.2.2.2.1
                          have cH107 := hcc.2.2.2.2.2.2.2.1
                          have cH108 := hcc.2.2.2.2.2.2.2.2
                          clear hcc
                          refine step_of ⟨some 76, _, _, _, _, _⟩ rfl (fun K' hK => ?_)
                          go_simp
                          refine hK.out _ _ ⟨_, hF.pure hok hla hpre rfl (Below.refl _ _), ?fr⟩
                          case fr => simp only [putO, layT_some, layT_none, layT_nil, List.setIfInBounds_toArray, List.set_cons_zero, List.set_cons_succ]
                        · replace hge : 4 ≤ i := hgt
                          clear hgt
                          rcases Nat.lt_or_ge i 5 with hlt | hgt
                          · replace hi := hlt
                            clear hlt
                            have he : i = 4 := Nat.le_antisymm (Nat.le_of_lt_succ hi) hge
                            subst he
                            have hcc := (nine_at (keep_block H7.out (below_none hF.low))).1
                            have cH70 := hcc.1
                            have cH71 := hcc.2.1
                            have cH72 := hcc.2.2.1
                            have cH73 := hcc.2.2.2.1
                            have cH74 := hcc.2.2.2.2.1
                            have cH75 := hcc.2.2.2.2.2.1
                            have cH76 := hcc.2.2.2.2.2.2.1
                            have cH77 := hcc.2.2.2.2.2.2.2.1
                            have cH78 := hcc.2.2.2.2.2.2.2.2
                            clear hcc
                            refine step_of ⟨some 77, _, _, _, _, _⟩ rfl (fun K' hK => ?_)
                            go_simp
                            refine hK.out _ _ ⟨_, hF.pure hok hla hpre rfl (Below.refl _ _), ?fr⟩
                            case fr => simp only [putO, layT_some, layT_none, layT_nil, List.setIfInBounds_toArray, List.set_cons_zero, List.set_cons_succ]
                          · replace hge : 5 ≤ i := hgt
                            clear hgt
                            have he : i = 5 := Nat.le_antisymm (Nat.le_of_lt_succ hi) hge
                            subst he
                            have p2 := hpre 2 (by kernel_rfl)
                            have e2 : s2 = .agg #[.int .i64 1, .string (numS D), .string (denS D), .string { data := #[] }, .bool false, .int .i64 0, .int .i64 0, .int .i64 0, .slice none 0 0] := hF.get 2 _ rfl (.inr p2)
                            subst e2
                            have p3 := hpre 3 (by kernel_rfl)
                            have e3 : s3 = .agg #[.int .i64 1, .string (numS D), .string (denS D), .string { data := #[] }, .bool false, .int .i64 0, .int .i64 0, .int .i64 0, .slice none 0 0] := hF.get 3 _ rfl (.inr p3)
                            subst e3
                            have p4 := hpre 4 (by kernel_rfl)
                            have e4 : s4 = .agg #[.int .i64 5, .string { data := #[] }, .string { data := #[] }, .string { data := #[] }, .bool false, .int .i64 0, .int .i64 1, .int .i64 (ln : Int), .slice (some ⟨g, 0, none⟩) ln cap] := hF.get 4 _ rfl (.inr p4)
                            subst e4
                            refine step_of ⟨some 78, _, _, _, _, _⟩ rfl (fun K' hK => ?_)
                            go_simp
                            refine hK.out _ _ ⟨_, hF.row hok hla hpre rfl, ?fr⟩
                            case fr => simp only [putO, layT_some, layT_none, layT_nil, List.setIfInBounds_toArray, List.set_cons_zero, List.set_cons_succ]
                    · replace hge : 6 ≤ i := hgt
                      clear hgt
                      rcases Nat.lt_or_ge i 9 with hlt | hgt
                      · replace hi := hlt
                        clear hlt
                        rcases Nat.lt_or_ge i 7 with hlt | hgt
                        · replace hi := hlt
                          clear hlt
                          have he : i = 6 := Nat.le_antisymm (Nat.le_of_lt_succ hi) hge
                          subst he
                          have p5 := hpre 5 (by kernel_rfl)
                          obtain ⟨G, eG, _, hGB⟩ : ∃ G, s5 = .slice (some ⟨G, 0, none⟩) 3 3 ∧ _ ≤ G ∧ Wr.heap[G]? = some (.cells #[.int .i64 1, .string (numS D), .string (denS D), .string { data := #[] }, .bool false, .int .i64 0, .int .i64 0, .int .i64 0, .slice none 0 0, .int .i64 1, .string (numS D), .string (denS D), .string { data := #[] }, .bool false, .int .i64 0, .int .i64 0, .int .i64 0, .slice none 0 0, .int .i64 5, .string { data := #[] }, .string { data := #[] }, .string { data := #[] }, .bool false, .int .i64 0, .int .i64 1, .int .i64 (ln : Int), .slice (some ⟨g, 0, none⟩) ln cap] 30 (0, 0)) := hF.get 5 _ rfl (.inr p5)
                          subst eG
                          refine step_of ⟨some 79, _, _, _, _, _⟩ rfl (fun K' hK => ?_)
                          go_simp
                          go_at_call 20
                          (with_reducible refine (Qr1.out _ _ _ _ hGB (HV.out.below (below_none hF.low)) (HE.out.below (below_none hF.low))).mono ?_)
                          rintro e Wq ⟨rfl, hq⟩
                          refine hK.out _ _ ⟨_, hF.pure hok hla hpre rfl hq, ?fr⟩
                          case fr => simp only [putO, layT_some, layT_none, layT_nil, List.setIfInBounds_toArray, List.set_cons_zero, List.set_cons_succ]
                        · replace hge : 7 ≤ i := hgt
                          clear hgt
                          rcases Nat.lt_or_ge i 8 with hlt | hgt
                          · replace hi := hlt
                            clear hlt
                            have he : i = 7 := Nat.le_antisymm (Nat.le_of_lt_succ hi) hge
                            subst he
                            refine step_of ⟨some 80, _, _, _, _, _⟩ rfl (fun K' hK => ?_)
                            go_simp
                            refine hK.out _ _ ⟨_, hF.pure hok hla hpre rfl (Below.refl _ _), ?fr⟩
                            case fr => simp only [putO, layT_some, layT_none, layT_nil, List.setIfInBounds_toArray, List.set_cons_zero, List.set_cons_succ]
                          · replace hge : 8 ≤ i := hgt
                            clear hgt
                            have he : i = 8 := Nat.le_antisymm (Nat.le_of_lt_succ hi) hge
                            subst he
                            have p7 := hpre 7 (by kernel_rfl)
                            have e7 : s7 = .int .i64 (1 + t) := hF.get 7 _ rfl (.inr p7)
                            subst e7
                            refine step_of ⟨some 81, _, _, _, _, _⟩ rfl (fun K' hK => ?_)
                            go_simp
                            go_at_call 11
                            (with_reducible refine (Qt1.out _ (HE.out.below (below_none hF.low))).mono ?_)
                            rintro e Wq ⟨rfl, hq⟩
                            refine hK.out _ _ ⟨_, hF.pure hok hla hpre rfl hq, ?fr⟩
                            case fr => simp only [putO, layT_some, layT_none, layT_nil, List.setIfInBounds_toArray, List.set_cons_zero, List.set_cons_succ]
                      · replace hge : 9 ≤ i := hgt
                        clear hgt
                        rcases Nat.lt_or_ge i 10 with hlt | hgt
                        · replace hi := hlt
                          clear hlt
                          have he : i = 9 := Nat.le_antisymm (Nat.le_of_lt_succ hi) hge
                          subst he
                          have p6 := hpre 6 (by kernel_rfl)
                          have e6 : s6 = .agg #[.int .i64 1, .string (numS K), .string (denS K), .string { data := #[] }, .bool false, .int .i64 0, .int .i64 0, .int .i64 0, .slice none 0 0] := hF.get 6 _ rfl (.inr p6)
                          subst e6
                          have p8 := hpre 8 (by kernel_rfl)
                          have e8 : s8 = .agg #[.int .i64 1, .string (numS K), .string (denS K), .string { data := #[] }, .bool false, .int .i64 0, .int .i64 0, .int .i64 0, .slice none 0 0] := hF.get 8 _ rfl (.inr p8)
                          subst e8
                          refine step_of ⟨some 82, _, _, _, _, _⟩ rfl (fun K' hK => ?_)
                          go_simp
                          go_at_call 14
                          (with_reducible refine (RS.out K _).mono ?_)
                          rintro e Wq ⟨rfl, hq⟩
                          refine hK.out _ _ ⟨_, hF.pure hok hla hpre rfl hq, ?fr⟩
                          case fr => simp only [putO, layT_some, layT_none, layT_nil, List.setIfInBounds_toArray, List.set_cons_zero, List.set_cons_succ]
                        · replace hge : 10 ≤ i := hgt
                          clear hgt
                          rcases Nat.lt_or_ge i 11 with hlt | hgt
                          · replace hi := hlt
                            clear hlt
                            have he : i = 10 := Nat.le_antisymm (Nat.le_of_lt_succ hi) hge
                            subst he
                            have p9 := hpre 9 (by kernel_rfl)
                            have e9 : s9 = .bool true := hF.get 9 _ rfl (.inr p9)
                            subst e9
                            refine step_of ⟨some 83, _, _, _, _, _⟩ rfl (fun K' hK => ?_)
                            go_simp
                            refine hK.out _ _ ⟨_, hF.pure hok hla hpre rfl (Below.refl _ _), ?fr⟩
                            case fr => simp only [putO, layT_some, layT_none, layT_nil, List.setIfInBounds_toArray, List.set_cons_zero, List.set_cons_succ]
                          · replace hge : 11 ≤ i := hgt
                            clear hgt
                            have he : i = 11 := Nat.le_antisymm (Nat.le_of_lt_succ hi) hge
                            subst he
                            have p10 := hpre 10 (by kernel_rfl)
                            have e10 : s10 = .bool true := hF.get 10 _ rfl (.inr p10)
                            subst e10
                            have hcc := (nine_at (keep_block H10.out (below_none hF.low))).1
                            have cH100 := hcc.1
                            have cH101 := hcc.2.1
                            have cH102 := hcc.2.2.1
                            have cH103 := hcc.2.2.2.1
                            have cH104 := hcc.2.2.2.2.1
                            have cH105 := hcc.2.2.2.2.2.1
                            have cH106 := hcc.2.2.2.2.2.2.1
                            have cH107 := hcc.2.2.2.2.2.2.2.1
                            have cH108 := hcc.2.2.2.2.2.2.2.2
                            clear hcc
                            refine step_of ⟨some 84, _, _, _, _, _⟩ rfl (fun K' hK => ?_)
                            rw [if_pos (by rfl)]
                            go_simp
                            refine hK.out _ _ ⟨_, hF.pure hok hla hpre rfl (Below.refl _ _), ?fr⟩
                            case fr => simp only [putO, layT_some, layT_none, layT_nil, List.setIfInBounds_toArray, List.set_cons_zero, List.set_cons_succ]
                  · replace hge : 12 ≤ i := hgt
                    clear hgt
                    rcases Nat.lt_or_ge i 18 with hlt | hgt
                    · replace hi := hlt
                      clear hlt
                      rcases Nat.lt_or_ge i 15 with hlt | hgt
                      · replace hi := hlt
                        clear hlt
                        rcases Nat.lt_or_ge i 13 with hlt | hgt
                        · replace hi := hlt
                          clear hlt
                          have he : i = 12 := Nat.le_antisymm (Nat.le_of_lt_succ hi) hge
                          subst he
                          have p10 := hpre 10 (by kernel_rfl)
                          have e10 : s10 = .bool true := hF.get 10 _ rfl (.inr p10)
                          subst e10
                          have hcc := (nine_at (keep_block H10.out (below_none hF.low))).1
                          have cH100 := hcc.1
                          have cH101 := hcc.2.1
                          have cH102 := hcc.2.2.1
                          have cH103 := hcc.2.2.2.1
                          have cH104 := hcc.2.2.2.2.1
                          have cH105 := hcc.2.2.2.2.2.1
                          have cH106 := hcc.2.2.2.2.2.2.1
                          have cH107 := hcc.2.2.2.2.2.2.2.1
                          have cH108 := hcc.2.2.2.2.2.2.2.2
                          clear hcc
                          refine step_of ⟨some 85, _, _, _, _, _⟩ rfl (fun K' hK => ?_)
                          rw [if_pos (by rfl)]
                          go_simp
                          refine hK.out _ _ ⟨_, hF.pure hok hla hpre rfl (Below.refl _ _), ?fr⟩
                          case fr => simp only [putO, layT_some, layT_none, layT_nil, List.setIfInBounds_toArray, List.set_cons_zero, List.set_cons_succ]
                        · replace hge : 13 ≤ i := hgt
                          clear hgt
                          rcases Nat.lt_or_ge i 14 with hlt | hgt
                          · replace hi := hlt
                            clear hlt
                            have he : i = 13 := Nat.le_antisymm (Nat.le_of_lt_succ hi) hge
                            subst he
                            have p10 := hpre 10 (by kernel_rfl)
                            have e10 : s10 = .bool true := hF.get 10 _ rfl (.inr p10)
                            subst e10
                            have hcc := (nine_at (keep_block H7.out (below_none hF.low))).1
                            have cH70 := hcc.1
                            have cH71 := hcc.2.1
                            have cH72 := hcc.2.2.1
                            have cH73 := hcc.2.2.2.1
                            have cH74 := hcc.2.2.2.2.1
                            have cH75 := hcc.2.2.2.2.2.1
                            have cH76 := hcc.2.2.2.2.2.2.1
                            have cH77 := hcc.2.2.2.2.2.2.2.1
                            have cH78 := hcc.2.2.2.2.2.2.2.2
                            clear hcc
                            refine step_of ⟨some 86, _, _, _, _, _⟩ rfl (fun K' hK => ?_)
                            rw [if_pos (by rfl)]
                            go_simp
                            refine hK.out _ _ ⟨_, hF.pure hok hla hpre rfl (Below.refl _ _), ?fr⟩
                            case fr => simp only [putO, layT_some, layT_none, layT_nil, List.setIfInBounds_toArray, List.set_cons_zero, List.set_cons_succ]
                          · replace hge : 14 ≤ i := hgt
                            clear hgt
                            have he : i = 14 := Nat.le_antisymm (Nat.le_of_lt_succ hi) hge
                            subst he
                            have p11 := hpre 11 (by kernel_rfl)
                            have e11 : s11 = .agg #[.int .i64 1, .string (numS D), .string (denS D), .string { data := #[] }, .bool false, .int .i64 0, .int .i64 0, .int .i64 0, .slice none 0 0] := hF.get 11 _ rfl (.inr p11)
                            subst e11
                            have p12 := hpre 12 (by kernel_rfl)
                            have e12 : s12 = .agg #[.int .i64 1, .string (numS D), .string (denS D), .string { data := #[] }, .bool false, .int .i64 0, .int .i64 0, .int .i64 0, .slice none 0 0] := hF.get 12 _ rfl (.inr p12)
                            subst e12
                            have p13 := hpre 13 (by kernel_rfl)
                            have e13 : s13 = .agg #[.int .i64 5, .string { data := #[] }, .string { data := #[] }, .string { data := #[] }, .bool false, .int .i64 0, .int .i64 1, .int .i64 (ln : Int), .slice (some ⟨g, 0, none⟩) ln cap] := hF.get 13 _ rfl (.inr p13)
                            subst e13
                            have p10 := hpre 10 (by kernel_rfl)
                            have e10 : s10 = .bool true := hF.get 10 _ rfl (.inr p10)
                            subst e10
                            refine step_of ⟨some 87, _, _, _, _, _⟩ rfl (fun K' hK => ?_)
                            rw [if_pos (by rfl)]
                            go_simp
                            refine hK.out _ _ ⟨_, hF.row hok hla hpre rfl, ?fr⟩
                            case fr => simp only [putO, layT_some, layT_none, layT_nil, List.setIfInBounds_toArray, List.set_cons_zero, List.set_cons_succ]
                      · replace hge : 15 ≤ i := hgt
                        clear hgt
                        rcases Nat.lt_or_ge i 16 with hlt | hgt
                        · replace hi := hlt
                          clear hlt
                          have he : i = 15 := Nat.le_antisymm (Nat.le_of_lt_succ hi) hge
                          subst he
                          have p14 := hpre 14 (by kernel_rfl)
                          obtain ⟨G, eG, _, hGB⟩ : ∃ G, s14 = .slice (some ⟨G, 0, none⟩) 3 3 ∧ _ ≤ G ∧ Wr.heap[G]? = some (.cells #[.int .i64 1, .string (numS D), .string (denS D), .string { data := #[] }, .bool false, .int .i64 0, .int .i64 0, .int .i64 0, .slice none 0 0, .int .i64 1, .string (numS D), .string (denS D), .string { data := #[] }, .bool false, .int .i64 0, .int .i64 0, .int .i64 0, .slice none 0 0, .int .i64 5, .string { data := #[] }, .string { data := #[] }, .string { data := #[] }, .bool false, .int .i64 0, .int .i64 1, .int .i64 (ln : Int), .slice (some ⟨g, 0, none⟩) ln cap] 30 (0, 0)) := hF.get 14 _ rfl (.inr p14)
                          subst eG
                          have p10 := hpre 10 (by kernel_rfl)
                          have e10 : s10 = .bool true := hF.get 10 _ rfl (.inr p10)
                          subst e10
                          refine step_of ⟨some 88, _, _, _, _, _⟩ rfl (fun K' hK => ?_)
                          rw [if_pos (by rfl)]
                          go_simp
                          go_at_call 20
                          (with_reducible refine (Qr1.out _ _ _ _ hGB (HV.out.below (below_none hF.low)) (HE.out.below (below_none hF.low))).mono ?_)
                          rintro e Wq ⟨rfl, hq⟩
                          refine hK.out _ _ ⟨_, hF.pure hok hla hpre rfl hq, ?fr⟩
                          case fr => simp only [putO, layT_some, layT_none, layT_nil, List.setIfInBounds_toArray, List.set_cons_zero, List.set_cons_succ]
                        · replace hge : 16 ≤ i := hgt
                          clear hgt
                          rcases Nat.lt_or_ge i 17 with hlt | hgt
                          · replace hi := hlt
                            clear hlt
                            have he : i = 16 := Nat.le_antisymm (Nat.le_of_lt_succ hi) hge
                            subst he
                            have p10 := hpre 10 (by kernel_rfl)
                            have e10 : s10 = .bool true := hF.get 10 _ rfl (.inr p10)
                            subst e10
                            refine step_of ⟨some 89, _, _, _, _, _⟩ rfl (fun K' hK => ?_)
                            rw [if_pos (by rfl)]
                            go_simp
                            go_at_call 11
                            (with_reducible refine (Qt6.out _ (HE.out.below (below_none hF.low))).mono ?_)
                            rintro e Wq ⟨rfl, hq⟩
                            refine hK.out _ _ ⟨_, hF.pure hok hla hpre rfl hq, ?fr⟩
                            case fr => simp only [putO, layT_some, layT_none, layT_nil, List.setIfInBounds_toArray, List.set_cons_zero, List.set_cons_succ]
                          · replace hge : 17 ≤ i := hgt
                            clear hgt
                            have he : i = 17 := Nat.le_antisymm (Nat.le_of_lt_succ hi) hge
                            subst he
                            have p15 := hpre 15 (by kernel_rfl)
                            have e15 : s15 = .agg #[.int .i64 1, .string (numS K), .string (denS K), .string { data := #[] }, .bool false, .int .i64 0, .int .i64 0, .int .i64 0, .slice none 0 0] := hF.get 15 _ rfl (.inr p15)
                            subst e15
                            have p16 := hpre 16 (by kernel_rfl)
                            have e16 : s16 = .agg #[.int .i64 1, .string (numS K), .string (denS K), .string { data := #[] }, .bool false, .int .i64 0, .int .i64 0, .int .i64 0, .slice none 0 0] := hF.get 16 _ rfl (.inr p16)
                            subst e16
                            have p10 := hpre 10 (by kernel_rfl)
                            have e10 : s10 = .bool true := hF.get 10 _ rfl (.inr p10)
                            subst e10
                            refine step_of ⟨some 90, _, _, _, _, _⟩ rfl (fun K' hK => ?_)
                            rw [if_pos (by rfl)]
                            go_simp
                            go_at_call 14
                            (with_reducible refine (RS.out K _).mono ?_)
                            rintro e Wq ⟨rfl, hq⟩
                            refine hK.out _ _ ⟨_, hF.pure hok hla hpre rfl hq, ?fr⟩
                            case fr => simp only [putO, layT_some, layT_none, layT_nil, List.setIfInBounds_toArray, List.set_cons_zero, List.set_cons_succ]
                    · replace hge : 18 ≤ i := hgt
                      clear hgt
                      rcases Nat.lt_or_ge i 21 with hlt | hgt
                      · replace hi := hlt
                        clear hlt
                        rcases Nat.lt_or_ge i 19 with hlt | hgt
                        · replace hi := hlt
                          clear hlt
                          have he : i = 18 := Nat.le_antisymm (Nat.le_of_lt_succ hi) hge
                          subst he
                          have p10 := hpre 10 (by kernel_rfl)
                          have e10 : s10 = .bool true := hF.get 10 _ rfl (.inr p10)
                          subst e10
                          have p17 := hpre 17 (by kernel_rfl)
                          have e17 : s17 = .bool true := hF.get 17 _ rfl (.inr p17)
                          subst e17
                          refine step_of ⟨some 91, _, _, _, _, _⟩ rfl (fun K' hK => ?_)
                          go_simp
                          refine hK.out _ _ ⟨_, hF.pure hok hla hpre rfl (Below.refl _ _), ?fr⟩
                          case fr => simp only [putO, layT_some, layT_none, layT_nil, List.setIfInBounds_toArray, List.set_cons_zero, List.set_cons_succ]
                        · replace hge : 19 ≤ i := hgt
                          clear hgt
                          rcases Nat.lt_or_ge i 20 with hlt | hgt
                          · replace hi := hlt
                            clear hlt
                            have he : i = 19 := Nat.le_antisymm (Nat.le_of_lt_succ hi) hge
                            subst he
                            have p18 := hpre 18 (by kernel_rfl)
                            have e18 : s18 = .bool true := hF.get 18 _ rfl (.inr p18)
                            subst e18
                            refine step_of ⟨some 92, _, _, _, _, _⟩ rfl (fun K' hK => ?_)
                            go_simp
                            refine hK.out _ _ ⟨_, hF.pure hok hla hpre rfl (Below.refl _ _), ?fr⟩
                            case fr => simp only [putO, layT_some, layT_none, layT_nil, List.setIfInBounds_toArray, List.set_cons_zero, List.set_cons_succ]
                          · replace hge : 20 ≤ i := hgt
                            clear hgt
                            have he : i = 20 := Nat.le_antisymm (Nat.le_of_lt_succ hi) hge
                            subst he
                            have p19 := hpre 19 (by kernel_rfl)
                            have e19 : s19 = .bool true := hF.get 19 _ rfl (.inr p19)
                            subst e19
                            refine step_of ⟨some 93, _, _, _, _, _⟩ rfl (fun K' hK => ?_)
                            rw [if_pos (by rfl)]
                            go_simp
                            refine hK.out _ _ ⟨_, hF.pure hok hla hpre rfl (Below.refl _ _), ?fr⟩
                            case fr => simp only [putO, layT_some, layT_none, layT_nil, List.setIfInBounds_toArray, List.set_cons_zero, List.set_cons_succ]
                      · replace hge : 21 ≤ i := hgt
                        clear hgt
                        rcases Nat.lt_or_ge i 22 with hlt | hgt
                        · replace hi := hlt
                          clear hlt
                          have he : i = 21 := Nat.le_antisymm (Nat.le_of_lt_succ hi) hge
                          subst he
                          have p20 := hpre 20 (by kernel_rfl)
                          have e20 : s20 = .int .i64 c := hF.get 20 _ rfl (.inr p20)
                          subst e20
                          have p19 := hpre 19 (by kernel_rfl)
                          have e19 : s19 = .bool true := hF.get 19 _ rfl (.inr p19)
                          subst e19
                          refine step_of ⟨some 94, _, _, _, _, _⟩ rfl (fun K' hK => ?_)
                          rw [if_pos (by rfl)]
                          go_simp
                          refine hK.out _ _ ⟨_, hF.pure hok hla hpre rfl (Below.refl _ _), ?fr⟩
                          case fr => simp only [putO, layT_some, layT_none, layT_nil, List.setIfInBounds_toArray, List.set_cons_zero, List.set_cons_succ]
                        · replace hge : 22 ≤ i := hgt
                          clear hgt
                          rcases Nat.lt_or_ge i 23 with hlt | hgt
                          · replace hi := hlt
                            clear hlt
                            have he : i = 22 := Nat.le_antisymm (Nat.le_of_lt_succ hi) hge
                            subst he
                            have p19 := hpre 19 (by kernel_rfl)
                            have e19 : s19 = .bool true := hF.get 19 _ rfl (.inr p19)
                            subst e19
                            have p21 := hpre 21 (by kernel_rfl)
                            have e21 : s21 = .bool true := hF.get 21 _ rfl (.inr p21)
                            subst e21
                            refine step_of ⟨some 95, _, _, _, _, _⟩ rfl (fun K' hK => ?_)
                            go_simp
                            refine hK.out _ _ ⟨_, hF.pure hok hla hpre rfl (Below.refl _ _), ?fr⟩
                            case fr => simp only [putO, layT_some, layT_none, layT_nil, List.setIfInBounds_toArray, List.set_cons_zero, List.set_cons_succ]
                          · replace hge : 23 ≤ i := hgt
                            clear hgt
                            have he : i = 23 := Nat.le_antisymm (Nat.le_of_lt_succ hi) hge
                            subst he
                            have p22 := hpre 22 (by kernel_rfl)
                            have e22 : s22 = .bool true := hF.get 22 _ rfl (.inr p22)
                            subst e22
                            refine step_of ⟨some 96, _, _, _, _, _⟩ rfl (fun K' hK => ?_)
                            go_simp
                            refine hK.out _ _ ⟨_, hF.pure hok hla hpre rfl (Below.refl _ _), ?fr⟩
                            case fr => simp only [putO, layT_some, layT_none, layT_nil, List.setIfInBounds_toArray, List.set_cons_zero, List.set_cons_succ]
                · replace hge : 24 ≤ i := hgt
                  clear hgt
                  rcases Nat.lt_or_ge i 36 with hlt | hgt
                  · replace hi := hlt
                    clear hlt
                    rcases Nat.lt_or_ge i 30 with hlt | hgt
                    · replace hi := hlt
                      clear hlt
                      rcases Nat.lt_or_ge i 27 with hlt | hgt
                      · replace hi := hlt
                        clear hlt
                        rcases Nat.lt_or_ge i 25 with hlt | hgt
                        · replace hi := hlt
                          clear hlt
                          have he : i = 24 := Nat.le_antisymm (Nat.le_of_lt_succ hi) hge
                          subst he
                          have p23 := hpre 23 (by kernel_rfl)
                          have e23 : s23 = .bool true := hF.get 23 _ rfl (.inr p23)
                          subst e23
                          have hcc := (nine_at (keep_block H10.out (below_none hF.low))).1
                          have cH100 := hcc.1
                          have cH101 := hcc.2.1
                          have cH102 := hcc.2.2.1
                          have cH103 := hcc.2.2.2.1
                          have cH104 := hcc.2.2.2.2.1
                          have cH105 := hcc.2.2.2.2.2.1
                          have cH106 := hcc.2.2.2.2.2.2.1
                          have cH107 := hcc.2.2.2.2.2.2.2.1
                          have cH108 := hcc.2.2.2.2.2.2.2.2
                          clear hcc
                          refine step_of ⟨some 97, _, _, _, _, _⟩ rfl (fun K' hK => ?_)
                          rw [if_pos (by rfl)]
                          go_simp
                          refine hK.out _ _ ⟨_, hF.pure hok hla hpre rfl (Below.refl _ _), ?fr⟩
                          case fr => simp only [putO, layT_some, layT_none, layT_nil, List.setIfInBounds_toArray, List.set_cons_zero, List.set_cons_succ]
                        · replace hge : 25 ≤ i := hgt
                          clear hgt
                          rcases Nat.lt_or_ge i 26 with hlt | hgt
                          · replace hi := hlt
                            clear hlt
                            have he : i = 25 := Nat.le_antisymm (Nat.le_of_lt_succ hi) hge
                            subst he
                            have p23 := hpre 23 (by kernel_rfl)
                            have e23 : s23 = .bool true := hF.get 23 _ rfl (.inr p23)
                            subst e23
                            refine step_of ⟨some 98, _, _, _, _, _⟩ rfl (fun K' hK => ?_)
                            rw [if_pos (by rfl)]
                            go_simp
                            refine hK.out _ _ ⟨_, hF.pure hok hla hpre rfl (Below.refl _ _), ?fr⟩
                            case fr => simp only [putO, layT_some, layT_none, layT_nil, List.setIfInBounds_toArray, List.set_cons_zero, List.set_cons_succ]
                          · replace hge : 26 ≤ i := hgt
                            clear hgt
                            have he : i = 26 := Nat.le_antisymm (Nat.le_of_lt_succ hi) hge
                            subst he
                            have p25 := hpre 25 (by kernel_rfl)
                            have e25 : s25 = .int .i64 (10000 + m) := hF.get 25 _ rfl (.inr p25)
                            subst e25
                            have p23 := hpre 23 (by kernel_rfl)
                            have e23 : s23 = .bool true := hF.get 23 _ rfl (.inr p23)
                            subst e23
                            refine step_of ⟨some 99, _, _, _, _, _⟩ rfl (fun K' hK => ?_)
                            rw [if_pos (by rfl)]
                            go_simp
                            refine hK.out _ _ ⟨_, hF.pure hok hla hpre rfl (Below.refl _ _), ?fr⟩
                            case fr => simp only [putO, layT_some, layT_none, layT_nil, List.setIfInBounds_toArray, List.set_cons_zero, List.set_cons_succ]
                      · replace hge : 27 ≤ i := hgt
                        clear hgt
                        rcases Nat.lt_or_ge i 28 with hlt | hgt
                        · replace hi := hlt
                          clear hlt
                          have he : i = 27 := Nat.le_antisymm (Nat.le_of_lt_succ hi) hge
                          subst he
                          have p26 := hpre 26 (by kernel_rfl)
                          have e26 : s26 = .int .i64 (10000 + m + 1) := hF.get 26 _ rfl (.inr p26)
                          subst e26
                          have p23 := hpre 23 (by kernel_rfl)
                          have e23 : s23 = .bool true := hF.get 23 _ rfl (.inr p23)
                          subst e23
                          refine step_of ⟨some 100, _, _, _, _, _⟩ rfl (fun K' hK => ?_)
                          rw [if_pos (by rfl)]
                          go_simp
                          go_at_call 11
                          (with_reducible refine (Qt5.out _ (HE.out.below (below_none hF.low))).mono ?_)
                          rintro e Wq ⟨rfl, hq⟩
                          refine hK.out _ _ ⟨_, hF.pure hok hla hpre rfl hq, ?fr⟩
                          case fr => simp only [putO, layT_some, layT_none, layT_nil, List.setIfInBounds_toArray, List.set_cons_zero, List.set_cons_succ]
                        · replace hge : 28 ≤ i := hgt
                          clear hgt
                          rcases Nat.lt_or_ge i 29 with hlt | hgt
                          · replace hi := hlt
                            clear hlt
                            have he : i = 28 := Nat.le_antisymm (Nat.le_of_lt_succ hi) hge
                            subst he
                            have p24 := hpre 24 (by kernel_rfl)
                            have e24 : s24 = .agg #[.int .i64 1, .string (numS D), .string (denS D), .string { data := #[] }, .bool false, .int .i64 0, .int .i64 0, .int .i64 0, .slice none 0 0] := hF.get 24 _ rfl (.inr p24)
                            subst e24
                            have p27 := hpre 27 (by kernel_rfl)
                            have e27 : s27 = .agg #[.int .i64 1, .string (numS D), .string (denS D), .string { data := #[] }, .bool false, .int .i64 0, .int .i64 0, .int .i64 0, .slice none 0 0] := hF.get 27 _ rfl (.inr p27)
                            subst e27
                            have p23 := hpre 23 (by kernel_rfl)
                            have e23 : s23 = .bool true := hF.get 23 _ rfl (.inr p23)
                            subst e23
                            refine step_of ⟨some 101, _, _, _, _, _⟩ rfl (fun K' hK => ?_)
                            rw [if_pos (by rfl)]
                            go_simp
                            go_at_call 14
                            (with_reducible refine (RS.out D _).mono ?_)
                            rintro e Wq ⟨rfl, hq⟩
                            refine hK.out _ _ ⟨_, hF.pure hok hla hpre rfl hq, ?fr⟩
                            case fr => simp only [putO, layT_some, layT_none, layT_nil, List.setIfInBounds_toArray, List.set_cons_zero, List.set_cons_succ]
                          · replace hge : 29 ≤ i := hgt
                            clear hgt
                            have he : i = 29 := Nat.le_antisymm (Nat.le_of_lt_succ hi) hge
                            subst he
                            have p28 := hpre 28 (by kernel_rfl)
                            have e28 : s28 = .bool true := hF.get 28 _ rfl (.inr p28)
                            subst e28
                            have p23 := hpre 23 (by kernel_rfl)
                            have e23 : s23 = .bool true := hF.get 23 _ rfl (.inr p23)
                            subst e23
                            refine step_of ⟨some 102, _, _, _, _, _⟩ rfl (fun K' hK => ?_)
                            rw [if_pos (by rfl)]
                            go_simp
                            refine hK.out _ _ ⟨_, hF.pure hok hla hpre rfl (Below.refl _ _), ?fr⟩
                            case fr => simp only [putO, layT_some, layT_none, layT_nil, List.setIfInBounds_toArray, List.set_cons_zero, List.set_cons_succ]
                    · replace hge : 30 ≤ i := hgt
                      clear hgt
                      rcases Nat.lt_or_ge i 33 with hlt | hgt
                      · replace hi := hlt
                        clear hlt
                        rcases Nat.lt_or_ge i 31 with hlt | hgt
                        · replace hi := hlt
                          clear hlt
                          have he : i = 30 := Nat.le_antisymm (Nat.le_of_lt_succ hi) hge
                          subst he
                          have p29 := hpre 29 (by kernel_rfl)
                          have e29 : s29 = .bool true := hF.get 29 _ rfl (.inr p29)
                          subst e29
                          refine step_of ⟨some 103, _, _, _, _, _⟩ rfl (fun K' hK => ?_)
                          first
                            | rw [if_neg (by decide)]
                            | rw [if_neg (Bool.eq_false_iff.1 (by kernel_rfl))]
                          go_simp
                          refine hK.out _ _ ⟨_, hF.pure hok hla hpre rfl (Below.refl _ _), ?fr⟩
                          case fr => simp only [putO, layT_some, layT_none, layT_nil, List.setIfInBounds_toArray, List.set_cons_zero, List.set_cons_succ]
                        · replace hge : 31 ≤ i := hgt
                          clear hgt
                          rcases Nat.lt_or_ge i 32 with hlt | hgt
                          · replace hi := hlt
                            clear hlt
                            have he : i = 31 := Nat.le_antisymm (Nat.le_of_lt_succ hi) hge
                            subst he
                            have p29 := hpre 29 (by kernel_rfl)
                            have e29 : s29 = .bool true := hF.get 29 _ rfl (.inr p29)
                            subst e29
                            refine step_of ⟨some 104, _, _, _, _, _⟩ rfl (fun K' hK => ?_)
                            first
                              | rw [if_neg (by decide)]
                              | rw [if_neg (Bool.eq_false_iff.1 (by kernel_rfl))]
                            go_simp
                            refine hK.out _ _ ⟨_, hF.pure hok hla hpre rfl (Below.refl _ _), ?fr⟩
                            case fr => simp only [putO, layT_some, layT_none, layT_nil, List.setIfInBounds_toArray, List.set_cons_zero, List.set_cons_succ]
                          · replace hge : 32 ≤ i := hgt
                            clear hgt
                            have he : i = 32 := Nat.le_antisymm (Nat.le_of_lt_succ hi) hge
                            subst he
                            have p29 := hpre 29 (by kernel_rfl)
                            have e29 : s29 = .bool true := hF.get 29 _ rfl (.inr p29)
                            subst e29
                            refine step_of ⟨some 105, _, _, _, _, _⟩ rfl (fun K' hK => ?_)
                            first
                              | rw [if_neg (by decide)]
                              | rw [if_neg (Bool.eq_false_iff.1 (by kernel_rfl))]
                            go_simp
                            refine hK.out _ _ ⟨_, hF.pure hok hla hpre rfl (Below.refl _ _), ?fr⟩
                            case fr => simp only [putO, layT_some, layT_none, layT_nil, List.setIfInBounds_toArray, List.set_cons_zero, List.set_cons_succ]
                      · replace hge : 33 ≤ i := hgt
                        clear hgt
                        rcases Nat.lt_or_ge i 34 with hlt | hgt
                        · replace hi := hlt
                          clear hlt
                          have he : i = 33 := Nat.le_antisymm (Nat.le_of_lt_succ hi) hge
                          subst he
                          have p29 := hpre 29 (by kernel_rfl)
                          have e29 : s29 = .bool true := hF.get 29 _ rfl (.inr p29)
                          subst e29
                          refine step_of ⟨some 106, _, _, _, _, _⟩ rfl (fun K' hK => ?_)
                          first
                            | rw [if_neg (by decide)]
                            | rw [if_neg (Bool.eq_false_iff.1 (by kernel_rfl))]
                          go_simp
                          refine hK.out _ _ ⟨_, hF.pure hok hla hpre rfl (Below.refl _ _), ?fr⟩
                          case fr => simp only [putO, layT_some, layT_none, layT_nil, List.setIfInBounds_toArray, List.set_cons_zero, List.set_cons_succ]
                        · replace hge : 34 ≤ i := hgt
                          clear hgt
                          rcases Nat.lt_or_ge i 35 with hlt | hgt
                          · replace hi := hlt
                            clear hlt
                            have he : i = 34 := Nat.le_antisymm (Nat.le_of_lt_succ hi) hge
                            subst he
                            have p29 := hpre 29 (by kernel_rfl)
                            have e29 : s29 = .bool true := hF.get 29 _ rfl (.inr p29)
                            subst e29
                            refine step_of ⟨some 107, _, _, _, _, _⟩ rfl (fun K' hK => ?_)
                            first
                              | rw [if_neg (by decide)]
                              | rw [if_neg (Bool.eq_false_iff.1 (by kernel_rfl))]
                            go_simp
                            refine hK.out _ _ ⟨_, hF.pure hok hla hpre rfl (Below.refl _ _), ?fr⟩
                            case fr => simp only [putO, layT_some, layT_none, layT_nil, List.setIfInBounds_toArray, List.set_cons_zero, List.set_cons_succ]
                          · replace hge : 35 ≤ i := hgt
                            clear hgt
                            have he : i = 35 := Nat.le_antisymm (Nat.le_of_lt_succ hi) hge
                            subst he
                            have p29 := hpre 29 (by kernel_rfl)
                            have e29 : s29 = .bool true := hF.get 29 _ rfl (.inr p29)
                            subst e29
                            refine step_of ⟨some 108, _, _, _, _, _⟩ rfl (fun K' hK => ?_)
                            first
                              | rw [if_neg (by decide)]
                              | rw [if_neg (Bool.eq_false_iff.1 (by kernel_rfl))]
                            go_simp
                            refine hK.out _ _ ⟨_, hF.pure hok hla hpre rfl (Below.refl _ _), ?fr⟩
                            case fr => simp only [putO, layT_some, layT_none, layT_nil, List.setIfInBounds_toArray, List.set_cons_zero, List.set_cons_succ]
                  · replace hge : 36 ≤ i := hgt
                    clear hgt
                    rcases Nat.lt_or_ge i 42 with hlt | hgt
                    · replace hi := hlt
                      clear hlt
                      rcases Nat.lt_or_ge i 39 with hlt | hgt
                      · replace hi := hlt
                        clear hlt
                        rcases Nat.lt_or_ge i 37 with hlt | hgt
                        · replace hi := hlt
                          clear hlt
                          have he : i = 36 := Nat.le_antisymm (Nat.le_of_lt_succ hi) hge
                          subst he
                          have p29 := hpre 29 (by kernel_rfl)
                          have e29 : s29 = .bool true := hF.get 29 _ rfl (.inr p29)
                          subst e29
                          refine step_of ⟨some 109, _, _, _, _, _⟩ rfl (fun K' hK => ?_)
                          first
                            | rw [if_neg (by decide)]
                            | rw [if_neg (Bool.eq_false_iff.1 (by kernel_rfl))]
                          go_simp
                          refine hK.out _ _ ⟨_, hF.pure hok hla hpre rfl (Below.refl _ _), ?fr⟩
                          case fr => simp only [putO, layT_some, layT_none, layT_nil, List.setIfInBounds_toArray, List.set_cons_zero, List.set_cons_succ]
                        · replace hge : 37 ≤ i := hgt
                          clear hgt
                          rcases Nat.lt_or_ge i 38 with hlt | hgt
                          · replace hi := hlt
                            clear hlt
                            have he : i = 37 := Nat.le_antisymm (Nat.le_of_lt_succ hi) hge
                            subst he
                            have p29 := hpre 29 (by kernel_rfl)
                            have e29 : s29 = .bool true := hF.get 29 _ rfl (.inr p29)
                            subst e29
                            refine step_of ⟨some 110, _, _, _, _, _⟩ rfl (fun K' hK => ?_)
                            first
                              | rw [if_neg (by decide)]
                              | rw [if_neg (Bool.eq_false_iff.1 (by kernel_rfl))]
                            go_simp
                            refine hK.out _ _ ⟨_, hF.pure hok hla hpre rfl (Below.refl _ _), ?fr⟩
                            case fr => simp only [putO, layT_some, layT_none, layT_nil, List.setIfInBounds_toArray, List.set_cons_zero, List.set_cons_succ]
                          · replace hge : 38 ≤ i := hgt
                            clear hgt
                            have he : i = 38 := Nat.le_antisymm (Nat.le_of_lt_succ hi) hge
                            subst he
                            have p29 := hpre 29 (by kernel_rfl)
                            have e29 : s29 = .bool true := hF.get 29 _ rfl (.inr p29)
                            subst e29
                            refine step_of ⟨some 111, _, _, _, _, _⟩ rfl (fun K' hK => ?_)
                            first
                              | rw [if_neg (by decide)]
                              | rw [if_neg (Bool.eq_false_iff.1 (by kernel_rfl))]
                            go_simp
                            refine hK.out _ _ ⟨_, hF.pure hok hla hpre rfl (Below.refl _ _), ?fr⟩
                            case fr => simp only [putO, layT_some, layT_none, layT_nil, List.setIfInBounds_toArray, List.set_cons_zero, List.set_cons_succ]
                      · replace hge : 39 ≤ i := hgt
                        clear hgt
                        rcases Nat.lt_or_ge i 40 with hlt | hgt
                        · replace hi := hlt
                          clear hlt
                          have he : i = 39 := Nat.le_antisymm (Nat.le_of_lt_succ hi) hge
                          subst he
                          have p29 := hpre 29 (by kernel_rfl)
                          have e29 : s29 = .bool true := hF.get 29 _ rfl (.inr p29)
                          subst e29
                          refine step_of ⟨some 112, _, _, _, _, _⟩ rfl (fun K' hK => ?_)
                          first
                            | rw [if_neg (by decide)]
                            | rw [if_neg (Bool.eq_false_iff.1 (by kernel_rfl))]
                          go_simp
                          refine hK.out _ _ ⟨_, hF.pure hok hla hpre rfl (Below.refl _ _), ?fr⟩
                          case fr => simp only [putO, layT_some, layT_none, layT_nil, List.setIfInBounds_toArray, List.set_cons_zero, List.set_cons_succ]
                        · replace hge : 40 ≤ i := hgt
                          clear hgt
                          rcases Nat.lt_or_ge i 41 with hlt | hgt
                          · replace hi := hlt
                            clear hlt
                            have he : i = 40 := Nat.le_antisymm (Nat.le_of_lt_succ hi) hge
                            subst he
                            have p29 := hpre 29 (by kernel_rfl)
                            have e29 : s29 = .bool true := hF.get 29 _ rfl (.inr p29)
                            subst e29
                            refine step_of ⟨some 113, _, _, _, _, _⟩ rfl (fun K' hK => ?_)
                            first
                              | rw [if_neg (by decide)]
                              | rw [if_neg (Bool.eq_false_iff.1 (by kernel_rfl))]
                            go_simp
                            refine hK.out _ _ ⟨_, hF.pure hok hla hpre rfl (Below.refl _ _), ?fr⟩
                            case fr => simp only [putO, layT_some, layT_none, layT_nil, List.setIfInBounds_toArray, List.set_cons_zero, List.set_cons_succ]
                          · replace hge : 41 ≤ i := hgt
                            clear hgt
                            have he : i = 41 := Nat.le_antisymm (Nat.le_of_lt_succ hi) hge
                            subst he
                            have p29 := hpre 29 (by kernel_rfl)
                            have e29 : s29 = .bool true := hF.get 29 _ rfl (.inr p29)
                            subst e29
                            have p40 := hpre 40 (by kernel_rfl)
                            have e40 : s40 = undef := hF.get 40 _ rfl (.inr p40)
                            subst e40
                            have p23 := hpre 23 (by kernel_rfl)
                            have e23 : s23 = .bool true := hF.get 23 _ rfl (.inr p23)
                            subst e23
                            refine step_of ⟨some 114, _, _, _, _, _⟩ rfl (fun K' hK => ?_)
                            rw [if_pos (by rfl)]
                            go_simp
                            refine hK.out _ _ ⟨_, hF.pure hok hla hpre rfl (Below.refl _ _), ?fr⟩
                            case fr => simp only [putO, layT_some, layT_none, layT_nil, List.setIfInBounds_toArray, List.set_cons_zero, List.set_cons_succ]
                    · replace hge : 42 ≤ i := hgt
                      clear hgt
                      rcases Nat.lt_or_ge i 45 with hlt | hgt
                      · replace hi := hlt
                        clear hlt
                        rcases Nat.lt_or_ge i 43 with hlt | hgt
                        · replace hi := hlt
                          clear hlt
                          have he : i = 42 := Nat.le_antisymm (Nat.le_of_lt_succ hi) hge
                          subst he
                          have p23 := hpre 23 (by kernel_rfl)
                          have e23 : s23 = .bool true := hF.get 23 _ rfl (.inr p23)
                          subst e23
                          have p41 := hpre 41 (by kernel_rfl)
                          have e41 : s41 = .bool true := hF.get 41 _ rfl (.inr p41)
                          subst e41
                          refine step_of ⟨some 115, _, _, _, _, _⟩ rfl (fun K' hK => ?_)
                          go_simp
                          refine hK.out _ _ ⟨_, hF.pure hok hla hpre rfl (Below.refl _ _), ?fr⟩
                          case fr => simp only [putO, layT_some, layT_none, layT_nil, List.setIfInBounds_toArray, List.set_cons_zero, List.set_cons_succ]
                        · replace hge : 43 ≤ i := hgt
                          clear hgt
                          rcases Nat.lt_or_ge i 44 with hlt | hgt
                          · replace hi := hlt
                            clear hlt
                            have he : i = 43 := Nat.le_antisymm (Nat.le_of_lt_succ hi) hge
                            subst he
                            have p42 := hpre 42 (by kernel_rfl)
                            have e42 : s42 = .bool true := hF.get 42 _ rfl (.inr p42)
                            subst e42
                            refine step_of ⟨some 116, _, _, _, _, _⟩ rfl (fun K' hK => ?_)
                            go_simp
                            refine hK.out _ _ ⟨_, hF.pure hok hla hpre rfl (Below.refl _ _), ?fr⟩
                            case fr => simp only [putO, layT_some, layT_none, layT_nil, List.setIfInBounds_toArray, List.set_cons_zero, List.set_cons_succ]
                          · replace hge : 44 ≤ i := hgt
                            clear hgt
                            have he : i = 44 := Nat.le_antisymm (Nat.le_of_lt_succ hi) hge
                            subst he
                            have p43 := hpre 43 (by kernel_rfl)
                            have e43 : s43 = .bool true := hF.get 43 _ rfl (.inr p43)
                            subst e43
                            refine step_of ⟨some 117, _, _, _, _, _⟩ rfl (fun K' hK => ?_)
                            rw [if_pos (by rfl)]
                            go_simp
                            refine hK.out _ _ ⟨_, hF.pure hok hla hpre rfl (Below.refl _ _), ?fr⟩
                            case fr => simp only [putO, layT_some, layT_none, layT_nil, List.setIfInBounds_toArray, List.set_cons_zero, List.set_cons_succ]
                      · replace hge : 45 ≤ i := hgt
                        clear hgt
                        rcases Nat.lt_or_ge i 47 with hlt | hgt
                        · replace hi := hlt
                          clear hlt
                          rcases Nat.lt_or_ge i 46 with hlt | hgt
                          · replace hi := hlt
                            clear hlt
                            have he : i = 45 := Nat.le_antisymm (Nat.le_of_lt_succ hi) hge
                            subst he
                            have p44 := hpre 44 (by kernel_rfl)
                            have e44 : s44 = .pointer (some ⟨b11, 0, none⟩) := hF.get 44 _ rfl (.inr p44)
                            subst e44
                            have p43 := hpre 43 (by kernel_rfl)
                            have e43 : s43 = .bool true := hF.get 43 _ rfl (.inr p43)
                            subst e43
                            have hcc := (nine_at (keep_block H11.out (below_none hF.low))).1
                            have cH110 := hcc.1
                            have cH111 := hcc.2.1
                            have cH112 := hcc.2.2.1
                            have cH113 := hcc.2.2.2.1
                            have cH114 := hcc.2.2.2.2.1
                            have cH115 := hcc.2.2.2.2.2.1
                            have cH116 := hcc.2.2.2.2.2.2.1
                            have cH117 := hcc.2.2.2.2.2.2.2.1
                            have cH118 := hcc.2.2.2.2.2.2.2.2
                            clear hcc
                            refine step_of ⟨some 118, _, _, _, _, _⟩ rfl (fun K' hK => ?_)
                            rw [if_pos (by rfl)]
                            go_simp
                            refine hK.out _ _ ⟨_, hF.pure hok hla hpre rfl (Below.refl _ _), ?fr⟩
                            case fr => simp only [putO, layT_some, layT_none, layT_nil, List.setIfInBounds_toArray, List.set_cons_zero, List.set_cons_succ]
                          · replace hge : 46 ≤ i := hgt
                            clear hgt
                            have he : i = 46 := Nat.le_antisymm (Nat.le_of_lt_succ hi) hge
                            subst he
                            have p45 := hpre 45 (by kernel_rfl)
                            have e45 : s45 = .int .i64 1 := hF.get 45 _ rfl (.inr p45)
                            subst e45
                            have p43 := hpre 43 (by kernel_rfl)
                            have e43 : s43 = .bool true := hF.get 43 _ rfl (.inr p43)
                            subst e43
                            refine step_of ⟨some 119, _, _, _, _, _⟩ rfl (fun K' hK => ?_)
                            rw [if_pos (by rfl)]
                            go_simp
                            refine hK.out _ _ ⟨_, hF.pure hok hla hpre rfl (Below.refl _ _), ?fr⟩
                            case fr => simp only [putO, layT_some, layT_none, layT_nil, List.setIfInBounds_toArray, List.set_cons_zero, List.set_cons_succ]
                        · replace hge : 47 ≤ i := hgt
                          clear hgt
                          rcases Nat.lt_or_ge i 48 with hlt | hgt
                          · replace hi := hlt
                            clear hlt
                            have he : i = 47 := Nat.le_antisymm (Nat.le_of_lt_succ hi) hge
                            subst he
                            have p43 := hpre 43 (by kernel_rfl)
                            have e43 : s43 = .bool true := hF.get 43 _ rfl (.inr p43)
                            subst e43
                            have p46 := hpre 46 (by kernel_rfl)
                            have e46 : s46 = .bool true := hF.get 46 _ rfl (.inr p46)
                            subst e46
                            refine step_of ⟨some 120, _, _, _, _, _⟩ rfl (fun K' hK => ?_)
                            go_simp
                            refine hK.out _ _ ⟨_, hF.pure hok hla hpre rfl (Below.refl _ _), ?fr⟩
                            case fr => simp only [putO, layT_some, layT_none, layT_nil, List.setIfInBounds_toArray, List.set_cons_zero, List.set_cons_succ]
                          · replace hge : 48 ≤ i := hgt
                            clear hgt
                            have he : i = 48 := Nat.le_antisymm (Nat.le_of_lt_succ hi) hge
                            subst he
                            have p47 := hpre 47 (by kernel_rfl)
                            have e47 : s47 = .bool true := hF.get 47 _ rfl (.inr p47)
                            subst e47
                            refine step_of ⟨some 6, _, _, _, _, _⟩ rfl (fun K' hK => ?_)
                            go_simp
                            refine hK.out _ _ ⟨_, hF.pure hok hla hpre rfl (Below.refl _ _), ?fr⟩
                            case fr => simp only [putO, layT_some, layT_none, layT_nil, List.setIfInBounds_toArray, List.set_cons_zero, List.set_cons_succ]
              case hd =>
                rintro listed vs WE hF hall
                obtain ⟨s0, s1, s2, s3, s4, s5, s6, s7, s8, s9, s10, s11, s12, s13, s14, s15, s16, s17, s18, s19, s20, s21, s22, s23, s24, s25, s26, s27, s28, s29, s30, s31, s32, s33, s34, s35, s36, s37, s38, s39, s40, s41, s42, s43, s44, s45, s46, s47, s48, hvs⟩ := exl_of 49 vs (fun l => vs = l) hF.len rfl
                subst hvs
                have e48 : s48 = .bool true := hF.get 48 _ rfl (.inr (hall 48 (by decide)))
                subst e48
                have hq := below_none hF.low
                replace HE := Lib.hid (HE.out.below hq)
                replace HL := Lib.hid (HL.out.trans (hq.mono HL.out.size))
                replace H7 := Lib.hid (keep_block H7.out hq)
                replace H10 := Lib.hid (keep_block H10.out hq)
                replace H11 := Lib.hid (keep_block H11.out hq)
                replace H12 := Lib.hid (keep_block H12.out hq)
                replace HV := Lib.hid (HV.out.below hq)
                clear hq
                clear hF hall hok hna hla
                simp only [putO, layT_some, layT_none, layT_nil, List.setIfInBounds_toArray, List.set_cons_zero, List.set_cons_succ]
                go_wp2
                go_ret
                exact ⟨rfl, HL.out⟩

set_option linter.unusedVariables false in
/-- what the operations of region 9 yield -/
def WkbKs9 (m t c : Int) (ln g cap B : Nat) (N K M D F W3 W5 Wk On P Z : Rat) : List RK :=
  [.pure (.int .i64 (10000 + m)),
   .pure (.agg #[.int .i64 1, .string (numS N), .string (denS N), .string { data := #[] }, .bool false, .int .i64 0, .int .i64 0, .int .i64 0, .slice none 0 0]),
   .pure (.int .i64 (1 + t)),
   .pure (.agg #[.int .i64 1, .string (numS K), .string (denS K), .string { data := #[] }, .bool false, .int .i64 0, .int .i64 0, .int .i64 0, .slice none 0 0]),
   .pure (.agg #[.int .i64 5, .string { data := #[] }, .string { data := #[] }, .string { data := #[] }, .bool false, .int .i64 0, .int .i64 1, .int .i64 (ln : Int), .slice (some ⟨g, 0, none⟩) ln cap]),
   .row #[.int .i64 1, .string (numS N), .string (denS N), .string { data := #[] }, .bool false, .int .i64 0, .int .i64 0, .int .i64 0, .slice none 0 0, .int .i64 1, .string (numS K), .string (denS K), .string { data := #[] }, .bool false, .int .i64 0, .int .i64 0, .int .i64 0, .slice none 0 0, .int .i64 5, .string { data := #[] }, .string { data := #[] }, .string { data := #[] }, .bool false, .int .i64 0, .int .i64 1, .int .i64 (ln : Int), .slice (some ⟨g, 0, none⟩) ln cap] 30 3,
   .pure (.agg #[.int .i64 1, .string (numS D), .string (denS D), .string { data := #[] }, .bool false, .int .i64 0, .int .i64 0, .int .i64 0, .slice none 0 0]),
   .box none #[.int .i64 0, .string { data := #[] }, .string { data := #[] }, .string { data := #[] }, .bool false, .int .i64 0, .int .i64 0, .int .i64 0, .slice none 0 0] #[.int .i64 1, .string (numS D), .string (denS D), .string { data := #[] }, .bool false, .int .i64 0, .int .i64 0, .int .i64 0, .slice none 0 0] 30 8,
   .put 7]
set_option linter.unusedVariables false in
/-- what the operations of region 12 yield -/
def WkbKs12 (m t c : Int) (ln g cap B : Nat) (N K M D F W3 W5 Wk On P Z : Rat) : List RK :=
  [.pure (.agg #[.int .i64 1, .string (numS D), .string (denS D), .string { data := #[] }, .bool false, .int .i64 0, .int .i64 0, .int .i64 0, .slice none 0 0]),
   .pure (.agg #[.int .i64 1, .string (numS M), .string (denS M), .string { data := #[] }, .bool false, .int .i64 0, .int .i64 0, .int .i64 0, .slice none 0 0]),
   .pure (.agg #[.int .i64 1, .string (numS F), .string (denS F), .string { data := #[] }, .bool false, .int .i64 0, .int .i64 0, .int .i64 0, .slice none 0 0]),
   .box none #[.int .i64 0, .string { data := #[] }, .string { data := #[] }, .string { data := #[] }, .bool false, .int .i64 0, .int .i64 0, .int .i64 0, .slice none 0 0] #[.int .i64 1, .string (numS F), .string (denS F), .string { data := #[] }, .bool false, .int .i64 0, .int .i64 0, .int .i64 0, .slice none 0 0] 30 4,
   .put 3]
set_option linter.unusedVariables false in
/-- what the operations of region 13 yield -/
def WkbKs13 (m t c : Int) (ln g cap B : Nat) (N K M D F W3 W5 Wk On P Z : Rat) : List RK :=
  [.pure (.agg #[.int .i64 1, .string (numS D), .string (denS D), .string { data := #[] }, .bool false, .int .i64 0, .int .i64 0, .int .i64 0, .slice none 0 0]),
   .pure (.agg #[.int .i64 1, .string (numS W3), .string (denS W3), .string { data := #[] }, .bool false, .int .i64 0, .int .i64 0, .int .i64 0, .slice none 0 0]),
   .row #[.int .i64 1, .string (numS D), .string (denS D), .string { data := #[] }, .bool false, .int .i64 0, .int .i64 0, .int .i64 0, .slice none 0 0, .int .i64 1, .string (numS W3), .string (denS W3), .string { data := #[] }, .bool false, .int .i64 0, .int .i64 0, .int .i64 0, .slice none 0 0] 30 2,
   .pure (.agg #[.int .i64 1, .string (numS Wk), .string (denS Wk), .string { data := #[] }, .bool false, .int .i64 0, .int .i64 0, .int .i64 0, .slice none 0 0]),
   .box none #[.int .i64 0, .string { data := #[] }, .string { data := #[] }, .string { data := #[] }, .bool false, .int .i64 0, .int .i64 0, .int .i64 0, .slice none 0 0] #[.int .i64 1, .string (numS Wk), .string (denS Wk), .string { data := #[] }, .bool false, .int .i64 0, .int .i64 0, .int .i64 0, .slice none 0 0] 30 5,
   .put 4]
set_option linter.unusedVariables false in
/-- what the operations of region 14 yield -/
def WkbKs14 (m t c : Int) (ln g cap B : Nat) (N K M D F W3 W5 Wk On P Z : Rat) : List RK :=
  [.pure (.agg #[.int .i64 1, .string (numS Wk), .string (denS Wk), .string { data := #[] }, .bool false, .int .i64 0, .int .i64 0, .int .i64 0, .slice none 0 0]),
   .pure (.agg #[.int .i64 1, .string (numS W5), .string (denS W5), .string { data := #[] }, .bool false, .int .i64 0, .int .i64 0, .int .i64 0, .slice none 0 0]),
   .pure (.tuple #[.int .i64 c, .int .i64 0]),
   .pure (.tuple #[.int .i64 c, .int .i64 0]),
   .pure (.int .i64 c),
   .pure (.int .i64 0),
   .pure (.int .i64 c),
   .pure (.int .i64 0)]
set_option linter.unusedVariables false in
/-- what the operations of region 15 yield -/
def WkbKs15 (m t c : Int) (ln g cap B : Nat) (N K M D F W3 W5 Wk On P Z : Rat) (b11 : Nat) : List RK :=
  [.pure (.int .i64 (10000 + m)),
   .pure (.int .i64 (10000 + m + 1)),
   .pure (.agg #[.int .i64 1, .string (numS P), .string (denS P), .string { data := #[] }, .bool false, .int .i64 0, .int .i64 0, .int .i64 0, .slice none 0 0]),
   .pure (.agg #[.int .i64 1, .string (numS D), .string (denS D), .string { data := #[] }, .bool false, .int .i64 0, .int .i64 0, .int .i64 0, .slice none 0 0]),
   .pure (.agg #[.int .i64 5, .string { data := #[] }, .string { data := #[] }, .string { data := #[] }, .bool false, .int .i64 0, .int .i64 1, .int .i64 (ln : Int), .slice (some ⟨g, 0, none⟩) ln cap]),
   .row #[.int .i64 1, .string (numS P), .string (denS P), .string { data := #[] }, .bool false, .int .i64 0, .int .i64 0, .int .i64 0, .slice none 0 0, .int .i64 1, .string (numS D), .string (denS D), .string { data := #[] }, .bool false, .int .i64 0, .int .i64 0, .int .i64 0, .slice none 0 0, .int .i64 5, .string { data := #[] }, .string { data := #[] }, .string { data := #[] }, .bool false, .int .i64 0, .int .i64 1, .int .i64 (ln : Int), .slice (some ⟨g, 0, none⟩) ln cap] 30 3,
   .pure (.agg #[.int .i64 1, .string (numS K), .string (denS K), .string { data := #[] }, .bool false, .int .i64 0, .int .i64 0, .int .i64 0, .slice none 0 0]),
   .pure (.int .i64 (1 + t)),
   .pure (.agg #[.int .i64 1, .string (numS K), .string (denS K), .string { data := #[] }, .bool false, .int .i64 0, .int .i64 0, .int .i64 0, .slice none 0 0]),
   .pure (.bool true),
   .pure (.bool true),
   .pure (.agg #[.int .i64 1, .string (numS D), .string (denS D), .string { data := #[] }, .bool false, .int .i64 0, .int .i64 0, .int .i64 0, .slice none 0 0]),
   .pure (.agg #[.int .i64 1, .string (numS D), .string (denS D), .string { data := #[] }, .bool false, .int .i64 0, .int .i64 0, .int .i64 0, .slice none 0 0]),
   .pure (.agg #[.int .i64 5, .string { data := #[] }, .string { data := #[] }, .string { data := #[] }, .bool false, .int .i64 0, .int .i64 1, .int .i64 (ln : Int), .slice (some ⟨g, 0, none⟩) ln cap]),
   .row #[.int .i64 1, .string (numS D), .string (denS D), .string { data := #[] }, .bool false, .int .i64 0, .int .i64 0, .int .i64 0, .slice none 0 0, .int .i64 1, .string (numS D), .string (denS D), .string { data := #[] }, .bool false, .int .i64 0, .int .i64 0, .int .i64 0, .slice none 0 0, .int .i64 5, .string { data := #[] }, .string { data := #[] }, .string { data := #[] }, .bool false, .int .i64 0, .int .i64 1, .int .i64 (ln : Int), .slice (some ⟨g, 0, none⟩) ln cap] 30 3,
   .pure (.agg #[.int .i64 1, .string (numS On), .string (denS On), .string { data := #[] }, .bool false, .int .i64 0, .int .i64 0, .int .i64 0, .slice none 0 0]),
   .pure (.agg #[.int .i64 1, .string (numS On), .string (denS On), .string { data := #[] }, .bool false, .int .i64 0, .int .i64 0, .int .i64 0, .slice none 0 0]),
   .pure (.bool true),
   .pure (.bool true),
   .pure (.bool true),
   .pure (.int .i64 c),
   .pure (.bool true),
   .pure (.bool true),
   .pure (.bool true),
   .pure (.agg #[.int .i64 1, .string (numS D), .string (denS D), .string { data := #[] }, .bool false, .int .i64 0, .int .i64 0, .int .i64 0, .slice none 0 0]),
   .pure (.int .i64 (10000 + m)),
   .pure (.int .i64 (10000 + m + 1)),
   .pure (.agg #[.int .i64 1, .string (numS P), .string (denS P), .string { data := #[] }, .bool false, .int .i64 0, .int .i64 0, .int .i64 0, .slice none 0 0]),
   .pure (.bool false),
   .pure (.bool false),
   .pure (.agg #[.int .i64 1, .string (numS D), .string (denS D), .string { data := #[] }, .bool false, .int .i64 0, .int .i64 0, .int .i64 0, .slice none 0 0]),
   .pure (.int .i64 (10000 + m)),
   .pure (.int .i64 (10000 + m + 1)),
   .pure (.agg #[.int .i64 1, .string (numS P), .string (denS P), .string { data := #[] }, .bool false, .int .i64 0, .int .i64 0, .int .i64 0, .slice none 0 0]),
   .pure (.agg #[.int .i64 5, .string { data := #[] }, .string { data := #[] }, .string { data := #[] }, .bool false, .int .i64 0, .int .i64 1, .int .i64 (ln : Int), .slice (some ⟨g, 0, none⟩) ln cap]),
   .row #[.int .i64 1, .string (numS D), .string (denS D), .string { data := #[] }, .bool false, .int .i64 0, .int .i64 0, .int .i64 0, .slice none 0 0, .int .i64 1, .string (numS P), .string (denS P), .string { data := #[] }, .bool false, .int .i64 0, .int .i64 0, .int .i64 0, .slice none 0 0, .int .i64 5, .string { data := #[] }, .string { data := #[] }, .string { data := #[] }, .bool false, .int .i64 0, .int .i64 1, .int .i64 (ln : Int), .slice (some ⟨g, 0, none⟩) ln cap] 30 3,
   .pure (.agg #[.int .i64 1, .string (numS Z), .string (denS Z), .string { data := #[] }, .bool false, .int .i64 0, .int .i64 0, .int .i64 0, .slice none 0 0]),
   .pure (.int .i64 (1 + t)),
   .pure (.int .i64 (-(1 + t))),
   .pure (.agg #[.int .i64 1, .string (numS Z), .string (denS Z), .string { data := #[] }, .bool false, .int .i64 0, .int .i64 0, .int .i64 0, .slice none 0 0]),
   .pure (.bool true),
   .pure (.bool true),
   .pure (.bool true),
   .pure (.bool true),
   .pure (.pointer (some ⟨b11, 0, none⟩)),
   .pure (.int .i64 1),
   .pure (.bool true),
   .pure (.bool true),
   .pure (.bool true)]
set_option linter.unusedSimpArgs false in
set_option linter.unusedVariables false in
set_option maxHeartbeats 16000000 in
set_option maxRecDepth 100000 in
theorem works_far (n j m t c : Int) (A : Option Addr) (L C : Nat) (zs : List Int) (N K M D F W3 W5 Wk On P Z : Rat) (w : World) (hE : Env w) (hn0 : -9223372036854775808 ≤ n) (hn1 : n ≤ 9223372036854775807) (hs0 : -9223372036854775808 ≤ j) (hs1 : j ≤ 9223372036854775807) (hm : n % 100000 = m) (ht : j % 60 = t) (hc : c < 0) (hNN : N = ((10000 + m : Int) : Rat)) (hL : zs.length = L) (hLm : L ≤ 9223372036854775807) (hLC : L ≤ C) (hA : 0 < L → ∃ A', A = some A' ∧ CameI w A' zs) (hzs : ∀ z ∈ zs, -9223372036854775808 ≤ z ∧ z ≤ 9223372036854775807)
    (r0 : Date3 { data := #[87, 79, 82, 75, 68, 65, 89] } N K (freeDays (10000 + m) zs) (.agg #[.int .i64 1, .string (numS D), .string (denS D), .string { data := #[] }, .bool false, .int .i64 0, .int .i64 0, .int .i64 0, .slice none 0 0]))
    (r1 : Date3 { data := #[78, 69, 84, 87, 79, 82, 75, 68, 65, 89, 83] } P D (freeDays (10000 + m) zs) (.agg #[.int .i64 1, .string (numS K), .string (denS K), .string { data := #[] }, .bool false, .int .i64 0, .int .i64 0, .int .i64 0, .slice none 0 0]))
    (r2 : Date3 { data := #[78, 69, 84, 87, 79, 82, 75, 68, 65, 89, 83] } D D (freeDays (10000 + m) zs) (.agg #[.int .i64 1, .string (numS On), .string (denS On), .string { data := #[] }, .bool false, .int .i64 0, .int .i64 0, .int .i64 0, .slice none 0 0]))
    (r3 : Date3 { data := #[78, 69, 84, 87, 79, 82, 75, 68, 65, 89, 83] } D P (freeDays (10000 + m) zs) (.agg #[.int .i64 1, .string (numS Z), .string (denS Z), .string { data := #[] }, .bool false, .int .i64 0, .int .i64 0, .int .i64 0, .slice none 0 0]))
    (r9 : DateRow { data := #[87, 69, 69, 75, 68, 65, 89] } #[.int .i64 1, .string (numS D), .string (denS D), .string { data := #[] }, .bool false, .int .i64 0, .int .i64 0, .int .i64 0, .slice none 0 0, .int .i64 1, .string (numS W3), .string (denS W3), .string { data := #[] }, .bool false, .int .i64 0, .int .i64 0, .int .i64 0, .slice none 0 0] 2 (.agg #[.int .i64 1, .string (numS Wk), .string (denS Wk), .string { data := #[] }, .bool false, .int .i64 0, .int .i64 0, .int .i64 0, .slice none 0 0]))
    (t0 : Fun1 11 (.int .i64 (10000 + m)) (.agg #[.int .i64 1, .string (numS N), .string (denS N), .string { data := #[] }, .bool false, .int .i64 0, .int .i64 0, .int .i64 0, .slice none 0 0]))
    (t1 : Fun1 11 (.int .i64 (1 + t)) (.agg #[.int .i64 1, .string (numS K), .string (denS K), .string { data := #[] }, .bool false, .int .i64 0, .int .i64 0, .int .i64 0, .slice none 0 0]))
    (t2 : Fun1 11 (.int .i64 (-1)) (.agg #[.int .i64 1, .string (numS M), .string (denS M), .string { data := #[] }, .bool false, .int .i64 0, .int .i64 0, .int .i64 0, .slice none 0 0]))
    (t3 : Fun1 11 (.int .i64 3) (.agg #[.int .i64 1, .string (numS W3), .string (denS W3), .string { data := #[] }, .bool false, .int .i64 0, .int .i64 0, .int .i64 0, .slice none 0 0]))
    (t4 : Fun1 11 (.int .i64 5) (.agg #[.int .i64 1, .string (numS W5), .string (denS W5), .string { data := #[] }, .bool false, .int .i64 0, .int .i64 0, .int .i64 0, .slice none 0 0]))
    (t5 : Fun1 11 (.int .i64 (10000 + m + 1)) (.agg #[.int .i64 1, .string (numS P), .string (denS P), .string { data := #[] }, .bool false, .int .i64 0, .int .i64 0, .int .i64 0, .slice none 0 0]))
    (t6 : Fun1 11 (.int .i64 1) (.agg #[.int .i64 1, .string (numS On), .string (denS On), .string { data := #[] }, .bool false, .int .i64 0, .int .i64 0, .int .i64 0, .slice none 0 0]))
    (t7 : Fun1 11 (.int .i64 (-(1 + t))) (.agg #[.int .i64 1, .string (numS Z), .string (denS Z), .string { data := #[] }, .bool false, .int .i64 0, .int .i64 0, .int .i64 0, .slice none 0 0]))
    (tF : Fun2 15 (.agg #[.int .i64 1, .string (numS D), .string (denS D), .string { data := #[] }, .bool false, .int .i64 0, .int .i64 0, .int .i64 0, .slice none 0 0]) (.agg #[.int .i64 1, .string (numS M), .string (denS M), .string { data := #[] }, .bool false, .int .i64 0, .int .i64 0, .int .i64 0, .slice none 0 0]) (.agg #[.int .i64 1, .string (numS F), .string (denS F), .string { data := #[] }, .bool false, .int .i64 0, .int .i64 0, .int .i64 0, .slice none 0 0]))
    (tC : Fun2 17 (.agg #[.int .i64 1, .string (numS Wk), .string (denS Wk), .string { data := #[] }, .bool false, .int .i64 0, .int .i64 0, .int .i64 0, .slice none 0 0]) (.agg #[.int .i64 1, .string (numS W5), .string (denS W5), .string { data := #[] }, .bool false, .int .i64 0, .int .i64 0, .int .i64 0, .slice none 0 0]) (.tuple #[.int .i64 c, .int .i64 0]))
    (tS : Fun2 14 (.agg #[.int .i64 1, .string (numS D), .string (denS D), .string { data := #[] }, .bool false, .int .i64 0, .int .i64 0, .int .i64 0, .slice none 0 0]) (.agg #[.int .i64 1, .string (numS P), .string (denS P), .string { data := #[] }, .bool false, .int .i64 0, .int .i64 0, .int .i64 0, .slice none 0 0]) (.bool false)) :
    Calls Tryz.prog 7 #[.int .i64 n, .int .i64 j, .slice A L C] w fun e w' => e = .returned (.bool true) ∧ Below w.heap.size w w' := by
  have TMn := Lib.hid (fun W => kmod_any n 100000 hn0 hn1 (by decide) (by decide) W)
  rw [hm] at TMn
  have TMs := Lib.hid (fun W => kmod_any j 60 hs0 hs1 (by decide) (by decide) W)
  rw [ht] at TMs
  have hm0 : 0 ≤ m ∧ m ≤ 99999 := by omega
  have ht0 : 0 ≤ t ∧ t ≤ 59 := by omega
  obtain ⟨cn, hcv⟩ : ∃ cn, (zs.take 20).length = cn := ⟨_, rfl⟩
  have hc20 : cn ≤ 20 := by rw [← hcv]; simp; omega
  have hcL : cn ≤ L := by rw [← hcv]; simp; omega
  have hmin : min (L : Int) 20 = (cn : Int) := by rw [← hcv]; simp; omega
  have HQ := Lib.hid (show ∀ (k : Nat) (hk : k < cn), ∃ h : k < zs.length, (freeDays (10000 + m) zs).take (1 + k + 1) = (freeDays (10000 + m) zs).take (1 + k) ++ [10000 + m + zs[k] % 60] ∧ ((freeDays (10000 + m) zs).take (1 + k)).length = 1 + k from by
    intro k hk
    exact ⟨by omega, freeDays_take (10000 + m) zs k (by omega) (by omega)⟩)
  have HQL := Lib.hid (show (freeDays (10000 + m) zs).length = 1 + cn by rw [freeDays_len, hcv])
  have HQ1 := Lib.hid (show (freeDays (10000 + m) zs).take (1 + 0) = [10000 + m] by simp [freeDays])
  have HA := Lib.hid hA
  have HZ := Lib.hid hzs
  have HNN := Lib.hid hNN
  have Qr0 := Lib.hid (fun W G g cap h hv e => r0 W G g cap h hv e)
  have Qr1 := Lib.hid (fun W G g cap h hv e => r1 W G g cap h hv e)
  have Qr2 := Lib.hid (fun W G g cap h hv e => r2 W G g cap h hv e)
  have Qr3 := Lib.hid (fun W G g cap h hv e => r3 W G g cap h hv e)
  have Qr9 := Lib.hid (fun W G h g => r9 W G h g)
  have Qt0 := Lib.hid t0
  have Qt1 := Lib.hid t1
  have Qt2 := Lib.hid t2
  have Qt3 := Lib.hid t3
  have Qt4 := Lib.hid t4
  have Qt5 := Lib.hid t5
  have Qt6 := Lib.hid t6
  have Qt7 := Lib.hid t7
  have QtF := Lib.hid tF
  have QtC := Lib.hid tC
  have QtS := Lib.hid tS
  have RS := Lib.hid same_one
  have HE := Lib.hid hE
  have HEW := Lib.hid hE
  have HL := Lib.hid (Below.refl w.heap.size w)
  unfold Fun1 at Qt0 Qt1 Qt2 Qt3 Qt4 Qt5 Qt6 Qt7
  unfold Fun2 at QtF QtC QtS
  have hw1 : IntKind.i64.wrap (10000 + m + 1) = 10000 + m + 1 := IntWalk.i64_in _ (by omega)
  have hw2 : IntKind.i64.wrap (-(1 + t)) = -(1 + t) := IntWalk.i64_in _ (by omega)
  have hdc : decide (c < 0) = true := decide_eq_true hc
  obtain ⟨i0, hi0', hz0, hz1, hz2⟩ := info_val
  clear hE hm ht hn0 hn1 hs0 hs1 hc hA hzs hNN hcv hL r0 r1 r2 r3 r9 t0 t1 t2 t3 t4 t5 t6 t7 tF tC tS
  go_enter Tryz.func7, Tryz.ntmps7
  go_wp2_with fail
  refine (TMn.out _).mono ?_
  rintro e w1 ⟨rfl, rfl⟩
  go_wp2_with fail
  refine (TMs.out _).mono ?_
  rintro e w2 ⟨rfl, rfl⟩
  go_wp2_with fail
  (with_reducible refine (Qt0.out _ HE.out).mono ?_)
  rintro e w3 ⟨rfl, hq⟩
  have HI := Lib.hid (DayI.start (w := w2) (n := 10000 + m) (r := numS N) (d := denS N) (by rw [HNN.out]) (by rw [HNN.out]) hq)
  obtain ⟨B, hB⟩ : ∃ B, w3.heap.size + 1 = B := ⟨_, rfl⟩
  obtain ⟨W4, hW4⟩ : ∃ W4, (w3.alloc (.cells #[.int .i64 1, .string (numS N), .string (denS N), .string { data := #[] }, .bool false, .int .i64 0, .int .i64 0, .int .i64 0, .slice none 0 0] 30)).alloc (.cells #[.int .i64 5, .string { data := #[] }, .string { data := #[] }, .string { data := #[] }, .bool false, .int .i64 0, .int .i64 1, .int .i64 1, .slice (some ⟨w3.heap.size, 0, none⟩) 1 1] 30) = W4 := ⟨_, rfl⟩
  rw [hW4, hB] at HI
  have EB := Lib.hid hB
  have EW := Lib.hid hW4
  clear hq hB hW4
  go_wp2_with fail
  rw [EW.out, EB.out]
  go_loopg [31] cn (fun gh v31 wx => ∃ (k : Nat) (cc : Int) (v : Value), v31 = .int .i64 ((k : Nat) : Int) ∧ k ≤ cn ∧ gh = cn - k ∧ cc = 1 + (k : Int) ∧ DayI w2 B cc v v ((freeDays (10000 + m) zs).take (1 + k)) wx)
  case atStart => exact ⟨0, 1, _, rfl, Nat.zero_le _, rfl, rfl, by rw [HQ1.out]; exact HI.out⟩
  case round =>
    clear HI EB EW HE HL
    obtain ⟨k, cc, v, rfl, hk, rfl, hcc, hti⟩ := hrel
    have HTI := Lib.hid hti
    by_cases hlt : k < cn
    · have hd : decide ((k : Int) < (cn : Int)) = true := decide_eq_true (by omega)
      have hd2 : decide (k < cn) = true := decide_eq_true hlt
      obtain ⟨hkn, htk, hdl⟩ := HQ.out k hlt
      obtain ⟨A', hA', hcame⟩ := HA.out (by omega)
      subst hA'
      have hcell := cell_below (hcame k hkn) HTI.out.low
      obtain ⟨hb1, hb2⟩ := HZ.out _ (List.getElem_mem hkn)
      obtain ⟨z, hz⟩ : ∃ z, zs[k] = z := ⟨_, rfl⟩
      rw [hz] at hcell hb1 hb2 htk
      have TZ := Lib.hid (fun W => kmod_any z 60 hb1 hb2 (by decide) (by decide) W)
      obtain ⟨r, hr⟩ : ∃ r, z % 60 = r := ⟨_, rfl⟩
      rw [hr] at TZ htk
      have hr0 : 0 ≤ r ∧ r ≤ 59 := by omega
      have TN := Lib.hid (fun W g => kwhole_any (10000 + m + r) W (by omega) (by omega) g)
      have hwr : IntKind.i64.wrap (10000 + m + r) = 10000 + m + r := IntWalk.i64_in _ (by omega)
      have hwc : IntKind.i64.wrap (cc + 1) = cc + 1 := IntWalk.i64_in _ (by omega)
      obtain ⟨q, hq⟩ : ∃ q : Rat, ((10000 + m + r : Int) : Rat) = q := ⟨_, rfl⟩
      rw [hq] at TN
      rw [numVal_is q] at TN
      have HQQ := Lib.hid hq
      have HTK := Lib.hid htk
      have HDL := Lib.hid hdl
      have hown := hti.own
      rw [hdl] at hown
      obtain ⟨av, cv, hu⟩ := owns_form hown
      subst hu
      have hi0 : (0 : Int) ≤ (k : Int) := by omega
      have hi1 : (k : Int) < (cn : Int) := by omega
      have hml : 1 + k + 1 ≤ maxLen := by unfold maxLen; omega
      have HCC := Lib.hid hcc
      clear hti hown htk hdl hb1 hb2 hz hq hkn hr hcame hcc
      go_upto_region 6 with fail
      clear hcell
      replace HTI := Lib.hid (HTI.out.step ((Below.refl wr.heap.size wr).drew))
      obtain ⟨⟨x0, x1, x2, x3, x4, x5, x6, x7, x8⟩, y0, y1, y2, y3, y4, y5, y6, y7, y8⟩ := nine_at HTI.out.box
      go_region_law (first
        | (have HT3 := Lib.hid (HT2.out.step ((Below.refl W2.heap.size W2).alloc (Nat.le_refl _) (.cells #[.int .i64 1, .string (numS q), .string (denS q), .string { data := #[] }, .bool false, .int .i64 0, .int .i64 0, .int .i64 0, .slice none 0 0] 30)));
           have HOW := Lib.hid (show (W2.alloc (.cells #[.int .i64 1, .string (numS q), .string (denS q), .string { data := #[] }, .bool false, .int .i64 0, .int .i64 0, .int .i64 0, .slice none 0 0] 30)).ownsRow w2.heap.size 30 9 (.slice av (1 + k) cv) (1 + k) (flat (numVals (days ((freeDays (10000 + m) zs).take (1 + k))))) from by have := HT3.out.own; rw [HDL.out] at this; exact this);
           have HNW := Lib.hid (World.news_of_block (cs := #[.int .i64 1, .string (numS q), .string (denS q), .string { data := #[] }, .bool false, .int .i64 0, .int .i64 0, .int .i64 0, .slice none 0 0]) (t := 30) (fr := (0, 0)) (heap_alloc_new W2 (.cells #[.int .i64 1, .string (numS q), .string (denS q), .string { data := #[] }, .bool false, .int .i64 0, .int .i64 0, .int .i64 0, .slice none 0 0] 30)));
           refine step_append_day rfl _ _ 28 rfl w2.heap.size 30 i0 _ 9 112 Tryz.underlying28 hi0' hz0 hz1 hz2 rfl (by decide) (.slice av (1 + k) cv) (1 + k) (flat (numVals (days ((freeDays (10000 + m) zs).take (1 + k))))) (by simp [Act.eval, Act.put]) HOW.out ⟨W2.heap.size, 0, none⟩ 1 1 [.int .i64 1, .string (numS q), .string (denS q), .string { data := #[] }, .bool false, .int .i64 0, .int .i64 0, .int .i64 0, .slice none 0 0] (by simp [Act.eval, Act.put]) rfl HNW.out (by simp [Value.oneCell']) hml (by omega) HT3.out.low.size ?_;
           intro v5 w5 hown5 hgrow5;
           obtain ⟨a5, c5, hu5⟩ := owns_form hown5;
           subst hu5;
           have HT5 := Lib.hid (HT3.out.push (z := 10000 + m + r) (by rw [HDL.out, HQQ.out]; exact hown5) hgrow5);
           rw [← HTK.out] at HT5;
           clear hown5 hgrow5 HT3 HOW HNW;
           obtain ⟨⟨x0, x1, x2, x3, x4, x5, x6, x7, x8⟩, y0, y1, y2, y3, y4, y5, y6, y7, y8⟩ := nine_at HT5.out.box)
        | (go_simp; go_at_call 9; (with_reducible refine (TZ.out _).mono ?_); rintro e W1 ⟨rfl, rfl⟩)
        | (go_simp; go_at_call 11; (with_reducible refine (TN.out _ (HEW.out.below HTI.out.low)).mono ?_); rintro e W2 ⟨rfl, hb⟩; have HT2 := Lib.hid (HTI.out.step hb); clear hb; obtain ⟨⟨x0, x1, x2, x3, x4, x5, x6, x7, x8⟩, y0, y1, y2, y3, y4, y5, y6, y7, y8⟩ := nine_at HT2.out.box; obtain ⟨⟨_, _, _, _, _, _, _, _, z8⟩, _⟩ := nine_at (HT2.out.step ((Below.refl W2.heap.size W2).alloc (Nat.le_refl _) (.cells #[.int .i64 1, .string (numS q), .string (denS q), .string { data := #[] }, .bool false, .int .i64 0, .int .i64 0, .int .i64 0, .slice none 0 0] 30))).box))
      all_goals
        have HT6 := Lib.hid HT5.out.store
        have HT7 := Lib.hid (HT6.out.cols (c' := cc + 1))
        obtain ⟨⟨u0, u1, u2, u3, u4, u5, u6, u7, u8⟩, v0, v1, v2, v3, v4, v5, v6, v7, v8⟩ := nine_at HT6.out.box
        go_wp2
        go_roundg (cn - (k + 1))
        case measure => omega
        case rel => exact ⟨k + 1, cc + 1, _, by go_num, by omega, by omega, by have := HCC.out; omega, HT7.out⟩
    · have hd : decide ((k : Int) < (cn : Int)) = false := decide_eq_false (by omega)
      have hd2 : decide (k < cn) = false := decide_eq_false hlt
      have hkL : k = cn := by omega
      have hall : (freeDays (10000 + m) zs).take (1 + k) = freeDays (10000 + m) zs := by rw [hkL, ← HQL.out, List.take_length]
      rw [hall] at hti
      obtain ⟨g, cap, hv, hg, hcap, hva⟩ := hti.at
      subst hv
      obtain ⟨ln, hln⟩ : ∃ ln, (freeDays (10000 + m) zs).length = ln := ⟨_, rfl⟩
      have hcl : cc = (ln : Int) := by rw [← hln, HQL.out, hcc, hkL]; omega
      subst hcl
      rw [hln] at hti hcap
      have HV := Lib.hid hva
      have H7 := Lib.hid hti.box
      have HL := Lib.hid hti.low
      have HE := Lib.hid (HEW.out.below hti.low)
      rw [hln] at Qr0 Qr1 Qr2 Qr3
      clear hti HTI hall hkL hlt hva hcc hk HQL HQ HQ1 HA HZ HNN HEW hln
      go_wp2_with fail
      have hok : okB 9 (WkbKs9 m t c ln g cap B N K M D F W3 W5 Wk On P Z) = true := by kernel_rfl
      have hna := noAny_of (ks := (WkbKs9 m t c ln g cap B N K M D F W3 W5 Wk On P Z)) (by kernel_rfl)
      have hla := lasts_of hna
      refine wp_region_facts (row := none) (w := wr) 9 (WkbKs9 m t c ln g cap B N K M D F W3 W5 Wk On P Z) [some 50, some 51, some 52, some 53, some 54, some 55, some 56, some 10, none] (by kernel_rfl) (by kernel_rfl) rfl [undef, undef, undef, undef, undef, undef, undef, undef, undef] ?h00 (Fs.start rfl rfl) ?hs ?hd
      case h00 => simp only [putO, layT_some, layT_none, layT_nil, List.setIfInBounds_toArray, List.set_cons_zero, List.set_cons_succ]
      case hs =>
        rintro listed vs Wr hF i hi hun hpre
        obtain ⟨s0, s1, s2, s3, s4, s5, s6, s7, s8, hvs⟩ := exl_of 9 vs (fun l => vs = l) hF.len rfl
        subst hvs
        have hge := Nat.zero_le i
        simp only [putO, layT_some, layT_none, layT_nil, List.setIfInBounds_toArray, List.set_cons_zero, List.set_cons_succ]
        rcases Nat.lt_or_ge i 4 with hlt | hgt
        · replace hi := hlt
          clear hlt
          rcases Nat.lt_or_ge i 2 with hlt | hgt
          · replace hi := hlt
            clear hlt
            rcases Nat.lt_or_ge i 1 with hlt | hgt
            · replace hi := hlt
              clear hlt
              have he : i = 0 := Nat.le_antisymm (Nat.le_of_lt_succ hi) hge
              subst he
              refine step_of ⟨some 50, _, _, _, _, _⟩ rfl (fun K' hK => ?_)
              go_simp
              refine hK.out _ _ ⟨_, hF.pure hok hla hpre rfl (Below.refl _ _), ?fr⟩
              case fr => simp only [putO, layT_some, layT_none, layT_nil, List.setIfInBounds_toArray, List.set_cons_zero, List.set_cons_succ]
            · replace hge : 1 ≤ i := hgt
              clear hgt
              have he : i = 1 := Nat.le_antisymm (Nat.le_of_lt_succ hi) hge
              subst he
              have p0 := hpre 0 (by kernel_rfl)
              have e0 : s0 = .int .i64 (10000 + m) := hF.get 0 _ rfl (.inr p0)
              subst e0
              refine step_of ⟨some 51, _, _, _, _, _⟩ rfl (fun K' hK => ?_)
              go_simp
              go_at_call 11
              (with_reducible refine (Qt0.out _ (HE.out.below (below_none hF.low))).mono ?_)
              rintro e Wq ⟨rfl, hq⟩
              refine hK.out _ _ ⟨_, hF.pure hok hla hpre rfl hq, ?fr⟩
              case fr => simp only [putO, layT_some, layT_none, layT_nil, List.setIfInBounds_toArray, List.set_cons_zero, List.set_cons_succ]
          · replace hge : 2 ≤ i := hgt
            clear hgt
            rcases Nat.lt_or_ge i 3 with hlt | hgt
            · replace hi := hlt
              clear hlt
              have he : i = 2 := Nat.le_antisymm (Nat.le_of_lt_succ hi) hge
              subst he
              refine step_of ⟨some 52, _, _, _, _, _⟩ rfl (fun K' hK => ?_)
              go_simp
              refine hK.out _ _ ⟨_, hF.pure hok hla hpre rfl (Below.refl _ _), ?fr⟩
              case fr => simp only [putO, layT_some, layT_none, layT_nil, List.setIfInBounds_toArray, List.set_cons_zero, List.set_cons_succ]
            · replace hge : 3 ≤ i := hgt
              clear hgt
              have he : i = 3 := Nat.le_antisymm (Nat.le_of_lt_succ hi) hge
              subst he
              have p2 := hpre 2 (by kernel_rfl)
              have e2 : s2 = .int .i64 (1 + t) := hF.get 2 _ rfl (.inr p2)
              subst e2
              refine step_of ⟨some 53, _, _, _, _, _⟩ rfl (fun K' hK => ?_)
              go_simp
              go_at_call 11
              (with_reducible refine (Qt1.out _ (HE.out.below (below_none hF.low))).mono ?_)
              rintro e Wq ⟨rfl, hq⟩
              refine hK.out _ _ ⟨_, hF.pure hok hla hpre rfl hq, ?fr⟩
              case fr => simp only [putO, layT_some, layT_none, layT_nil, List.setIfInBounds_toArray, List.set_cons_zero, List.set_cons_succ]
        · replace hge : 4 ≤ i := hgt
          clear hgt
          rcases Nat.lt_or_ge i 6 with hlt | hgt
          · replace hi := hlt
            clear hlt
            rcases Nat.lt_or_ge i 5 with hlt | hgt
            · replace hi := hlt
              clear hlt
              have he : i = 4 := Nat.le_antisymm (Nat.le_of_lt_succ hi) hge
              subst he
              have hcc := (nine_at (keep_block H7.out (below_none hF.low))).1
              have cH70 := hcc.1
              have cH71 := hcc.2.1
              have cH72 := hcc.2.2.1
              have cH73 := hcc.2.2.2.1
              have cH74 := hcc.2.2.2.2.1
              have cH75 := hcc.2.2.2.2.2.1
              have cH76 := hcc.2.2.2.2.2.2.1
              have cH77 := hcc.2.2.2.2.2.2.2.1
              have cH78 := hcc.2.2.2.2.2.2.2.2
              clear hcc
              refine step_of ⟨some 54, _, _, _, _, _⟩ rfl (fun K' hK => ?_)
              go_simp
              refine hK.out _ _ ⟨_, hF.pure hok hla hpre rfl (Below.refl _ _), ?fr⟩
              case fr => simp only [putO, layT_some, layT_none, layT_nil, List.setIfInBounds_toArray, List.set_cons_zero, List.set_cons_succ]
            · replace hge : 5 ≤ i := hgt
              clear hgt
              have he : i = 5 := Nat.le_antisymm (Nat.le_of_lt_succ hi) hge
              subst he
              have p1 := hpre 1 (by kernel_rfl)
              have e1 : s1 = .agg #[.int .i64 1, .string (numS N), .string (denS N), .string { data := #[] }, .bool false, .int .i64 0, .int .i64 0, .int .i64 0, .slice none 0 0] := hF.get 1 _ rfl (.inr p1)
              subst e1
              have p3 := hpre 3 (by kernel_rfl)
              have e3 : s3 = .agg #[.int .i64 1, .string (numS K), .string (denS K), .string { data := #[] }, .bool false, .int .i64 0, .int .i64 0, .int .i64 0, .slice none 0 0] := hF.get 3 _ rfl (.inr p3)
              subst e3
              have p4 := hpre 4 (by kernel_rfl)
              have e4 : s4 = .agg #[.int .i64 5, .string { data := #[] }, .string { data := #[] }, .string { data := #[] }, .bool false, .int .i64 0, .int .i64 1, .int .i64 (ln : Int), .slice (some ⟨g, 0, none⟩) ln cap] := hF.get 4 _ rfl (.inr p4)
              subst e4
              refine step_of ⟨some 55, _, _, _, _, _⟩ rfl (fun K' hK => ?_)
              go_simp
              refine hK.out _ _ ⟨_, hF.row hok hla hpre rfl, ?fr⟩
              case fr => simp only [putO, layT_some, layT_none, layT_nil, List.setIfInBounds_toArray, List.set_cons_zero, List.set_cons_succ]
          · replace hge : 6 ≤ i := hgt
            clear hgt
            rcases Nat.lt_or_ge i 7 with hlt | hgt
            · replace hi := hlt
              clear hlt
              have he : i = 6 := Nat.le_antisymm (Nat.le_of_lt_succ hi) hge
              subst he
              have p5 := hpre 5 (by kernel_rfl)
              obtain ⟨G, eG, _, hGB⟩ : ∃ G, s5 = .slice (some ⟨G, 0, none⟩) 3 3 ∧ _ ≤ G ∧ Wr.heap[G]? = some (.cells #[.int .i64 1, .string (numS N), .string (denS N), .string { data := #[] }, .bool false, .int .i64 0, .int .i64 0, .int .i64 0, .slice none 0 0, .int .i64 1, .string (numS K), .string (denS K), .string { data := #[] }, .bool false, .int .i64 0, .int .i64 0, .int .i64 0, .slice none 0 0, .int .i64 5, .string { data := #[] }, .string { data := #[] }, .string { data := #[] }, .bool false, .int .i64 0, .int .i64 1, .int .i64 (ln : Int), .slice (some ⟨g, 0, none⟩) ln cap] 30 (0, 0)) := hF.get 5 _ rfl (.inr p5)
              subst eG
              refine step_of ⟨some 56, _, _, _, _, _⟩ rfl (fun K' hK => ?_)
              go_simp
              go_at_call 20
              (with_reducible refine (Qr0.out _ _ _ _ hGB (HV.out.below (below_none hF.low)) (HE.out.below (below_none hF.low))).mono ?_)
              rintro e Wq ⟨rfl, hq⟩
              refine hK.out _ _ ⟨_, hF.pure hok hla hpre rfl hq, ?fr⟩
              case fr => simp only [putO, layT_some, layT_none, layT_nil, List.setIfInBounds_toArray, List.set_cons_zero, List.set_cons_succ]
            · replace hge : 7 ≤ i := hgt
              clear hgt
              rcases Nat.lt_or_ge i 8 with hlt | hgt
              · replace hi := hlt
                clear hlt
                have he : i = 7 := Nat.le_antisymm (Nat.le_of_lt_succ hi) hge
                subst he
                refine step_of ⟨some 10, _, _, _, _, _⟩ rfl (fun K' hK => ?_)
                go_simp
                refine hK.out _ _ ⟨_, hF.box hok hla hpre hun rfl, ?fr⟩
                case fr => simp only [putO, layT_some, layT_none, layT_nil, List.setIfInBounds_toArray, List.set_cons_zero, List.set_cons_succ]
              · replace hge : 8 ≤ i := hgt
                clear hgt
                have he : i = 8 := Nat.le_antisymm (Nat.le_of_lt_succ hi) hge
                subst he
                have p7 := hpre 7 (by kernel_rfl)
                obtain ⟨G, eG, _, hGl, hGB⟩ : ∃ G, s7 = .pointer (some ⟨G, 0, none⟩) ∧ (∀ k, none = some k → G = k) ∧ wr.heap.size ≤ G ∧ Wr.heap[G]? = some (.cells (if listed.getD 8 false = true then #[.int .i64 1, .string (numS D), .string (denS D), .string { data := #[] }, .bool false, .int .i64 0, .int .i64 0, .int .i64 0, .slice none 0 0] else #[.int .i64 0, .string { data := #[] }, .string { data := #[] }, .string { data := #[] }, .bool false, .int .i64 0, .int .i64 0, .int .i64 0, .slice none 0 0]) 30 (0, 0)) := hF.get 7 _ rfl (.inr p7)
                subst eG
                rw [if_neg (bit_off hun)] at hGB
                have HGB := Lib.hid hGB
                clear hGB
                have p6 := hpre 6 (by kernel_rfl)
                have e6 : s6 = .agg #[.int .i64 1, .string (numS D), .string (denS D), .string { data := #[] }, .bool false, .int .i64 0, .int .i64 0, .int .i64 0, .slice none 0 0] := hF.get 6 _ rfl (.inr p6)
                subst e6
                obtain ⟨⟨y0, y1, y2, y3, y4, y5, y6, y7, y8⟩, g0, g1, g2, g3, g4, g5, g6, g7, g8⟩ := nine_at HGB.out
                refine step_of ⟨none, _, _, _, _, _⟩ rfl (fun K' hK => ?_)
                go_simp
                refine hK.out _ _ ⟨undef, hF.put hok hna hpre hun rfl undef rfl (.inr p7) rfl (set9_at HGB.out (.int .i64 1) (.string (numS D)) (.string (denS D)) (.string { data := #[] }) (.bool false) (.int .i64 0) (.int .i64 0) (.int .i64 0) (.slice none 0 0)) (fun k hk => set9_other _ _ (.int .i64 1) (.string (numS D)) (.string (denS D)) (.string { data := #[] }) (.bool false) (.int .i64 0) (.int .i64 0) (.int .i64 0) (.slice none 0 0) hk) (put9_below hGl _ (.int .i64 1) (.string (numS D)) (.string (denS D)) (.string { data := #[] }) (.bool false) (.int .i64 0) (.int .i64 0) (.int .i64 0) (.slice none 0 0)), ?fr⟩
                case fr => simp only [putO, layT_some, layT_none, layT_nil, List.setIfInBounds_toArray, List.set_cons_zero, List.set_cons_succ]
      case hd =>
        rintro listed vs WA hF hall
        obtain ⟨s0, s1, s2, s3, s4, s5, s6, s7, s8, hvs⟩ := exl_of 9 vs (fun l => vs = l) hF.len rfl
        subst hvs
        obtain ⟨b10, e7, _, _, k7⟩ : ∃ G, s7 = .pointer (some ⟨G, 0, none⟩) ∧ (∀ k, none = some k → G = k) ∧ _ ≤ G ∧ WA.heap[G]? = some (.cells (if listed.getD 8 false = true then #[.int .i64 1, .string (numS D), .string (denS D), .string { data := #[] }, .bool false, .int .i64 0, .int .i64 0, .int .i64 0, .slice none 0 0] else #[.int .i64 0, .string { data := #[] }, .string { data := #[] }, .string { data := #[] }, .bool false, .int .i64 0, .int .i64 0, .int .i64 0, .slice none 0 0]) 30 (0, 0)) := hF.get 7 _ rfl (.inr (hall 7 (by decide)))
        subst e7
        rw [if_pos (hall 8 (by decide))] at k7
        have H10 := Lib.hid k7
        clear k7
        have hq := below_none hF.low
        replace HE := Lib.hid (HE.out.below hq)
        replace HL := Lib.hid (HL.out.trans (hq.mono HL.out.size))
        replace H7 := Lib.hid (keep_block H7.out hq)
        replace HV := Lib.hid (HV.out.below hq)
        clear hq
        clear hF hall hok hna hla
        simp only [putO, layT_some, layT_none, layT_nil, List.setIfInBounds_toArray, List.set_cons_zero, List.set_cons_succ]
        obtain ⟨⟨lH100, lH101, lH102, lH103, lH104, lH105, lH106, lH107, lH108⟩, _⟩ := nine_at H10.out
        go_wp2_with fail
        clear lH100 lH101 lH102 lH103 lH104 lH105 lH106 lH107 lH108
        have hok : okB 5 (WkbKs12 m t c ln g cap B N K M D F W3 W5 Wk On P Z) = true := by kernel_rfl
        have hna := noAny_of (ks := (WkbKs12 m t c ln g cap B N K M D F W3 W5 Wk On P Z)) (by kernel_rfl)
        have hla := lasts_of hna
        refine wp_region_facts (row := none) (w := WA) 5 (WkbKs12 m t c ln g cap B N K M D F W3 W5 Wk On P Z) [some 60, some 61, some 62, some 11, none] (by kernel_rfl) (by kernel_rfl) rfl [undef, undef, undef, undef, undef] ?h00 (Fs.start rfl rfl) ?hs ?hd
        case h00 => simp only [putO, layT_some, layT_none, layT_nil, List.setIfInBounds_toArray, List.set_cons_zero, List.set_cons_succ]
        case hs =>
          rintro listed vs Wr hF i hi hun hpre
          obtain ⟨s0, s1, s2, s3, s4, hvs⟩ := exl_of 5 vs (fun l => vs = l) hF.len rfl
          subst hvs
          have hge := Nat.zero_le i
          simp only [putO, layT_some, layT_none, layT_nil, List.setIfInBounds_toArray, List.set_cons_zero, List.set_cons_succ]
          rcases Nat.lt_or_ge i 2 with hlt | hgt
          · replace hi := hlt
            clear hlt
            rcases Nat.lt_or_ge i 1 with hlt | hgt
            · replace hi := hlt
              clear hlt
              have he : i = 0 := Nat.le_antisymm (Nat.le_of_lt_succ hi) hge
              subst he
              have hcc := (nine_at (keep_block H10.out (below_none hF.low))).1
              have cH100 := hcc.1
              have cH101 := hcc.2.1
              have cH102 := hcc.2.2.1
              have cH103 := hcc.2.2.2.1
              have cH104 := hcc.2.2.2.2.1
              have cH105 := hcc.2.2.2.2.2.1
              have cH106 := hcc.2.2.2.2.2.2.1
              have cH107 := hcc.2.2.2.2.2.2.2.1
              have cH108 := hcc.2.2.2.2.2.2.2.2
              clear hcc
              refine step_of ⟨some 60, _, _, _, _, _⟩ rfl (fun K' hK => ?_)
              go_simp
              refine hK.out _ _ ⟨_, hF.pure hok hla hpre rfl (Below.refl _ _), ?fr⟩
              case fr => simp only [putO, layT_some, layT_none, layT_nil, List.setIfInBounds_toArray, List.set_cons_zero, List.set_cons_succ]
            · replace hge : 1 ≤ i := hgt
              clear hgt
              have he : i = 1 := Nat.le_antisymm (Nat.le_of_lt_succ hi) hge
              subst he
              refine step_of ⟨some 61, _, _, _, _, _⟩ rfl (fun K' hK => ?_)
              go_simp
              go_at_call 11
              (with_reducible refine (Qt2.out _ (HE.out.below (below_none hF.low))).mono ?_)
              rintro e Wq ⟨rfl, hq⟩
              refine hK.out _ _ ⟨_, hF.pure hok hla hpre rfl hq, ?fr⟩
              case fr => simp only [putO, layT_some, layT_none, layT_nil, List.setIfInBounds_toArray, List.set_cons_zero, List.set_cons_succ]
          · replace hge : 2 ≤ i := hgt
            clear hgt
            rcases Nat.lt_or_ge i 3 with hlt | hgt
            · replace hi := hlt
              clear hlt
              have he : i = 2 := Nat.le_antisymm (Nat.le_of_lt_succ hi) hge
              subst he
              have p0 := hpre 0 (by kernel_rfl)
              have e0 : s0 = .agg #[.int .i64 1, .string (numS D), .string (denS D), .string { data := #[] }, .bool false, .int .i64 0, .int .i64 0, .int .i64 0, .slice none 0 0] := hF.get 0 _ rfl (.inr p0)
              subst e0
              have p1 := hpre 1 (by kernel_rfl)
              have e1 : s1 = .agg #[.int .i64 1, .string (numS M), .string (denS M), .string { data := #[] }, .bool false, .int .i64 0, .int .i64 0, .int .i64 0, .slice none 0 0] := hF.get 1 _ rfl (.inr p1)
              subst e1
              refine step_of ⟨some 62, _, _, _, _, _⟩ rfl (fun K' hK => ?_)
              go_simp
              go_at_call 15
              (with_reducible refine (QtF.out _ (HE.out.below (below_none hF.low))).mono ?_)
              rintro e Wq ⟨rfl, hq⟩
              refine hK.out _ _ ⟨_, hF.pure hok hla hpre rfl hq, ?fr⟩
              case fr => simp only [putO, layT_some, layT_none, layT_nil, List.setIfInBounds_toArray, List.set_cons_zero, List.set_cons_succ]
            · replace hge : 3 ≤ i := hgt
              clear hgt
              rcases Nat.lt_or_ge i 4 with hlt | hgt
              · replace hi := hlt
                clear hlt
                have he : i = 3 := Nat.le_antisymm (Nat.le_of_lt_succ hi) hge
                subst he
                refine step_of ⟨some 11, _, _, _, _, _⟩ rfl (fun K' hK => ?_)
                go_simp
                refine hK.out _ _ ⟨_, hF.box hok hla hpre hun rfl, ?fr⟩
                case fr => simp only [putO, layT_some, layT_none, layT_nil, List.setIfInBounds_toArray, List.set_cons_zero, List.set_cons_succ]
              · replace hge : 4 ≤ i := hgt
                clear hgt
                have he : i = 4 := Nat.le_antisymm (Nat.le_of_lt_succ hi) hge
                subst he
                have p3 := hpre 3 (by kernel_rfl)
                obtain ⟨G, eG, _, hGl, hGB⟩ : ∃ G, s3 = .pointer (some ⟨G, 0, none⟩) ∧ (∀ k, none = some k → G = k) ∧ WA.heap.size ≤ G ∧ Wr.heap[G]? = some (.cells (if listed.getD 4 false = true then #[.int .i64 1, .string (numS F), .string (denS F), .string { data := #[] }, .bool false, .int .i64 0, .int .i64 0, .int .i64 0, .slice none 0 0] else #[.int .i64 0, .string { data := #[] }, .string { data := #[] }, .string { data := #[] }, .bool false, .int .i64 0, .int .i64 0, .int .i64 0, .slice none 0 0]) 30 (0, 0)) := hF.get 3 _ rfl (.inr p3)
                subst eG
                rw [if_neg (bit_off hun)] at hGB
                have HGB := Lib.hid hGB
                clear hGB
                have p2 := hpre 2 (by kernel_rfl)
                have e2 : s2 = .agg #[.int .i64 1, .string (numS F), .string (denS F), .string { data := #[] }, .bool false, .int .i64 0, .int .i64 0, .int .i64 0, .slice none 0 0] := hF.get 2 _ rfl (.inr p2)
                subst e2
                obtain ⟨⟨y0, y1, y2, y3, y4, y5, y6, y7, y8⟩, g0, g1, g2, g3, g4, g5, g6, g7, g8⟩ := nine_at HGB.out
                refine step_of ⟨none, _, _, _, _, _⟩ rfl (fun K' hK => ?_)
                go_simp
                refine hK.out _ _ ⟨undef, hF.put hok hna hpre hun rfl undef rfl (.inr p3) rfl (set9_at HGB.out (.int .i64 1) (.string (numS F)) (.string (denS F)) (.string { data := #[] }) (.bool false) (.int .i64 0) (.int .i64 0) (.int .i64 0) (.slice none 0 0)) (fun k hk => set9_other _ _ (.int .i64 1) (.string (numS F)) (.string (denS F)) (.string { data := #[] }) (.bool false) (.int .i64 0) (.int .i64 0) (.int .i64 0) (.slice none 0 0) hk) (put9_below hGl _ (.int .i64 1) (.string (numS F)) (.string (denS F)) (.string { data := #[] }) (.bool false) (.int .i64 0) (.int .i64 0) (.int .i64 0) (.slice none 0 0)), ?fr⟩
                case fr => simp only [putO, layT_some, layT_none, layT_nil, List.setIfInBounds_toArray, List.set_cons_zero, List.set_cons_succ]
        case hd =>
          rintro listed vs WB hF hall
          obtain ⟨s0, s1, s2, s3, s4, hvs⟩ := exl_of 5 vs (fun l => vs = l) hF.len rfl
          subst hvs
          obtain ⟨b11, e3, _, _, k3⟩ : ∃ G, s3 = .pointer (some ⟨G, 0, none⟩) ∧ (∀ k, none = some k → G = k) ∧ _ ≤ G ∧ WB.heap[G]? = some (.cells (if listed.getD 4 false = true then #[.int .i64 1, .string (numS F), .string (denS F), .string { data := #[] }, .bool false, .int .i64 0, .int .i64 0, .int .i64 0, .slice none 0 0] else #[.int .i64 0, .string { data := #[] }, .string { data := #[] }, .string { data := #[] }, .bool false, .int .i64 0, .int .i64 0, .int .i64 0, .slice none 0 0]) 30 (0, 0)) := hF.get 3 _ rfl (.inr (hall 3 (by decide)))
          subst e3
          rw [if_pos (hall 4 (by decide))] at k3
          have H11 := Lib.hid k3
          clear k3
          have hq := below_none hF.low
          replace HE := Lib.hid (HE.out.below hq)
          replace HL := Lib.hid (HL.out.trans (hq.mono HL.out.size))
          replace H7 := Lib.hid (keep_block H7.out hq)
          replace H10 := Lib.hid (keep_block H10.out hq)
          replace HV := Lib.hid (HV.out.below hq)
          clear hq
          clear hF hall hok hna hla
          simp only [putO, layT_some, layT_none, layT_nil, List.setIfInBounds_toArray, List.set_cons_zero, List.set_cons_succ]
          go_wp2_with fail
          have hok : okB 6 (WkbKs13 m t c ln g cap B N K M D F W3 W5 Wk On P Z) = true := by kernel_rfl
          have hna := noAny_of (ks := (WkbKs13 m t c ln g cap B N K M D F W3 W5 Wk On P Z)) (by kernel_rfl)
          have hla := lasts_of hna
          refine wp_region_facts (row := none) (w := WB) 6 (WkbKs13 m t c ln g cap B N K M D F W3 W5 Wk On P Z) [some 63, some 64, some 65, some 66, some 12, none] (by kernel_rfl) (by kernel_rfl) rfl [undef, undef, undef, undef, undef, undef] ?h00 (Fs.start rfl rfl) ?hs ?hd
          case h00 => simp only [putO, layT_some, layT_none, layT_nil, List.setIfInBounds_toArray, List.set_cons_zero, List.set_cons_succ]
          case hs =>
            rintro listed vs Wr hF i hi hun hpre
            obtain ⟨s0, s1, s2, s3, s4, s5, hvs⟩ := exl_of 6 vs (fun l => vs = l) hF.len rfl
            subst hvs
            have hge := Nat.zero_le i
            simp only [putO, layT_some, layT_none, layT_nil, List.setIfInBounds_toArray, List.set_cons_zero, List.set_cons_succ]
            rcases Nat.lt_or_ge i 3 with hlt | hgt
            · replace hi := hlt
              clear hlt
              rcases Nat.lt_or_ge i 1 with hlt | hgt
              · replace hi := hlt
                clear hlt
                have he : i = 0 := Nat.le_antisymm (Nat.le_of_lt_succ hi) hge
                subst he
                have hcc := (nine_at (keep_block H10.out (below_none hF.low))).1
                have cH100 := hcc.1
                have cH101 := hcc.2.1
                have cH102 := hcc.2.2.1
                have cH103 := hcc.2.2.2.1
                have cH104 := hcc.2.2.2.2.1
                have cH105 := hcc.2.2.2.2.2.1
                have cH106 := hcc.2.2.2.2.2.2.1
                have cH107 := hcc.2.2.2.2.2.2.2.1
                have cH108 := hcc.2.2.2.2.2.2.2.2
                clear hcc
                refine step_of ⟨some 63, _, _, _, _, _⟩ rfl (fun K' hK => ?_)
                go_simp
                refine hK.out _ _ ⟨_, hF.pure hok hla hpre rfl (Below.refl _ _), ?fr⟩
                case fr => simp only [putO, layT_some, layT_none, layT_nil, List.setIfInBounds_toArray, List.set_cons_zero, List.set_cons_succ]
              · replace hge : 1 ≤ i := hgt
                clear hgt
                rcases Nat.lt_or_ge i 2 with hlt | hgt
                · replace hi := hlt
                  clear hlt
                  have he : i = 1 := Nat.le_antisymm (Nat.le_of_lt_succ hi) hge
                  subst he
                  refine step_of ⟨some 64, _, _, _, _, _⟩ rfl (fun K' hK => ?_)
                  go_simp
                  go_at_call 11
                  (with_reducible refine (Qt3.out _ (HE.out.below (below_none hF.low))).mono ?_)
                  rintro e Wq ⟨rfl, hq⟩
                  refine hK.out _ _ ⟨_, hF.pure hok hla hpre rfl hq, ?fr⟩
                  case fr => simp only [putO, layT_some, layT_none, layT_nil, List.setIfInBounds_toArray, List.set_cons_zero, List.set_cons_succ]
                · replace hge : 2 ≤ i := hgt
                  clear hgt
                  have he : i = 2 := Nat.le_antisymm (Nat.le_of_lt_succ hi) hge
                  subst he
                  have p0 := hpre 0 (by kernel_rfl)
                  have e0 : s0 = .agg #[.int .i64 1, .string (numS D), .string (denS D), .string { data := #[] }, .bool false, .int .i64 0, .int .i64 0, .int .i64 0, .slice none 0 0] := hF.get 0 _ rfl (.inr p0)
                  subst e0
                  have p1 := hpre 1 (by kernel_rfl)
                  have e1 : s1 = .agg #[.int .i64 1, .string (numS W3), .string (denS W3), .string { data := #[] }, .bool false, .int .i64 0, .int .i64 0, .int .i64 0, .slice none 0 0] := hF.get 1 _ rfl (.inr p1)
                  subst e1
                  refine step_of ⟨some 65, _, _, _, _, _⟩ rfl (fun K' hK => ?_)
                  go_simp
                  refine hK.out _ _ ⟨_, hF.row hok hla hpre rfl, ?fr⟩
                  case fr => simp only [putO, layT_some, layT_none, layT_nil, List.setIfInBounds_toArray, List.set_cons_zero, List.set_cons_succ]
            · replace hge : 3 ≤ i := hgt
              clear hgt
              rcases Nat.lt_or_ge i 4 with hlt | hgt
              · replace hi := hlt
                clear hlt
                have he : i = 3 := Nat.le_antisymm (Nat.le_of_lt_succ hi) hge
                subst he
                have p2 := hpre 2 (by kernel_rfl)
                obtain ⟨G, eG, _, hGB⟩ : ∃ G, s2 = .slice (some ⟨G, 0, none⟩) 2 2 ∧ _ ≤ G ∧ Wr.heap[G]? = some (.cells #[.int .i64 1, .string (numS D), .string (denS D), .string { data := #[] }, .bool false, .int .i64 0, .int .i64 0, .int .i64 0, .slice none 0 0, .int .i64 1, .string (numS W3), .string (denS W3), .string { data := #[] }, .bool false, .int .i64 0, .int .i64 0, .int .i64 0, .slice none 0 0] 30 (0, 0)) := hF.get 2 _ rfl (.inr p2)
                subst eG
                refine step_of ⟨some 66, _, _, _, _, _⟩ rfl (fun K' hK => ?_)
                go_simp
                go_at_call 20
                (with_reducible refine (Qr9.out _ _ hGB (HE.out.below (below_none hF.low))).mono ?_)
                rintro e Wq ⟨rfl, hq⟩
                refine hK.out _ _ ⟨_, hF.pure hok hla hpre rfl hq, ?fr⟩
                case fr => simp only [putO, layT_some, layT_none, layT_nil, List.setIfInBounds_toArray, List.set_cons_zero, List.set_cons_succ]
              · replace hge : 4 ≤ i := hgt
                clear hgt
                rcases Nat.lt_or_ge i 5 with hlt | hgt
                · replace hi := hlt
                  clear hlt
                  have he : i = 4 := Nat.le_antisymm (Nat.le_of_lt_succ hi) hge
                  subst he
                  refine step_of ⟨some 12, _, _, _, _, _⟩ rfl (fun K' hK => ?_)
                  go_simp
                  refine hK.out _ _ ⟨_, hF.box hok hla hpre hun rfl, ?fr⟩
                  case fr => simp only [putO, layT_some, layT_none, layT_nil, List.setIfInBounds_toArray, List.set_cons_zero, List.set_cons_succ]
                · replace hge : 5 ≤ i := hgt
                  clear hgt
                  have he : i = 5 := Nat.le_antisymm (Nat.le_of_lt_succ hi) hge
                  subst he
                  have p4 := hpre 4 (by kernel_rfl)
                  obtain ⟨G, eG, _, hGl, hGB⟩ : ∃ G, s4 = .pointer (some ⟨G, 0, none⟩) ∧ (∀ k, none = some k → G = k) ∧ WB.heap.size ≤ G ∧ Wr.heap[G]? = some (.cells (if listed.getD 5 false = true then #[.int .i64 1, .string (numS Wk), .string (denS Wk), .string { data := #[] }, .bool false, .int .i64 0, .int .i64 0, .int .i64 0, .slice none 0 0] else #[.int .i64 0, .string { data := #[] }, .string { data := #[] }, .string { data := #[] }, .bool false, .int .i64 0, .int .i64 0, .int .i64 0, .slice none 0 0]) 30 (0, 0)) := hF.get 4 _ rfl (.inr p4)
                  subst eG
                  rw [if_neg (bit_off hun)] at hGB
                  have HGB := Lib.hid hGB
                  clear hGB
                  have p3 := hpre 3 (by kernel_rfl)
                  have e3 : s3 = .agg #[.int .i64 1, .string (numS Wk), .string (denS Wk), .string { data := #[] }, .bool false, .int .i64 0, .int .i64 0, .int .i64 0, .slice none 0 0] := hF.get 3 _ rfl (.inr p3)
                  subst e3
                  obtain ⟨⟨y0, y1, y2, y3, y4, y5, y6, y7, y8⟩, g0, g1, g2, g3, g4, g5, g6, g7, g8⟩ := nine_at HGB.out
                  refine step_of ⟨none, _, _, _, _, _⟩ rfl (fun K' hK => ?_)
                  go_simp
                  refine hK.out _ _ ⟨undef, hF.put hok hna hpre hun rfl undef rfl (.inr p4) rfl (set9_at HGB.out (.int .i64 1) (.string (numS Wk)) (.string (denS Wk)) (.string { data := #[] }) (.bool false) (.int .i64 0) (.int .i64 0) (.int .i64 0) (.slice none 0 0)) (fun k hk => set9_other _ _ (.int .i64 1) (.string (numS Wk)) (.string (denS Wk)) (.string { data := #[] }) (.bool false) (.int .i64 0) (.int .i64 0) (.int .i64 0) (.slice none 0 0) hk) (put9_below hGl _ (.int .i64 1) (.string (numS Wk)) (.string (denS Wk)) (.string { data := #[] }) (.bool false) (.int .i64 0) (.int .i64 0) (.int .i64 0) (.slice none 0 0)), ?fr⟩
                  case fr => simp only [putO, layT_some, layT_none, layT_nil, List.setIfInBounds_toArray, List.set_cons_zero, List.set_cons_succ]
          case hd =>
            rintro listed vs WC hF hall
            obtain ⟨s0, s1, s2, s3, s4, s5, hvs⟩ := exl_of 6 vs (fun l => vs = l) hF.len rfl
            subst hvs
            obtain ⟨b12, e4, _, _, k4⟩ : ∃ G, s4 = .pointer (some ⟨G, 0, none⟩) ∧ (∀ k, none = some k → G = k) ∧ _ ≤ G ∧ WC.heap[G]? = some (.cells (if listed.getD 5 false = true then #[.int .i64 1, .string (numS Wk), .string (denS Wk), .string { data := #[] }, .bool false, .int .i64 0, .int .i64 0, .int .i64 0, .slice none 0 0] else #[.int .i64 0, .string { data := #[] }, .string { data := #[] }, .string { data := #[] }, .bool false, .int .i64 0, .int .i64 0, .int .i64 0, .slice none 0 0]) 30 (0, 0)) := hF.get 4 _ rfl (.inr (hall 4 (by decide)))
            subst e4
            rw [if_pos (hall 5 (by decide))] at k4
            have H12 := Lib.hid k4
            clear k4
            have hq := below_none hF.low
            replace HE := Lib.hid (HE.out.below hq)
            replace HL := Lib.hid (HL.out.trans (hq.mono HL.out.size))
            replace H7 := Lib.hid (keep_block H7.out hq)
            replace H10 := Lib.hid (keep_block H10.out hq)
            replace H11 := Lib.hid (keep_block H11.out hq)
            replace HV := Lib.hid (HV.out.below hq)
            clear hq
            clear hF hall hok hna hla
            simp only [putO, layT_some, layT_none, layT_nil, List.setIfInBounds_toArray, List.set_cons_zero, List.set_cons_succ]
            go_wp2_with fail
            have hok : okB 8 (WkbKs14 m t c ln g cap B N K M D F W3 W5 Wk On P Z) = true := by kernel_rfl
            have hna := noAny_of (ks := (WkbKs14 m t c ln g cap B N K M D F W3 W5 Wk On P Z)) (by kernel_rfl)
            have hla := lasts_of hna
            refine wp_region_facts (row := none) (w := WC) 8 (WkbKs14 m t c ln g cap B N K M D F W3 W5 Wk On P Z) [some 68, some 69, some 70, some 67, some 71, some 72, some 13, some 14] (by kernel_rfl) (by kernel_rfl) rfl [undef, undef, undef, undef, undef, undef, undef, undef] ?h00 (Fs.start rfl rfl) ?hs ?hd
            case h00 => simp only [putO, layT_some, layT_none, layT_nil, List.setIfInBounds_toArray, List.set_cons_zero, List.set_cons_succ]
            case hs =>
              rintro listed vs Wr hF i hi hun hpre
              obtain ⟨s0, s1, s2, s3, s4, s5, s6, s7, hvs⟩ := exl_of 8 vs (fun l => vs = l) hF.len rfl
              subst hvs
              have hge := Nat.zero_le i
              simp only [putO, layT_some, layT_none, layT_nil, List.setIfInBounds_toArray, List.set_cons_zero, List.set_cons_succ]
              rcases Nat.lt_or_ge i 4 with hlt | hgt
              · replace hi := hlt
                clear hlt
                rcases Nat.lt_or_ge i 2 with hlt | hgt
                · replace hi := hlt
                  clear hlt
                  rcases Nat.lt_or_ge i 1 with hlt | hgt
                  · replace hi := hlt
                    clear hlt
                    have he : i = 0 := Nat.le_antisymm (Nat.le_of_lt_succ hi) hge
                    subst he
                    have hcc := (nine_at (keep_block H12.out (below_none hF.low))).1
                    have cH120 := hcc.1
                    have cH121 := hcc.2.1
                    have cH122 := hcc.2.2.1
                    have cH123 := hcc.2.2.2.1
                    have cH124 := hcc.2.2.2.2.1
                    have cH125 := hcc.2.2.2.2.2.1
                    have cH126 := hcc.2.2.2.2.2.2.1
                    have cH127 := hcc.2.2.2.2.2.2.2.1
                    have cH128 := hcc.2.2.2.2.2.2.2.2
                    clear hcc
                    refine step_of ⟨some 68, _, _, _, _, _⟩ rfl (fun K' hK => ?_)
                    go_simp
                    refine hK.out _ _ ⟨_, hF.pure hok hla hpre rfl (Below.refl _ _), ?fr⟩
                    case fr => simp only [putO, layT_some, layT_none, layT_nil, List.setIfInBounds_toArray, List.set_cons_zero, List.set_cons_succ]
                  · replace hge : 1 ≤ i := hgt
                    clear hgt
                    have he : i = 1 := Nat.le_antisymm (Nat.le_of_lt_succ hi) hge
                    subst he
                    refine step_of ⟨some 69, _, _, _, _, _⟩ rfl (fun K' hK => ?_)
                    go_simp
                    go_at_call 11
                    (with_reducible refine (Qt4.out _ (HE.out.below (below_none hF.low))).mono ?_)
                    rintro e Wq ⟨rfl, hq⟩
                    refine hK.out _ _ ⟨_, hF.pure hok hla hpre rfl hq, ?fr⟩
                    case fr => simp only [putO, layT_some, layT_none, layT_nil, List.setIfInBounds_toArray, List.set_cons_zero, List.set_cons_succ]
                · replace hge : 2 ≤ i := hgt
                  clear hgt
                  rcases Nat.lt_or_ge i 3 with hlt | hgt
                  · replace hi := hlt
                    clear hlt
                    have he : i = 2 := Nat.le_antisymm (Nat.le_of_lt_succ hi) hge
                    subst he
                    have p0 := hpre 0 (by kernel_rfl)
                    have e0 : s0 = .agg #[.int .i64 1, .string (numS Wk), .string (denS Wk), .string { data := #[] }, .bool false, .int .i64 0, .int .i64 0, .int .i64 0, .slice none 0 0] := hF.get 0 _ rfl (.inr p0)
                    subst e0
                    have p1 := hpre 1 (by kernel_rfl)
                    have e1 : s1 = .agg #[.int .i64 1, .string (numS W5), .string (denS W5), .string { data := #[] }, .bool false, .int .i64 0, .int .i64 0, .int .i64 0, .slice none 0 0] := hF.get 1 _ rfl (.inr p1)
                    subst e1
                    refine step_of ⟨some 70, _, _, _, _, _⟩ rfl (fun K' hK => ?_)
                    go_simp
                    go_at_call 17
                    (with_reducible refine (QtC.out _ (HE.out.below (below_none hF.low))).mono ?_)
                    rintro e Wq ⟨rfl, hq⟩
                    refine hK.out _ _ ⟨_, hF.pure hok hla hpre rfl hq, ?fr⟩
                    case fr => simp only [putO, layT_some, layT_none, layT_nil, List.setIfInBounds_toArray, List.set_cons_zero, List.set_cons_succ]
                  · replace hge : 3 ≤ i := hgt
                    clear hgt
                    have he : i = 3 := Nat.le_antisymm (Nat.le_of_lt_succ hi) hge
                    subst he
                    have p2 := hpre 2 (by kernel_rfl)
                    have e2 : s2 = .tuple #[.int .i64 c, .int .i64 0] := hF.get 2 _ rfl (.inr p2)
                    subst e2
                    refine step_of ⟨some 67, _, _, _, _, _⟩ rfl (fun K' hK => ?_)
                    go_simp
                    refine hK.out _ _ ⟨_, hF.pure hok hla hpre rfl (Below.refl _ _), ?fr⟩
                    case fr => simp only [putO, layT_some, layT_none, layT_nil, List.setIfInBounds_toArray, List.set_cons_zero, List.set_cons_succ]
              · replace hge : 4 ≤ i := hgt
                clear hgt
                rcases Nat.lt_or_ge i 6 with hlt | hgt
                · replace hi := hlt
                  clear hlt
                  rcases Nat.lt_or_ge i 5 with hlt | hgt
                  · replace hi := hlt
                    clear hlt
                    have he : i = 4 := Nat.le_antisymm (Nat.le_of_lt_succ hi) hge
                    subst he
                    have p3 := hpre 3 (by kernel_rfl)
                    have e3 : s3 = .tuple #[.int .i64 c, .int .i64 0] := hF.get 3 _ rfl (.inr p3)
                    subst e3
                    refine step_of ⟨some 71, _, _, _, _, _⟩ rfl (fun K' hK => ?_)
                    go_simp
                    refine hK.out _ _ ⟨_, hF.pure hok hla hpre rfl (Below.refl _ _), ?fr⟩
                    case fr => simp only [putO, layT_some, layT_none, layT_nil, List.setIfInBounds_toArray, List.set_cons_zero, List.set_cons_succ]
                  · replace hge : 5 ≤ i := hgt
                    clear hgt
                    have he : i = 5 := Nat.le_antisymm (Nat.le_of_lt_succ hi) hge
                    subst he
                    have p3 := hpre 3 (by kernel_rfl)
                    have e3 : s3 = .tuple #[.int .i64 c, .int .i64 0] := hF.get 3 _ rfl (.inr p3)
                    subst e3
                    refine step_of ⟨some 72, _, _, _, _, _⟩ rfl (fun K' hK => ?_)
                    go_simp
                    refine hK.out _ _ ⟨_, hF.pure hok hla hpre rfl (Below.refl _ _), ?fr⟩
                    case fr => simp only [putO, layT_some, layT_none, layT_nil, List.setIfInBounds_toArray, List.set_cons_zero, List.set_cons_succ]
                · replace hge : 6 ≤ i := hgt
                  clear hgt
                  rcases Nat.lt_or_ge i 7 with hlt | hgt
                  · replace hi := hlt
                    clear hlt
                    have he : i = 6 := Nat.le_antisymm (Nat.le_of_lt_succ hi) hge
                    subst he
                    have p4 := hpre 4 (by kernel_rfl)
                    have e4 : s4 = .int .i64 c := hF.get 4 _ rfl (.inr p4)
                    subst e4
                    refine step_of ⟨some 13, _, _, _, _, _⟩ rfl (fun K' hK => ?_)
                    go_simp
                    refine hK.out _ _ ⟨_, hF.pure hok hla hpre rfl (Below.refl _ _), ?fr⟩
                    case fr => simp only [putO, layT_some, layT_none, layT_nil, List.setIfInBounds_toArray, List.set_cons_zero, List.set_cons_succ]
                  · replace hge : 7 ≤ i := hgt
                    clear hgt
                    have he : i = 7 := Nat.le_antisymm (Nat.le_of_lt_succ hi) hge
                    subst he
                    have p5 := hpre 5 (by kernel_rfl)
                    have e5 : s5 = .int .i64 0 := hF.get 5 _ rfl (.inr p5)
                    subst e5
                    refine step_of ⟨some 14, _, _, _, _, _⟩ rfl (fun K' hK => ?_)
                    go_simp
                    refine hK.out _ _ ⟨_, hF.pure hok hla hpre rfl (Below.refl _ _), ?fr⟩
                    case fr => simp only [putO, layT_some, layT_none, layT_nil, List.setIfInBounds_toArray, List.set_cons_zero, List.set_cons_succ]
            case hd =>
              rintro listed vs WD hF hall
              obtain ⟨s0, s1, s2, s3, s4, s5, s6, s7, hvs⟩ := exl_of 8 vs (fun l => vs = l) hF.len rfl
              subst hvs
              have e6 : s6 = .int .i64 c := hF.get 6 _ rfl (.inr (hall 6 (by decide)))
              subst e6
              have hq := below_none hF.low
              replace HE := Lib.hid (HE.out.below hq)
              replace HL := Lib.hid (HL.out.trans (hq.mono HL.out.size))
              replace H7 := Lib.hid (keep_block H7.out hq)
              replace H10 := Lib.hid (keep_block H10.out hq)
              replace H11 := Lib.hid (keep_block H11.out hq)
              replace H12 := Lib.hid (keep_block H12.out hq)
              replace HV := Lib.hid (HV.out.below hq)
              clear hq
              clear hF hall hok hna hla
              simp only [putO, layT_some, layT_none, layT_nil, List.setIfInBounds_toArray, List.set_cons_zero, List.set_cons_succ]
              go_wp2_with fail
              have hok : okB 49 (WkbKs15 m t c ln g cap B N K M D F W3 W5 Wk On P Z b11) = true := by kernel_rfl
              have hna := noAny_of (ks := (WkbKs15 m t c ln g cap B N K M D F W3 W5 Wk On P Z b11)) (by kernel_rfl)
              have hla := lasts_of hna
              refine wp_region_facts (row := none) (w := WD) 49 (WkbKs15 m t c ln g cap B N K M D F W3 W5 Wk On P Z b11) [some 73, some 74, some 75, some 76, some 77, some 78, some 79, some 80, some 81, some 82, some 83, some 84, some 85, some 86, some 87, some 88, some 89, some 90, some 91, some 92, some 93, some 94, some 95, some 96, some 97, some 98, some 99, some 100, some 101, some 102, some 103, some 104, some 105, some 106, some 107, some 108, some 109, some 110, some 111, some 112, some 113, some 114, some 115, some 116, some 117, some 118, some 119, some 120, some 6] (by kernel_rfl) (by kernel_rfl) rfl [undef, undef, undef, undef, undef, undef, undef, undef, undef, undef, undef, undef, undef, undef, undef, undef, undef, undef, undef, undef, undef, undef, undef, undef, undef, undef, undef, undef, undef, undef, undef, undef, undef, undef, undef, undef, undef, undef, undef, undef, undef, undef, undef, undef, undef, undef, undef, undef, (.bool false)] ?h00 (Fs.start rfl rfl) ?hs ?hd
              case h00 => simp only [putO, layT_some, layT_none, layT_nil, List.setIfInBounds_toArray, List.set_cons_zero, List.set_cons_succ]
              case hs =>
                rintro listed vs Wr hF i hi hun hpre
                obtain ⟨s0, s1, s2, s3, s4, s5, s6, s7, s8, s9, s10, s11, s12, s13, s14, s15, s16, s17, s18, s19, s20, s21, s22, s23, s24, s25, s26, s27, s28, s29, s30, s31, s32, s33, s34, s35, s36, s37, s38, s39, s40, s41, s42, s43, s44, s45, s46, s47, s48, hvs⟩ := exl_of 49 vs (fun l => vs = l) hF.len rfl
                subst hvs
                have hge := Nat.zero_le i
                simp only [putO, layT_some, layT_none, layT_nil, List.setIfInBounds_toArray, List.set_cons_zero, List.set_cons_succ]
                rcases Nat.lt_or_ge i 24 with hlt | hgt
                · replace hi := hlt
                  clear hlt
                  rcases Nat.lt_or_ge i 12 with hlt | hgt
                  · replace hi := hlt
                    clear hlt
                    rcases Nat.lt_or_ge i 6 with hlt | hgt
                    · replace hi := hlt
                      clear hlt
                      rcases Nat.lt_or_ge i 3 with hlt | hgt
                      · replace hi := hlt
                        clear hlt
                        rcases Nat.lt_or_ge i 1 with hlt | hgt
                        · replace hi := hlt
                          clear hlt
                          have he : i = 0 := Nat.le_antisymm (Nat.le_of_lt_succ hi) hge
                          subst he
                          refine step_of ⟨some 73, _, _, _, _, _⟩ rfl (fun K' hK => ?_)
                          go_simp
                          refine hK.out _ _ ⟨_, hF.pure hok hla hpre rfl (Below.refl _ _), ?fr⟩
                          case fr => simp only [putO, layT_some, layT_none, layT_nil, List.setIfInBounds_toArray, List.set_cons_zero, List.set_cons_succ]
                        · replace hge : 1 ≤ i := hgt
                          clear hgt
                          rcases Nat.lt_or_ge i 2 with hlt | hgt
                          · replace hi := hlt
                            clear hlt
                            have he : i = 1 := Nat.le_antisymm (Nat.le_of_lt_succ hi) hge
                            subst he
                            have p0 := hpre 0 (by kernel_rfl)
                            have e0 : s0 = .int .i64 (10000 + m) := hF.get 0 _ rfl (.inr p0)
                            subst e0
                            refine step_of ⟨some 74, _, _, _, _, _⟩ rfl (fun K' hK => ?_)
                            go_simp
                            refine hK.out _ _ ⟨_, hF.pure hok hla hpre rfl (Below.refl _ _), ?fr⟩
                            case fr => simp only [putO, layT_some, layT_none, layT_nil, List.setIfInBounds_toArray, List.set_cons_zero, List.set_cons_succ]
                          · replace hge : 2 ≤ i := hgt
                            clear hgt
                            have he : i = 2 := Nat.le_antisymm (Nat.le_of_lt_succ hi) hge
                            subst he
                            have p1 := hpre 1 (by kernel_rfl)
                            have e1 : s1 = .int .i64 (10000 + m + 1) := hF.get 1 _ rfl (.inr p1)
                            subst e1
                            refine step_of ⟨some 75, _, _, _, _, _⟩ rfl (fun K' hK => ?_)
                            go_simp
                            go_at_call 11
                            (with_reducible refine (Qt5.out _ (HE.out.below (below_none hF.low))).mono ?_)
                            rintro e Wq ⟨rfl, hq⟩
                            refine hK.out _ _ ⟨_, hF.pure hok hla hpre rfl hq, ?fr⟩
                            case fr => simp only [putO, layT_some, layT_none, layT_nil, List.setIfInBounds_toArray, List.set_cons_zero, List.set_cons_succ]
                      · replace hge : 3 ≤ i := hgt
                        clear hgt
                        rcases Nat.lt_or_ge i 4 with hlt | hgt
                        · replace hi := hlt
                          clear hlt
                          have he : i = 3 := Nat.le_antisymm (Nat.le_of_lt_succ hi) hge
                          subst he
                          have hcc := (nine_at (keep_block H10.out (below_none hF.low))).1
                          have cH100 := hcc.1
                          have cH101 := hcc.2.1
                          have cH102 := hcc.2.2.1
                          have cH103 := hcc.2.2.2.1
                          have cH104 := hcc.2.2.2.2.1
                          have cH105 := hcc.2.2.2.2.2.1
                          have cH106 := hcc.2.2.2.2.2.2.1
                          have cH107 := hcc.2.2.2.2.2.2.2.1
                          have cH108 := hcc.2.2.2.2.2.2.2.2
                          clear hcc
                          refine step_of ⟨some 76, _, _, _, _, _⟩ rfl (fun K' hK => ?_)
                          go_simp
                          refine hK.out _ _ ⟨_, hF.pure hok hla hpre rfl (Below.refl _ _), ?fr⟩
                          case fr => simp only [putO, layT_some, layT_none, layT_nil, List.setIfInBounds_toArray, List.set_cons_zero, List.set_cons_succ]
                        · replace hge : 4 ≤ i := hgt
                          clear hgt
                          rcases Nat.lt_or_ge i 5 with hlt | hgt
                          · replace hi := hlt
                            clear hlt
                            have he : i = 4 := Nat.le_antisymm (Nat.le_of_lt_succ hi) hge
                            subst he
                            have hcc := (nine_at (keep_block H7.out (below_none hF.low))).1
                            have cH70 := hcc.1
                            have cH71 := hcc.2.1
                            have cH72 := hcc.2.2.1
                            have cH73 := hcc.2.2.2.1
                            have cH74 := hcc.2.2.2.2.1
                            have cH75 := hcc.2.2.2.2.2.1
                            have cH76 := hcc.2.2.2.2.2.2.1
                            have cH77 := hcc.2.2.2.2.2.2.2.1
                            have cH78 := hcc.2.2.2.2.2.2.2.2
                            clear hcc
                            refine step_of ⟨some 77, _, _, _, _, _⟩ rfl (fun K' hK => ?_)
                            go_simp
                            refine hK.out _ _ ⟨_, hF.pure hok hla hpre rfl (Below.refl _ _), ?fr⟩
                            case fr => simp only [putO, layT_some, layT_none, layT_nil, List.setIfInBounds_toArray, List.set_cons_zero, List.set_cons_succ]
                          · replace hge : 5 ≤ i := hgt
                            clear hgt
                            have he : i = 5 := Nat.le_antisymm (Nat.le_of_lt_succ hi) hge
                            subst he
                            have p2 := hpre 2 (by kernel_rfl)
                            have e2 : s2 = .agg #[.int .i64 1, .string (numS P), .string (denS P), .string { data := #[] }, .bool false, .int .i64 0, .int .i64 0, .int .i64 0, .slice none 0 0] := hF.get 2 _ rfl (.inr p2)
                            subst e2
                            have p3 := hpre 3 (by kernel_rfl)
                            have e3 : s3 = .agg #[.int .i64 1, .string (numS D), .string (denS D), .string { data := #[] }, .bool false, .int .i64 0, .int .i64 0, .int .i64 0, .slice none 0 0] := hF.get 3 _ rfl (.inr p3)
                            subst e3
                            have p4 := hpre 4 (by kernel_rfl)
                            have e4 : s4 = .agg #[.int .i64 5, .string { data := #[] }, .string { data := #[] }, .string { data := #[] }, .bool false, .int .i64 0, .int .i64 1, .int .i64 (ln : Int), .slice (some ⟨g, 0, none⟩) ln cap] := hF.get 4 _ rfl (.inr p4)
                            subst e4
                            refine step_of ⟨some 78, _, _, _, _, _⟩ rfl (fun K' hK => ?_)
                            go_simp
                            refine hK.out _ _ ⟨_, hF.row hok hla hpre rfl, ?fr⟩
                            case fr => simp only [putO, layT_some, layT_none, layT_nil, List.setIfInBounds_toArray, List.set_cons_zero, List.set_cons_succ]
                    · replace hge : 6 ≤ i := hgt
                      clear hgt
                      rcases Nat.lt_or_ge i 9 with hlt | hgt
                      · replace hi := hlt
                        clear hlt
                        rcases Nat.lt_or_ge i 7 with hlt | hgt
                        · replace hi := hlt
                          clear hlt
                          have he : i = 6 := Nat.le_antisymm (Nat.le_of_lt_succ hi) hge
                          subst he
                          have p5 := hpre 5 (by kernel_rfl)
                          obtain ⟨G, eG, _, hGB⟩ : ∃ G, s5 = .slice (some ⟨G, 0, none⟩) 3 3 ∧ _ ≤ G ∧ Wr.heap[G]? = some (.cells #[.int .i64 1, .string (numS P), .string (denS P), .string { data := #[] }, .bool false, .int .i64 0, .int .i64 0, .int .i64 0, .slice none 0 0, .int .i64 1, .string (numS D), .string (denS D), .string { data := #[] }, .bool false, .int .i64 0, .int .i64 0, .int .i64 0, .slice none 0 0, .int .i64 5, .string { data := #[] }, .string { data := #[] }, .string { data := #[] }, .bool false, .int .i64 0, .int .i64 1, .int .i64 (ln : Int), .slice (some ⟨g, 0, none⟩) ln cap] 30 (0, 0)) := hF.get 5 _ rfl (.inr p5)
                          subst eG
                          refine step_of ⟨some 79, _, _, _, _, _⟩ rfl (fun K' hK => ?_)
                          go_simp
                          go_at_call 20
                          (with_reducible refine (Qr1.out _ _ _ _ hGB (HV.out.below (below_none hF.low)) (HE.out.below (below_none hF.low))).mono ?_)
                          rintro e Wq ⟨rfl, hq⟩
                          refine hK.out _ _ ⟨_, hF.pure hok hla hpre rfl hq, ?fr⟩
                          case fr => simp only [putO, layT_some, layT_none, layT_nil, List.setIfInBounds_toArray, List.set_cons_zero, List.set_cons_succ]
                        · replace hge : 7 ≤ i := hgt
                          clear hgt
                          rcases Nat.lt_or_ge i 8 with hlt | hgt
                          · replace hi := hlt
                            clear hlt
                            have he : i = 7 := Nat.le_antisymm (Nat.le_of_lt_succ hi) hge
                            subst he
                            refine step_of ⟨some 80, _, _, _, _, _⟩ rfl (fun K' hK => ?_)
                            go_simp
                            refine hK.out _ _ ⟨_, hF.pure hok hla hpre rfl (Below.refl _ _), ?fr⟩
                            case fr => simp only [putO, layT_some, layT_none, layT_nil, List.setIfInBounds_toArray, List.set_cons_zero, List.set_cons_succ]
                          · replace hge : 8 ≤ i := hgt
                            clear hgt
                            have he : i = 8 := Nat.le_antisymm (Nat.le_of_lt_succ hi) hge
                            subst he
                            have p7 := hpre 7 (by kernel_rfl)
                            have e7 : s7 = .int .i64 (1 + t) := hF.get 7 _ rfl (.inr p7)
                            subst e7
                            refine step_of ⟨some 81, _, _, _, _, _⟩ rfl (fun K' hK => ?_)
                            go_simp
                            go_at_call 11
                            (with_reducible refine (Qt1.out _ (HE.out.below (below_none hF.low))).mono ?_)
                            rintro e Wq ⟨rfl, hq⟩
                            refine hK.out _ _ ⟨_, hF.pure hok hla hpre rfl hq, ?fr⟩
                            case fr => simp only [putO, layT_some, layT_none, layT_nil, List.setIfInBounds_toArray, List.set_cons_zero, List.set_cons_succ]
                      · replace hge : 9 ≤ i := hgt
                        clear hgt
                        rcases Nat.lt_or_ge i 10 with hlt | hgt
                        · replace hi := hlt
                          clear hlt
                          have he : i = 9 := Nat.le_antisymm (Nat.le_of_lt_succ hi) hge
                          subst he
                          have p6 := hpre 6 (by kernel_rfl)
                          have e6 : s6 = .agg #[.int .i64 1, .string (numS K), .string (denS K), .string { data := #[] }, .bool false, .int .i64 0, .int .i64 0, .int .i64 0, .slice none 0 0] := hF.get 6 _ rfl (.inr p6)
                          subst e6
                          have p8 := hpre 8 (by kernel_rfl)
                          have e8 : s8 = .agg #[.int .i64 1, .string (numS K), .string (denS K), .string { data := #[] }, .bool false, .int .i64 0, .int .i64 0, .int .i64 0, .slice none 0 0] := hF.get 8 _ rfl (.inr p8)
                          subst e8
                          refine step_of ⟨some 82, _, _, _, _, _⟩ rfl (fun K' hK => ?_)
                          go_simp
                          go_at_call 14
                          (with_reducible refine (RS.out K _).mono ?_)
                          rintro e Wq ⟨rfl, hq⟩
                          refine hK.out _ _ ⟨_, hF.pure hok hla hpre rfl hq, ?fr⟩
                          case fr => simp only [putO, layT_some, layT_none, layT_nil, List.setIfInBounds_toArray, List.set_cons_zero, List.set_cons_succ]
                        · replace hge : 10 ≤ i := hgt
                          clear hgt
                          rcases Nat.lt_or_ge i 11 with hlt | hgt
                          · replace hi := hlt
                            clear hlt
                            have he : i = 10 := Nat.le_antisymm (Nat.le_of_lt_succ hi) hge
                            subst he
                            have p9 := hpre 9 (by kernel_rfl)
                            have e9 : s9 = .bool true := hF.get 9 _ rfl (.inr p9)
                            subst e9
                            refine step_of ⟨some 83, _, _, _, _, _⟩ rfl (fun K' hK => ?_)
                            go_simp
                            refine hK.out _ _ ⟨_, hF.pure hok hla hpre rfl (Below.refl _ _), ?fr⟩
                            case fr => simp only [putO, layT_some, layT_none, layT_nil, List.setIfInBounds_toArray, List.set_cons_zero, List.set_cons_succ]
                          · replace hge : 11 ≤ i := hgt
                            clear hgt
                            have he : i = 11 := Nat.le_antisymm (Nat.le_of_lt_succ hi) hge
                            subst he
                            have p10 := hpre 10 (by kernel_rfl)
                            have e10 : s10 = .bool true := hF.get 10 _ rfl (.inr p10)
                            subst e10
                            have hcc := (nine_at (keep_block H10.out (below_none hF.low))).1
                            have cH100 := hcc.1
                            have cH101 := hcc.2.1
                            have cH102 := hcc.2.2.1
                            have cH103 := hcc.2.2.2.1
                            have cH104 := hcc.2.2.2.2.1
                            have cH105 := hcc.2.2.2.2.2.1
                            have cH106 := hcc.2.2.2.2.2.2.1
                            have cH107 := hcc.2.2.2.2.2.2.2.1
                            have cH108 := hcc.2.2.2.2.2.2.2.2
                            clear hcc
                            refine step_of ⟨some 84, _, _, _, _, _⟩ rfl (fun K' hK => ?_)
                            rw [if_pos (by rfl)]
                            go_simp
                            refine hK.out _ _ ⟨_, hF.pure hok hla hpre rfl (Below.refl _ _), ?fr⟩
                            case fr => simp only [putO, layT_some, layT_none, layT_nil, List.setIfInBounds_toArray, List.set_cons_zero, List.set_cons_succ]
                  · replace hge : 12 ≤ i := hgt
                    clear hgt
                    rcases Nat.lt_or_ge i 18 with hlt | hgt
                    · replace hi := hlt
                      clear hlt
                      rcases Nat.lt_or_ge i 15 with hlt | hgt
                      · replace hi := hlt
                        clear hlt
                        rcases Nat.lt_or_ge i 13 with hlt | hgt
                        · replace hi := hlt
                          clear hlt
                          have he : i = 12 := Nat.le_antisymm (Nat.le_of_lt_succ hi) hge
                          subst he
                          have p10 := hpre 10 (by kernel_rfl)
                          have e10 : s10 = .bool true := hF.get 10 _ rfl (.inr p10)
                          subst e10
                          have hcc := (nine_at (keep_block H10.out (below_none hF.low))).1
                          have cH100 := hcc.1
                          have cH101 := hcc.2.1
                          have cH102 := hcc.2.2.1
                          have cH103 := hcc.2.2.2.1
                          have cH104 := hcc.2.2.2.2.1
                          have cH105 := hcc.2.2.2.2.2.1
                          have cH106 := hcc.2.2.2.2.2.2.1
                          have cH107 := hcc.2.2.2.2.2.2.2.1
                          have cH108 := hcc.2.2.2.2.2.2.2.2
                          clear hcc
                          refine step_of ⟨some 85, _, _, _, _, _⟩ rfl (fun K' hK => ?_)
                          rw [if_pos (by rfl)]
                          go_simp
                          refine hK.out _ _ ⟨_, hF.pure hok hla hpre rfl (Below.refl _ _), ?fr⟩
                          case fr => simp only [putO, layT_some, layT_none, layT_nil, List.setIfInBounds_toArray, List.set_cons_zero, List.set_cons_succ]
                        · replace hge : 13 ≤ i := hgt
                          clear hgt
                          rcases Nat.lt_or_ge i 14 with hlt | hgt
                          · replace hi := hlt
                            clear hlt
                            have he : i = 13 := Nat.le_antisymm (Nat.le_of_lt_succ hi) hge
                            subst he
                            have p10 := hpre 10 (by kernel_rfl)
                            have e10 : s10 = .bool true := hF.get 10 _ rfl (.inr p10)
                            subst e10
                            have hcc := (nine_at (keep_block H7.out (below_none hF.low))).1
                            have cH70 := hcc.1
                            have cH71 := hcc.2.1
                            have cH72 := hcc.2.2.1
                            have cH73 := hcc.2.2.2.1
                            have cH74 := hcc.2.2.2.2.1
                            have cH75 := hcc.2.2.2.2.2.1
                            have cH76 := hcc.2.2.2.2.2.2.1
                            have cH77 := hcc.2.2.2.2.2.2.2.1
                            have cH78 := hcc.2.2.2.2.2.2.2.2
                            clear hcc
                            refine step_of ⟨some 86, _, _, _, _, _⟩ rfl (fun K' hK => ?_)
                            rw [if_pos (by rfl)]
                            go_simp
                            refine hK.out _ _ ⟨_, hF.pure hok hla hpre rfl (Below.refl _ _), ?fr⟩
                            case fr => simp only [putO, layT_some, layT_none, layT_nil, List.setIfInBounds_toArray, List.set_cons_zero, List.set_cons_succ]
                          · replace hge : 14 ≤ i := hgt
                            clear hgt
                            have he : i = 14 := Nat.le_antisymm (Nat.le_of_lt_succ hi) hge
                            subst he
                            have p11 := hpre 11 (by kernel_rfl)
                            have e11 : s11 = .agg #[.int .i64 1, .string (numS D), .string (denS D), .string { data := #[] }, .bool false, .int .i64 0, .int .i64 0, .int .i64 0, .slice none 0 0] := hF.get 11 _ rfl (.inr p11)
                            subst e11
                            have p12 := hpre 12 (by kernel_rfl)
                            have e12 : s12 = .agg #[.int .i64 1, .string (numS D), .string (denS D), .string { data := #[] }, .bool false, .int .i64 0, .int .i64 0, .int .i64 0, .slice none 0 0] := hF.get 12 _ rfl (.inr p12)
                            subst e12
                            have p13 := hpre 13 (by kernel_rfl)
                            have e13 : s13 = .agg #[.int .i64 5, .string { data := #[] }, .string { data := #[] }, .string { data := #[] }, .bool false, .int .i64 0, .int .i64 1, .int .i64 (ln : Int), .slice (some ⟨g, 0, none⟩) ln cap] := hF.get 13 _ rfl (.inr p13)
                            subst e13
                            have p10 := hpre 10 (by kernel_rfl)
                            have e10 : s10 = .bool true := hF.get 10 _ rfl (.inr p10)
                            subst e10
                            refine step_of ⟨some 87, _, _, _, _, _⟩ rfl (fun K' hK => ?_)
                            rw [if_pos (by rfl)]
                            go_simp
                            refine hK.out _ _ ⟨_, hF.row hok hla hpre rfl, ?fr⟩
                            case fr => simp only [putO, layT_some, layT_none, layT_nil, List.setIfInBounds_toArray, List.set_cons_zero, List.set_cons_succ]
                      · replace hge : 15 ≤ i := hgt
                        clear hgt
                        rcases Nat.lt_or_ge i 16 with hlt | hgt
                        · replace hi := hlt
                          clear hlt
                          have he : i = 15 := Nat.le_antisymm (Nat.le_of_lt_succ hi) hge
                          subst he
                          have p14 := hpre 14 (by kernel_rfl)
                          obtain ⟨G, eG, _, hGB⟩ : ∃ G, s14 = .slice (some ⟨G, 0, none⟩) 3 3 ∧ _ ≤ G ∧ Wr.heap[G]? = some (.cells #[.int .i64 1, .string (numS D), .string (denS D), .string { data := #[] }, .bool false, .int .i64 0, .int .i64 0, .int .i64 0, .slice none 0 0, .int .i64 1, .string (numS D), .string (denS D), .string { data := #[] }, .bool false, .int .i64 0, .int .i64 0, .int .i64 0, .slice none 0 0, .int .i64 5, .string { data := #[] }, .string { data := #[] }, .string { data := #[] }, .bool false, .int .i64 0, .int .i64 1, .int .i64 (ln : Int), .slice (some ⟨g, 0, none⟩) ln cap] 30 (0, 0)) := hF.get 14 _ rfl (.inr p14)
                          subst eG
                          have p10 := hpre 10 (by kernel_rfl)
                          have e10 : s10 = .bool true := hF.get 10 _ rfl (.inr p10)
                          subst e10
                          refine step_of ⟨some 88, _, _, _, _, _⟩ rfl (fun K' hK => ?_)
                          rw [if_pos (by rfl)]
                          go_simp
                          go_at_call 20
                          (with_reducible refine (Qr2.out _ _ _ _ hGB (HV.out.below (below_none hF.low)) (HE.out.below (below_none hF.low))).mono ?_)
                          rintro e Wq ⟨rfl, hq⟩
                          refine hK.out _ _ ⟨_, hF.pure hok hla hpre rfl hq, ?fr⟩
                          case fr => simp only [putO, layT_some, layT_none, layT_nil, List.setIfInBounds_toArray, List.set_cons_zero, List.set_cons_succ]
                        · replace hge : 16 ≤ i := hgt
                          clear hgt
                          rcases Nat.lt_or_ge i 17 with hlt | hgt
                          · replace hi := hlt
                            clear hlt
                            have he : i = 16 := Nat.le_antisymm (Nat.le_of_lt_succ hi) hge
                            subst he
                            have p10 := hpre 10 (by kernel_rfl)
                            have e10 : s10 = .bool true := hF.get 10 _ rfl (.inr p10)
                            subst e10
                            refine step_of ⟨some 89, _, _, _, _, _⟩ rfl (fun K' hK => ?_)
                            rw [if_pos (by rfl)]
                            go_simp
                            go_at_call 11
                            (with_reducible refine (Qt6.out _ (HE.out.below (below_none hF.low))).mono ?_)
                            rintro e Wq ⟨rfl, hq⟩
                            refine hK.out _ _ ⟨_, hF.pure hok hla hpre rfl hq, ?fr⟩
                            case fr => simp only [putO, layT_some, layT_none, layT_nil, List.setIfInBounds_toArray, List.set_cons_zero, List.set_cons_succ]
                          · replace hge : 17 ≤ i := hgt
                            clear hgt
                            have he : i = 17 := Nat.le_antisymm (Nat.le_of_lt_succ hi) hge
                            subst he
                            have p15 := hpre 15 (by kernel_rfl)
                            have e15 : s15 = .agg #[.int .i64 1, .string (numS On), .string (denS On), .string { data := #[] }, .bool false, .int .i64 0, .int .i64 0, .int .i64 0, .slice none 0 0] := hF.get 15 _ rfl (.inr p15)
                            subst e15
                            have p16 := hpre 16 (by kernel_rfl)
                            have e16 : s16 = .agg #[.int .i64 1, .string (numS On), .string (denS On), .string { data := #[] }, .bool false, .int .i64 0, .int .i64 0, .int .i64 0, .slice none 0 0] := hF.get 16 _ rfl (.inr p16)
                            subst e16
                            have p10 := hpre 10 (by kernel_rfl)
                            have e10 : s10 = .bool true := hF.get 10 _ rfl (.inr p10)
                            subst e10
                            refine step_of ⟨some 90, _, _, _, _, _⟩ rfl (fun K' hK => ?_)
                            rw [if_pos (by rfl)]
                            go_simp
                            go_at_call 14
                            (with_reducible refine (RS.out On _).mono ?_)
                            rintro e Wq ⟨rfl, hq⟩
                            refine hK.out _ _ ⟨_, hF.pure hok hla hpre rfl hq, ?fr⟩
                            case fr => simp only [putO, layT_some, layT_none, layT_nil, List.setIfInBounds_toArray, List.set_cons_zero, List.set_cons_succ]
                    · replace hge : 18 ≤ i := hgt
                      clear hgt
                      rcases Nat.lt_or_ge i 21 with hlt | hgt
                      · replace hi := hlt
                        clear hlt
                        rcases Nat.lt_or_ge i 19 with hlt | hgt
                        · replace hi := hlt
                          clear hlt
                          have he : i = 18 := Nat.le_antisymm (Nat.le_of_lt_succ hi) hge
                          subst he
                          have p10 := hpre 10 (by kernel_rfl)
                          have e10 : s10 = .bool true := hF.get 10 _ rfl (.inr p10)
                          subst e10
                          have p17 := hpre 17 (by kernel_rfl)
                          have e17 : s17 = .bool true := hF.get 17 _ rfl (.inr p17)
                          subst e17
                          refine step_of ⟨some 91, _, _, _, _, _⟩ rfl (fun K' hK => ?_)
                          go_simp
                          refine hK.out _ _ ⟨_, hF.pure hok hla hpre rfl (Below.refl _ _), ?fr⟩
                          case fr => simp only [putO, layT_some, layT_none, layT_nil, List.setIfInBounds_toArray, List.set_cons_zero, List.set_cons_succ]
                        · replace hge : 19 ≤ i := hgt
                          clear hgt
                          rcases Nat.lt_or_ge i 20 with hlt | hgt
                          · replace hi := hlt
                            clear hlt
                            have he : i = 19 := Nat.le_antisymm (Nat.le_of_lt_succ hi) hge
                            subst he
                            have p18 := hpre 18 (by kernel_rfl)
                            have e18 : s18 = .bool true := hF.get 18 _ rfl (.inr p18)
                            subst e18
                            refine step_of ⟨some 92, _, _, _, _, _⟩ rfl (fun K' hK => ?_)
                            go_simp
                            refine hK.out _ _ ⟨_, hF.pure hok hla hpre rfl (Below.refl _ _), ?fr⟩
                            case fr => simp only [putO, layT_some, layT_none, layT_nil, List.setIfInBounds_toArray, List.set_cons_zero, List.set_cons_succ]
                          · replace hge : 20 ≤ i := hgt
                            clear hgt
                            have he : i = 20 := Nat.le_antisymm (Nat.le_of_lt_succ hi) hge
                            subst he
                            have p19 := hpre 19 (by kernel_rfl)
                            have e19 : s19 = .bool true := hF.get 19 _ rfl (.inr p19)
                            subst e19
                            refine step_of ⟨some 93, _, _, _, _, _⟩ rfl (fun K' hK => ?_)
                            rw [if_pos (by rfl)]
                            go_simp
                            refine hK.out _ _ ⟨_, hF.pure hok hla hpre rfl (Below.refl _ _), ?fr⟩
                            case fr => simp only [putO, layT_some, layT_none, layT_nil, List.setIfInBounds_toArray, List.set_cons_zero, List.set_cons_succ]
                      · replace hge : 21 ≤ i := hgt
                        clear hgt
                        rcases Nat.lt_or_ge i 22 with hlt | hgt
                        · replace hi := hlt
                          clear hlt
                          have he : i = 21 := Nat.le_antisymm (Nat.le_of_lt_succ hi) hge
                          subst he
                          have p20 := hpre 20 (by kernel_rfl)
                          have e20 : s20 = .int .i64 c := hF.get 20 _ rfl (.inr p20)
                          subst e20
                          have p19 := hpre 19 (by kernel_rfl)
                          have e19 : s19 = .bool true := hF.get 19 _ rfl (.inr p19)
                          subst e19
                          refine step_of ⟨some 94, _, _, _, _, _⟩ rfl (fun K' hK => ?_)
                          rw [if_pos (by rfl)]
                          go_simp
                          refine hK.out _ _ ⟨_, hF.pure hok hla hpre rfl (Below.refl _ _), ?fr⟩
                          case fr => simp only [putO, layT_some, layT_none, layT_nil, List.setIfInBounds_toArray, List.set_cons_zero, List.set_cons_succ]
                        · replace hge : 22 ≤ i := hgt
                          clear hgt
                          rcases Nat.lt_or_ge i 23 with hlt | hgt
                          · replace hi := hlt
                            clear hlt
                            have he : i = 22 := Nat.le_antisymm (Nat.le_of_lt_succ hi) hge
                            subst he
                            have p19 := hpre 19 (by kernel_rfl)
                            have e19 : s19 = .bool true := hF.get 19 _ rfl (.inr p19)
                            subst e19
                            have p21 := hpre 21 (by kernel_rfl)
                            have e21 : s21 = .bool true := hF.get 21 _ rfl (.inr p21)
                            subst e21
                            refine step_of ⟨some 95, _, _, _, _, _⟩ rfl (fun K' hK => ?_)
                            go_simp
                            refine hK.out _ _ ⟨_, hF.pure hok hla hpre rfl (Below.refl _ _), ?fr⟩
                            case fr => simp only [putO, layT_some, layT_none, layT_nil, List.setIfInBounds_toArray, List.set_cons_zero, List.set_cons_succ]
                          · replace hge : 23 ≤ i := hgt
                            clear hgt
                            have he : i = 23 := Nat.le_antisymm (Nat.le_of_lt_succ hi) hge
                            subst he
                            have p22 := hpre 22 (by kernel_rfl)
                            have e22 : s22 = .bool true := hF.get 22 _ rfl (.inr p22)
                            subst e22
                            refine step_of ⟨some 96, _, _, _, _, _⟩ rfl (fun K' hK => ?_)
                            go_simp
                            refine hK.out _ _ ⟨_, hF.pure hok hla hpre rfl (Below.refl _ _), ?fr⟩
                            case fr => simp only [putO, layT_some, layT_none, layT_nil, List.setIfInBounds_toArray, List.set_cons_zero, List.set_cons_succ]
                · replace hge : 24 ≤ i := hgt
                  clear hgt
                  rcases Nat.lt_or_ge i 36 with hlt | hgt
                  · replace hi := hlt
                    clear hlt
                    rcases Nat.lt_or_ge i 30 with hlt | hgt
                    · replace hi := hlt
                      clear hlt
                      rcases Nat.lt_or_ge i 27 with hlt | hgt
                      · replace hi := hlt
                        clear hlt
                        rcases Nat.lt_or_ge i 25 with hlt | hgt
                        · replace hi := hlt
                          clear hlt
                          have he : i = 24 := Nat.le_antisymm (Nat.le_of_lt_succ hi) hge
                          subst he
                          have p23 := hpre 23 (by kernel_rfl)
                          have e23 : s23 = .bool true := hF.get 23 _ rfl (.inr p23)
                          subst e23
                          have hcc := (nine_at (keep_block H10.out (below_none hF.low))).1
                          have cH100 := hcc.1
                          have cH101 := hcc.2.1
                          have cH102 := hcc.2.2.1
                          have cH103 := hcc.2.2.2.1
                          have cH104 := hcc.2.2.2.2.1
                          have cH105 := hcc.2.2.2.2.2.1
                          have cH106 := hcc.2.2.2.2.2.2.1
                          have cH107 := hcc.2.2.2.2.2.2.2.1
                          have cH108 := hcc.2.2.2.2.2.2.2.2
                          clear hcc
                          refine step_of ⟨some 97, _, _, _, _, _⟩ rfl (fun K' hK => ?_)
                          rw [if_pos (by rfl)]
                          go_simp
                          refine hK.out _ _ ⟨_, hF.pure hok hla hpre rfl (Below.refl _ _), ?fr⟩
                          case fr => simp only [putO, layT_some, layT_none, layT_nil, List.setIfInBounds_toArray, List.set_cons_zero, List.set_cons_succ]
                        · replace hge : 25 ≤ i := hgt
                          clear hgt
                          rcases Nat.lt_or_ge i 26 with hlt | hgt
                          · replace hi := hlt
                            clear hlt
                            have he : i = 25 := Nat.le_antisymm (Nat.le_of_lt_succ hi) hge
                            subst he
                            have p23 := hpre 23 (by kernel_rfl)
                            have e23 : s23 = .bool true := hF.get 23 _ rfl (.inr p23)
                            subst e23
                            refine step_of ⟨some 98, _, _, _, _, _⟩ rfl (fun K' hK => ?_)
                            rw [if_pos (by rfl)]
                            go_simp
                            refine hK.out _ _ ⟨_, hF.pure hok hla hpre rfl (Below.refl _ _), ?fr⟩
                            case fr => simp only [putO, layT_some, layT_none, layT_nil, List.setIfInBounds_toArray, List.set_cons_zero, List.set_cons_succ]
                          · replace hge : 26 ≤ i := hgt
                            clear hgt
                            have he : i = 26 := Nat.le_antisymm (Nat.le_of_lt_succ hi) hge
                            subst he
                            have p25 := hpre 25 (by kernel_rfl)
                            have e25 : s25 = .int .i64 (10000 + m) := hF.get 25 _ rfl (.inr p25)
                            subst e25
                            have p23 := hpre 23 (by kernel_rfl)
                            have e23 : s23 = .bool true := hF.get 23 _ rfl (.inr p23)
                            subst e23
                            refine step_of ⟨some 99, _, _, _, _, _⟩ rfl (fun K' hK => ?_)
                            rw [if_pos (by rfl)]
                            go_simp
                            refine hK.out _ _ ⟨_, hF.pure hok hla hpre rfl (Below.refl _ _), ?fr⟩
                            case fr => simp only [putO, layT_some, layT_none, layT_nil, List.setIfInBounds_toArray, List.set_cons_zero, List.set_cons_succ]
                      · replace hge : 27 ≤ i := hgt
                        clear hgt
                        rcases Nat.lt_or_ge i 28 with hlt | hgt
                        · replace hi := hlt
                          clear hlt
                          have he : i = 27 := Nat.le_antisymm (Nat.le_of_lt_succ hi) hge
                          subst he
                          have p26 := hpre 26 (by kernel_rfl)
                          have e26 : s26 = .int .i64 (10000 + m + 1) := hF.get 26 _ rfl (.inr p26)
                          subst e26
                          have p23 := hpre 23 (by kernel_rfl)
                          have e23 : s23 = .bool true := hF.get 23 _ rfl (.inr p23)
                          subst e23
                          refine step_of ⟨some 100, _, _, _, _, _⟩ rfl (fun K' hK => ?_)
                          rw [if_pos (by rfl)]
                          go_simp
                          go_at_call 11
                          (with_reducible refine (Qt5.out _ (HE.out.below (below_none hF.low))).mono ?_)
                          rintro e Wq ⟨rfl, hq⟩
                          refine hK.out _ _ ⟨_, hF.pure hok hla hpre rfl hq, ?fr⟩
                          case fr => simp only [putO, layT_some, layT_none, layT_nil, List.setIfInBounds_toArray, List.set_cons_zero, List.set_cons_succ]
                        · replace hge : 28 ≤ i := hgt
                          clear hgt
                          rcases Nat.lt_or_ge i 29 with hlt | hgt
                          · replace hi := hlt
                            clear hlt
                            have he : i = 28 := Nat.le_antisymm (Nat.le_of_lt_succ hi) hge
                            subst he
                            have p24 := hpre 24 (by kernel_rfl)
                            have e24 : s24 = .agg #[.int .i64 1, .string (numS D), .string (denS D), .string { data := #[] }, .bool false, .int .i64 0, .int .i64 0, .int .i64 0, .slice none 0 0] := hF.get 24 _ rfl (.inr p24)
                            subst e24
                            have p27 := hpre 27 (by kernel_rfl)
                            have e27 : s27 = .agg #[.int .i64 1, .string (numS P), .string (denS P), .string { data := #[] }, .bool false, .int .i64 0, .int .i64 0, .int .i64 0, .slice none 0 0] := hF.get 27 _ rfl (.inr p27)
                            subst e27
                            have p23 := hpre 23 (by kernel_rfl)
                            have e23 : s23 = .bool true := hF.get 23 _ rfl (.inr p23)
                            subst e23
                            refine step_of ⟨some 101, _, _, _, _, _⟩ rfl (fun K' hK => ?_)
                            rw [if_pos (by rfl)]
                            go_simp
                            go_at_call 14
                            (with_reducible refine (QtS.out _ (HE.out.below (below_none hF.low))).mono ?_)
                            rintro e Wq ⟨rfl, hq⟩
                            refine hK.out _ _ ⟨_, hF.pure hok hla hpre rfl hq, ?fr⟩
                            case fr => simp only [putO, layT_some, layT_none, layT_nil, List.setIfInBounds_toArray, List.set_cons_zero, List.set_cons_succ]
                          · replace hge : 29 ≤ i := hgt
                            clear hgt
                            have he : i = 29 := Nat.le_antisymm (Nat.le_of_lt_succ hi) hge
                            subst he
                            have p28 := hpre 28 (by kernel_rfl)
                            have e28 : s28 = .bool false := hF.get 28 _ rfl (.inr p28)
                            subst e28
                            have p23 := hpre 23 (by kernel_rfl)
                            have e23 : s23 = .bool true := hF.get 23 _ rfl (.inr p23)
                            subst e23
                            refine step_of ⟨some 102, _, _, _, _, _⟩ rfl (fun K' hK => ?_)
                            rw [if_pos (by rfl)]
                            go_simp
                            refine hK.out _ _ ⟨_, hF.pure hok hla hpre rfl (Below.refl _ _), ?fr⟩
                            case fr => simp only [putO, layT_some, layT_none, layT_nil, List.setIfInBounds_toArray, List.set_cons_zero, List.set_cons_succ]
                    · replace hge : 30 ≤ i := hgt
                      clear hgt
                      rcases Nat.lt_or_ge i 33 with hlt | hgt
                      · replace hi := hlt
                        clear hlt
                        rcases Nat.lt_or_ge i 31 with hlt | hgt
                        · replace hi := hlt
                          clear hlt
                          have he : i = 30 := Nat.le_antisymm (Nat.le_of_lt_succ hi) hge
                          subst he
                          have p29 := hpre 29 (by kernel_rfl)
                          have e29 : s29 = .bool false := hF.get 29 _ rfl (.inr p29)
                          subst e29
                          have hcc := (nine_at (keep_block H10.out (below_none hF.low))).1
                          have cH100 := hcc.1
                          have cH101 := hcc.2.1
                          have cH102 := hcc.2.2.1
                          have cH103 := hcc.2.2.2.1
                          have cH104 := hcc.2.2.2.2.1
                          have cH105 := hcc.2.2.2.2.2.1
                          have cH106 := hcc.2.2.2.2.2.2.1
                          have cH107 := hcc.2.2.2.2.2.2.2.1
                          have cH108 := hcc.2.2.2.2.2.2.2.2
                          clear hcc
                          refine step_of ⟨some 103, _, _, _, _, _⟩ rfl (fun K' hK => ?_)
                          rw [if_pos (by rfl)]
                          go_simp
                          refine hK.out _ _ ⟨_, hF.pure hok hla hpre rfl (Below.refl _ _), ?fr⟩
                          case fr => simp only [putO, layT_some, layT_none, layT_nil, List.setIfInBounds_toArray, List.set_cons_zero, List.set_cons_succ]
                        · replace hge : 31 ≤ i := hgt
                          clear hgt
                          rcases Nat.lt_or_ge i 32 with hlt | hgt
                          · replace hi := hlt
                            clear hlt
                            have he : i = 31 := Nat.le_antisymm (Nat.le_of_lt_succ hi) hge
                            subst he
                            have p29 := hpre 29 (by kernel_rfl)
                            have e29 : s29 = .bool false := hF.get 29 _ rfl (.inr p29)
                            subst e29
                            refine step_of ⟨some 104, _, _, _, _, _⟩ rfl (fun K' hK => ?_)
                            rw [if_pos (by rfl)]
                            go_simp
                            refine hK.out _ _ ⟨_, hF.pure hok hla hpre rfl (Below.refl _ _), ?fr⟩
                            case fr => simp only [putO, layT_some, layT_none, layT_nil, List.setIfInBounds_toArray, List.set_cons_zero, List.set_cons_succ]
                          · replace hge : 32 ≤ i := hgt
                            clear hgt
                            have he : i = 32 := Nat.le_antisymm (Nat.le_of_lt_succ hi) hge
                            subst he
                            have p31 := hpre 31 (by kernel_rfl)
                            have e31 : s31 = .int .i64 (10000 + m) := hF.get 31 _ rfl (.inr p31)
                            subst e31
                            have p29 := hpre 29 (by kernel_rfl)
                            have e29 : s29 = .bool false := hF.get 29 _ rfl (.inr p29)
                            subst e29
                            refine step_of ⟨some 105, _, _, _, _, _⟩ rfl (fun K' hK => ?_)
                            rw [if_pos (by rfl)]
                            go_simp
                            refine hK.out _ _ ⟨_, hF.pure hok hla hpre rfl (Below.refl _ _), ?fr⟩
                            case fr => simp only [putO, layT_some, layT_none, layT_nil, List.setIfInBounds_toArray, List.set_cons_zero, List.set_cons_succ]
                      · replace hge : 33 ≤ i := hgt
                        clear hgt
                        rcases Nat.lt_or_ge i 34 with hlt | hgt
                        · replace hi := hlt
                          clear hlt
                          have he : i = 33 := Nat.le_antisymm (Nat.le_of_lt_succ hi) hge
                          subst he
                          have p32 := hpre 32 (by kernel_rfl)
                          have e32 : s32 = .int .i64 (10000 + m + 1) := hF.get 32 _ rfl (.inr p32)
                          subst e32
                          have p29 := hpre 29 (by kernel_rfl)
                          have e29 : s29 = .bool false := hF.get 29 _ rfl (.inr p29)
                          subst e29
                          refine step_of ⟨some 106, _, _, _, _, _⟩ rfl (fun K' hK => ?_)
                          rw [if_pos (by rfl)]
                          go_simp
                          go_at_call 11
                          (with_reducible refine (Qt5.out _ (HE.out.below (below_none hF.low))).mono ?_)
                          rintro e Wq ⟨rfl, hq⟩
                          refine hK.out _ _ ⟨_, hF.pure hok hla hpre rfl hq, ?fr⟩
                          case fr => simp only [putO, layT_some, layT_none, layT_nil, List.setIfInBounds_toArray, List.set_cons_zero, List.set_cons_succ]
                        · replace hge : 34 ≤ i := hgt
                          clear hgt
                          rcases Nat.lt_or_ge i 35 with hlt | hgt
                          · replace hi := hlt
                            clear hlt
                            have he : i = 34 := Nat.le_antisymm (Nat.le_of_lt_succ hi) hge
                            subst he
                            have p29 := hpre 29 (by kernel_rfl)
                            have e29 : s29 = .bool false := hF.get 29 _ rfl (.inr p29)
                            subst e29
                            have hcc := (nine_at (keep_block H7.out (below_none hF.low))).1
                            have cH70 := hcc.1
                            have cH71 := hcc.2.1
                            have cH72 := hcc.2.2.1
                            have cH73 := hcc.2.2.2.1
                            have cH74 := hcc.2.2.2.2.1
                            have cH75 := hcc.2.2.2.2.2.1
                            have cH76 := hcc.2.2.2.2.2.2.1
                            have cH77 := hcc.2.2.2.2.2.2.2.1
                            have cH78 := hcc.2.2.2.2.2.2.2.2
                            clear hcc
                            refine step_of ⟨some 107, _, _, _, _, _⟩ rfl (fun K' hK => ?_)
                            rw [if_pos (by rfl)]
                            go_simp
                            refine hK.out _ _ ⟨_, hF.pure hok hla hpre rfl (Below.refl _ _), ?fr⟩
                            case fr => simp only [putO, layT_some, layT_none, layT_nil, List.setIfInBounds_toArray, List.set_cons_zero, List.set_cons_succ]
                          · replace hge : 35 ≤ i := hgt
                            clear hgt
                            have he : i = 35 := Nat.le_antisymm (Nat.le_of_lt_succ hi) hge
                            subst he
                            have p30 := hpre 30 (by kernel_rfl)
                            have e30 : s30 = .agg #[.int .i64 1, .string (numS D), .string (denS D), .string { data := #[] }, .bool false, .int .i64 0, .int .i64 0, .int .i64 0, .slice none 0 0] := hF.get 30 _ rfl (.inr p30)
                            subst e30
                            have p33 := hpre 33 (by kernel_rfl)
                            have e33 : s33 = .agg #[.int .i64 1, .string (numS P), .string (denS P), .string { data := #[] }, .bool false, .int .i64 0, .int .i64 0, .int .i64 0, .slice none 0 0] := hF.get 33 _ rfl (.inr p33)
                            subst e33
                            have p34 := hpre 34 (by kernel_rfl)
                            have e34 : s34 = .agg #[.int .i64 5, .string { data := #[] }, .string { data := #[] }, .string { data := #[] }, .bool false, .int .i64 0, .int .i64 1, .int .i64 (ln : Int), .slice (some ⟨g, 0, none⟩) ln cap] := hF.get 34 _ rfl (.inr p34)
                            subst e34
                            have p29 := hpre 29 (by kernel_rfl)
                            have e29 : s29 = .bool false := hF.get 29 _ rfl (.inr p29)
                            subst e29
                            refine step_of ⟨some 108, _, _, _, _, _⟩ rfl (fun K' hK => ?_)
                            rw [if_pos (by rfl)]
                            go_simp
                            refine hK.out _ _ ⟨_, hF.row hok hla hpre rfl, ?fr⟩
                            case fr => simp only [putO, layT_some, layT_none, layT_nil, List.setIfInBounds_toArray, List.set_cons_zero, List.set_cons_succ]
                  · replace hge : 36 ≤ i := hgt
                    clear hgt
                    rcases Nat.lt_or_ge i 42 with hlt | hgt
                    · replace hi := hlt
                      clear hlt
                      rcases Nat.lt_or_ge i 39 with hlt | hgt
                      · replace hi := hlt
                        clear hlt
                        rcases Nat.lt_or_ge i 37 with hlt | hgt
                        · replace hi := hlt
                          clear hlt
                          have he : i = 36 := Nat.le_antisymm (Nat.le_of_lt_succ hi) hge
                          subst he
                          have p35 := hpre 35 (by kernel_rfl)
                          obtain ⟨G, eG, _, hGB⟩ : ∃ G, s35 = .slice (some ⟨G, 0, none⟩) 3 3 ∧ _ ≤ G ∧ Wr.heap[G]? = some (.cells #[.int .i64 1, .string (numS D), .string (denS D), .string { data := #[] }, .bool false, .int .i64 0, .int .i64 0, .int .i64 0, .slice none 0 0, .int .i64 1, .string (numS P), .string (denS P), .string { data := #[] }, .bool false, .int .i64 0, .int .i64 0, .int .i64 0, .slice none 0 0, .int .i64 5, .string { data := #[] }, .string { data := #[] }, .string { data := #[] }, .bool false, .int .i64 0, .int .i64 1, .int .i64 (ln : Int), .slice (some ⟨g, 0, none⟩) ln cap] 30 (0, 0)) := hF.get 35 _ rfl (.inr p35)
                          subst eG
                          have p29 := hpre 29 (by kernel_rfl)
                          have e29 : s29 = .bool false := hF.get 29 _ rfl (.inr p29)
                          subst e29
                          refine step_of ⟨some 109, _, _, _, _, _⟩ rfl (fun K' hK => ?_)
                          rw [if_pos (by rfl)]
                          go_simp
                          go_at_call 20
                          (with_reducible refine (Qr3.out _ _ _ _ hGB (HV.out.below (below_none hF.low)) (HE.out.below (below_none hF.low))).mono ?_)
                          rintro e Wq ⟨rfl, hq⟩
                          refine hK.out _ _ ⟨_, hF.pure hok hla hpre rfl hq, ?fr⟩
                          case fr => simp only [putO, layT_some, layT_none, layT_nil, List.setIfInBounds_toArray, List.set_cons_zero, List.set_cons_succ]
                        · replace hge : 37 ≤ i := hgt
                          clear hgt
                          rcases Nat.lt_or_ge i 38 with hlt | hgt
                          · replace hi := hlt
                            clear hlt
                            have he : i = 37 := Nat.le_antisymm (Nat.le_of_lt_succ hi) hge
                            subst he
                            have p29 := hpre 29 (by kernel_rfl)
                            have e29 : s29 = .bool false := hF.get 29 _ rfl (.inr p29)
                            subst e29
                            refine step_of ⟨some 110, _, _, _, _, _⟩ rfl (fun K' hK => ?_)
                            rw [if_pos (by rfl)]
                            go_simp
                            refine hK.out _ _ ⟨_, hF.pure hok hla hpre rfl (Below.refl _ _), ?fr⟩
                            case fr => simp only [putO, layT_some, layT_none, layT_nil, List.setIfInBounds_toArray, List.set_cons_zero, List.set_cons_succ]
                          · replace hge : 38 ≤ i := hgt
                            clear hgt
                            have he : i = 38 := Nat.le_antisymm (Nat.le_of_lt_succ hi) hge
                            subst he
                            have p37 := hpre 37 (by kernel_rfl)
                            have e37 : s37 = .int .i64 (1 + t) := hF.get 37 _ rfl (.inr p37)
                            subst e37
                            have p29 := hpre 29 (by kernel_rfl)
                            have e29 : s29 = .bool false := hF.get 29 _ rfl (.inr p29)
                            subst e29
                            refine step_of ⟨some 111, _, _, _, _, _⟩ rfl (fun K' hK => ?_)
                            rw [if_pos (by rfl)]
                            go_simp
                            refine hK.out _ _ ⟨_, hF.pure hok hla hpre rfl (Below.refl _ _), ?fr⟩
                            case fr => simp only [putO, layT_some, layT_none, layT_nil, List.setIfInBounds_toArray, List.set_cons_zero, List.set_cons_succ]
                      · replace hge : 39 ≤ i := hgt
                        clear hgt
                        rcases Nat.lt_or_ge i 40 with hlt | hgt
                        · replace hi := hlt
                          clear hlt
                          have he : i = 39 := Nat.le_antisymm (Nat.le_of_lt_succ hi) hge
                          subst he
                          have p38 := hpre 38 (by kernel_rfl)
                          have e38 : s38 = .int .i64 (-(1 + t)) := hF.get 38 _ rfl (.inr p38)
                          subst e38
                          have p29 := hpre 29 (by kernel_rfl)
                          have e29 : s29 = .bool false := hF.get 29 _ rfl (.inr p29)
                          subst e29
                          refine step_of ⟨some 112, _, _, _, _, _⟩ rfl (fun K' hK => ?_)
                          rw [if_pos (by rfl)]
                          go_simp
                          go_at_call 11
                          (with_reducible refine (Qt7.out _ (HE.out.below (below_none hF.low))).mono ?_)
                          rintro e Wq ⟨rfl, hq⟩
                          refine hK.out _ _ ⟨_, hF.pure hok hla hpre rfl hq, ?fr⟩
                          case fr => simp only [putO, layT_some, layT_none, layT_nil, List.setIfInBounds_toArray, List.set_cons_zero, List.set_cons_succ]
                        · replace hge : 40 ≤ i := hgt
                          clear hgt
                          rcases Nat.lt_or_ge i 41 with hlt | hgt
                          · replace hi := hlt
                            clear hlt
                            have he : i = 40 := Nat.le_antisymm (Nat.le_of_lt_succ hi) hge
                            subst he
                            have p36 := hpre 36 (by kernel_rfl)
                            have e36 : s36 = .agg #[.int .i64 1, .string (numS Z), .string (denS Z), .string { data := #[] }, .bool false, .int .i64 0, .int .i64 0, .int .i64 0, .slice none 0 0] := hF.get 36 _ rfl (.inr p36)
                            subst e36
                            have p39 := hpre 39 (by kernel_rfl)
                            have e39 : s39 = .agg #[.int .i64 1, .string (numS Z), .string (denS Z), .string { data := #[] }, .bool false, .int .i64 0, .int .i64 0, .int .i64 0, .slice none 0 0] := hF.get 39 _ rfl (.inr p39)
                            subst e39
                            have p29 := hpre 29 (by kernel_rfl)
                            have e29 : s29 = .bool false := hF.get 29 _ rfl (.inr p29)
                            subst e29
                            refine step_of ⟨some 113, _, _, _, _, _⟩ rfl (fun K' hK => ?_)
                            rw [if_pos (by rfl)]
                            go_simp
                            go_at_call 14
                            (with_reducible refine (RS.out Z _).mono ?_)
                            rintro e Wq ⟨rfl, hq⟩
                            refine hK.out _ _ ⟨_, hF.pure hok hla hpre rfl hq, ?fr⟩
                            case fr => simp only [putO, layT_some, layT_none, layT_nil, List.setIfInBounds_toArray, List.set_cons_zero, List.set_cons_succ]
                          · replace hge : 41 ≤ i := hgt
                            clear hgt
                            have he : i = 41 := Nat.le_antisymm (Nat.le_of_lt_succ hi) hge
                            subst he
                            have p29 := hpre 29 (by kernel_rfl)
                            have e29 : s29 = .bool false := hF.get 29 _ rfl (.inr p29)
                            subst e29
                            have p40 := hpre 40 (by kernel_rfl)
                            have e40 : s40 = .bool true := hF.get 40 _ rfl (.inr p40)
                            subst e40
                            have p23 := hpre 23 (by kernel_rfl)
                            have e23 : s23 = .bool true := hF.get 23 _ rfl (.inr p23)
                            subst e23
                            refine step_of ⟨some 114, _, _, _, _, _⟩ rfl (fun K' hK => ?_)
                            rw [if_pos (by rfl)]
                            go_simp
                            refine hK.out _ _ ⟨_, hF.pure hok hla hpre rfl (Below.refl _ _), ?fr⟩
                            case fr => simp only [putO, layT_some, layT_none, layT_nil, List.setIfInBounds_toArray, List.set_cons_zero, List.set_cons_succ]
                    · replace hge : 42 ≤ i := hgt
                      clear hgt
                      rcases Nat.lt_or_ge i 45 with hlt | hgt
                      · replace hi := hlt
                        clear hlt
                        rcases Nat.lt_or_ge i 43 with hlt | hgt
                        · replace hi := hlt
                          clear hlt
                          have he : i = 42 := Nat.le_antisymm (Nat.le_of_lt_succ hi) hge
                          subst he
                          have p23 := hpre 23 (by kernel_rfl)
                          have e23 : s23 = .bool true := hF.get 23 _ rfl (.inr p23)
                          subst e23
                          have p41 := hpre 41 (by kernel_rfl)
                          have e41 : s41 = .bool true := hF.get 41 _ rfl (.inr p41)
                          subst e41
                          refine step_of ⟨some 115, _, _, _, _, _⟩ rfl (fun K' hK => ?_)
                          go_simp
                          refine hK.out _ _ ⟨_, hF.pure hok hla hpre rfl (Below.refl _ _), ?fr⟩
                          case fr => simp only [putO, layT_some, layT_none, layT_nil, List.setIfInBounds_toArray, List.set_cons_zero, List.set_cons_succ]
                        · replace hge : 43 ≤ i := hgt
                          clear hgt
                          rcases Nat.lt_or_ge i 44 with hlt | hgt
                          · replace hi := hlt
                            clear hlt
                            have he : i = 43 := Nat.le_antisymm (Nat.le_of_lt_succ hi) hge
                            subst he
                            have p42 := hpre 42 (by kernel_rfl)
                            have e42 : s42 = .bool true := hF.get 42 _ rfl (.inr p42)
                            subst e42
                            refine step_of ⟨some 116, _, _, _, _, _⟩ rfl (fun K' hK => ?_)
                            go_simp
                            refine hK.out _ _ ⟨_, hF.pure hok hla hpre rfl (Below.refl _ _), ?fr⟩
                            case fr => simp only [putO, layT_some, layT_none, layT_nil, List.setIfInBounds_toArray, List.set_cons_zero, List.set_cons_succ]
                          · replace hge : 44 ≤ i := hgt
                            clear hgt
                            have he : i = 44 := Nat.le_antisymm (Nat.le_of_lt_succ hi) hge
                            subst he
                            have p43 := hpre 43 (by kernel_rfl)
                            have e43 : s43 = .bool true := hF.get 43 _ rfl (.inr p43)
                            subst e43
                            refine step_of ⟨some 117, _, _, _, _, _⟩ rfl (fun K' hK => ?_)
                            rw [if_pos (by rfl)]
                            go_simp
                            refine hK.out _ _ ⟨_, hF.pure hok hla hpre rfl (Below.refl _ _), ?fr⟩
                            case fr => simp only [putO, layT_some, layT_none, layT_nil, List.setIfInBounds_toArray, List.set_cons_zero, List.set_cons_succ]
                      · replace hge : 45 ≤ i := hgt
                        clear hgt
                        rcases Nat.lt_or_ge i 47 with hlt | hgt
                        · replace hi := hlt
                          clear hlt
                          rcases Nat.lt_or_ge i 46 with hlt | hgt
                          · replace hi := hlt
                            clear hlt
                            have he : i = 45 := Nat.le_antisymm (Nat.le_of_lt_succ hi) hge
                            subst he
                            have p44 := hpre 44 (by kernel_rfl)
                            have e44 : s44 = .pointer (some ⟨b11, 0, none⟩) := hF.get 44 _ rfl (.inr p44)
                            subst e44
                            have p43 := hpre 43 (by kernel_rfl)
                            have e43 : s43 = .bool true := hF.get 43 _ rfl (.inr p43)
                            subst e43
                            have hcc := (nine_at (keep_block H11.out (below_none hF.low))).1
                            have cH110 := hcc.1
                            have cH111 := hcc.2.1
                            have cH112 := hcc.2.2.1
                            have cH113 := hcc.2.2.2.1
                            have cH114 := hcc.2.2.2.2.1
                            have cH115 := hcc.2.2.2.2.2.1
                            have cH116 := hcc.2.2.2.2.2.2.1
                            have cH117 := hcc.2.2.2.2.2.2.2.1
                            have cH118 := hcc.2.2.2.2.2.2.2.2
                            clear hcc
                            refine step_of ⟨some 118, _, _, _, _, _⟩ rfl (fun K' hK => ?_)
                            rw [if_pos (by rfl)]
                            go_simp
                            refine hK.out _ _ ⟨_, hF.pure hok hla hpre rfl (Below.refl _ _), ?fr⟩
                            case fr => simp only [putO, layT_some, layT_none, layT_nil, List.setIfInBounds_toArray, List.set_cons_zero, List.set_cons_succ]
                          · replace hge : 46 ≤ i := hgt
                            clear hgt
                            have he : i = 46 := Nat.le_antisymm (Nat.le_of_lt_succ hi) hge
                            subst he
                            have p45 := hpre 45 (by kernel_rfl)
                            have e45 : s45 = .int .i64 1 := hF.get 45 _ rfl (.inr p45)
                            subst e45
                            have p43 := hpre 43 (by kernel_rfl)
                            have e43 : s43 = .bool true := hF.get 43 _ rfl (.inr p43)
                            subst e43
                            refine step_of ⟨some 119, _, _, _, _, _⟩ rfl (fun K' hK => ?_)
                            rw [if_pos (by rfl)]
                            go_simp
                            refine hK.out _ _ ⟨_, hF.pure hok hla hpre rfl (Below.refl _ _), ?fr⟩
                            case fr => simp only [putO, layT_some, layT_none, layT_nil, List.setIfInBounds_toArray, List.set_cons_zero, List.set_cons_succ]
                        · replace hge : 47 ≤ i := hgt
                          clear hgt
                          rcases Nat.lt_or_ge i 48 with hlt | hgt
                          · replace hi := hlt
                            clear hlt
                            have he : i = 47 := Nat.le_antisymm (Nat.le_of_lt_succ hi) hge
                            subst he
                            have p43 := hpre 43 (by kernel_rfl)
                            have e43 : s43 = .bool true := hF.get 43 _ rfl (.inr p43)
                            subst e43
                            have p46 := hpre 46 (by kernel_rfl)
                            have e46 : s46 = .bool true := hF.get 46 _ rfl (.inr p46)
                            subst e46
                            refine step_of ⟨some 120, _, _, _, _, _⟩ rfl (fun K' hK => ?_)
                            go_simp
                            refine hK.out _ _ ⟨_, hF.pure hok hla hpre rfl (Below.refl _ _), ?fr⟩
                            case fr => simp only [putO, layT_some, layT_none, layT_nil, List.setIfInBounds_toArray, List.set_cons_zero, List.set_cons_succ]
                          · replace hge : 48 ≤ i := hgt
                            clear hgt
                            have he : i = 48 := Nat.le_antisymm (Nat.le_of_lt_succ hi) hge
                            subst he
                            have p47 := hpre 47 (by kernel_rfl)
                            have e47 : s47 = .bool true := hF.get 47 _ rfl (.inr p47)
                            subst e47
                            refine step_of ⟨some 6, _, _, _, _, _⟩ rfl (fun K' hK => ?_)
                            go_simp
                            refine hK.out _ _ ⟨_, hF.pure hok hla hpre rfl (Below.refl _ _), ?fr⟩
                            case fr => simp only [putO, layT_some, layT_none, layT_nil, List.setIfInBounds_toArray, List.set_cons_zero, List.set_cons_succ]
              case hd =>
                rintro listed vs WE hF hall
                obtain ⟨s0, s1, s2, s3, s4, s5, s6, s7, s8, s9, s10, s11, s12, s13, s14, s15, s16, s17, s18, s19, s20, s21, s22, s23, s24, s25, s26, s27, s28, s29, s30, s31, s32, s33, s34, s35, s36, s37, s38, s39, s40, s41, s42, s43, s44, s45, s46, s47, s48, hvs⟩ := exl_of 49 vs (fun l => vs = l) hF.len rfl
                subst hvs
                have e48 : s48 = .bool true := hF.get 48 _ rfl (.inr (hall 48 (by decide)))
                subst e48
                have hq := below_none hF.low
                replace HE := Lib.hid (HE.out.below hq)
                replace HL := Lib.hid (HL.out.trans (hq.mono HL.out.size))
                replace H7 := Lib.hid (keep_block H7.out hq)
                replace H10 := Lib.hid (keep_block H10.out hq)
                replace H11 := Lib.hid (keep_block H11.out hq)
                replace H12 := Lib.hid (keep_block H12.out hq)
                replace HV := Lib.hid (HV.out.below hq)
                clear hq
                clear hF hall hok hna hla
                simp only [putO, layT_some, layT_none, layT_nil, List.setIfInBounds_toArray, List.set_cons_zero, List.set_cons_succ]
                go_wp2
                go_ret
                exact ⟨rfl, HL.out⟩

end Go.Proofs.YtphfefmlappidaaGreatDoor.Num.Fd
